/- The walks of the laws PieceTakes, PieceAgain and PieceEnds. -/
import Derived.Test.YtdpjloapggllpaaPcRef
namespace Go.Proofs.Ytdpjloapggllpaa.Pc
open Go.RowKit Bld
set_option linter.unusedVariables false
set_option linter.unusedSimpArgs false

set_option maxRecDepth 100000 in
set_option maxHeartbeats 1000000 in
theorem shown_any (w : World) :
    Calls Try.prog 6 #[] w fun e w' => e = .returned (.bool true) ∧ Below w.heap.size w w' := by
  have h1 : takeL [97, 92, 47, 98, 47, 99] 0 47 = ([97, 47, 98], 5, 0) := by decide
  have h2 : giveL [97, 47, 98] 47 = ([97, 92, 47, 98], 0) := by decide
  have h3 : textL [111, 110, 101, 92, 10, 116, 119, 111, 10, 114, 101, 115, 116] 0 = ([111, 110, 101, 10, 116, 119, 111, 10], 9, 0) := by decide
  have HB := Below.refl w.heap.size w
  go_enter Try.func6, Try.ntmps6
  go_wp2_with (first | (go_at_call 7; refine (take_any [97, 92, 47, 98, 47, 99] 0 47 _ (by decide) (by decide) (by decide)).mono ?_; rintro e w' ⟨rfl, hb⟩; replace HB := HB.trans (hb.mono HB.size); clear hb; rw [h1]) | (go_at_call 9; refine (give_any [97, 47, 98] 47 _ (by decide)).mono ?_; rintro e w' ⟨rfl, hb⟩; replace HB := HB.trans (hb.mono HB.size); clear hb; rw [h2]) | (go_at_call 11; refine (text_any [111, 110, 101, 92, 10, 116, 119, 111, 10, 114, 101, 115, 116] 0 _ (by decide) (by decide) (by decide)).mono ?_; rintro e w' ⟨rfl, hb⟩; replace HB := HB.trans (hb.mono HB.size); clear hb; rw [h3]))
  go_ret
  exact ⟨rfl, HB⟩

set_option maxRecDepth 100000 in
set_option maxHeartbeats 1000000 in
theorem takes_walk (l : List UInt8) (at_ : Int) (d : UInt8) (w : World) (ha : -9223372036854775808 ≤ at_) (ha' : at_ ≤ 9223372036854775807) (hm : l.length ≤ 9223372036854775807) :
    Calls Try.prog 3 #[S l, E at_, .int .u8 d.toNat] w fun e w' => e = .returned (.bool true) ∧ Below w.heap.size w w' := by
  have HB := Below.refl w.heap.size w
  by_cases h : (300 : Int) < l.length
  · go_enter Try.func3, Try.ntmps3
    go_wp2_with (go_at_call 6; refine (shown_any _).mono ?_; rintro e w' ⟨rfl, hb⟩; replace HB := HB.trans (hb.mono HB.size); clear hb)
    go_ret
    exact ⟨rfl, HB⟩
  · have h1 := take_same l at_ d
    have h2 := give_same l d
    go_enter Try.func3, Try.ntmps3
    go_wp2_with (first | (go_at_call 6; refine (shown_any _).mono ?_; rintro e w' ⟨rfl, hb⟩; (first | (replace HB := HB.trans (hb.mono HB.size)) | (replace HB := (HB.alloc HB.size _).trans (hb.mono (by have := HB.size; simp; omega)))); clear hb) | (go_at_call 7; refine (take_any _ _ _ _ (by first | omega | assumption) (by omega) (by omega)).mono ?_; rintro e w' ⟨rfl, hb⟩; (first | (replace HB := HB.trans (hb.mono HB.size)) | (replace HB := (HB.alloc HB.size _).trans (hb.mono (by have := HB.size; simp; omega)))); clear hb) | (go_at_call 9; refine (give_any _ _ _ (by omega)).mono ?_; rintro e w' ⟨rfl, hb⟩; (first | (replace HB := HB.trans (hb.mono HB.size)) | (replace HB := (HB.alloc HB.size _).trans (hb.mono (by have := HB.size; simp; omega)))); clear hb) | (go_at_call 8; refine (rtake_any _ _ _ _ (by omega)).mono ?_; rintro e w' ⟨rfl, rfl⟩) | (go_at_call 10; refine (rgive_any _ _ _ (by omega)).mono ?_; rintro e w' ⟨rfl, hb⟩; (first | (replace HB := HB.trans (hb.mono HB.size)) | (replace HB := (HB.alloc HB.size _).trans (hb.mono (by have := HB.size; simp; omega)))); clear hb))
    go_ret
    exact ⟨by simp, HB⟩

theorem rem_in (a n : Int) (ha : 0 ≤ a) (hn : 0 ≤ n) : 0 ≤ a % (n + 1) ∧ a % (n + 1) ≤ n := by
  have h1 := Int.emod_nonneg a (b := n + 1) (by omega)
  have h2 := Int.emod_lt_of_pos a (b := n + 1) (by omega)
  omega
theorem fromL_in {n : Nat} {q : Int} (h0 : 0 ≤ q) (h1 : q ≤ n) : ((fromL n q : Nat) : Int) = q := by
  unfold fromL; rw [if_neg (by omega)]; omega

set_option maxRecDepth 100000 in
set_option maxHeartbeats 1000000 in
theorem again_walk (l : List UInt8) (a : Int) (d : UInt8) (w : World) (ha : 0 ≤ a) (ha' : a ≤ 65535) (hm : l.length ≤ 9223372036854775807) :
    Calls Try.prog 4 #[S l, .int .u16 a, .int .u8 d.toNat] w fun e w' => e = .returned (.bool true) ∧ Below w.heap.size w w' := by
  have HB := Below.refl w.heap.size w
  by_cases h : (300 : Int) < l.length
  · go_enter Try.func4, Try.ntmps4
    go_wp2_with (go_at_call 6; refine (shown_any _).mono ?_; rintro e w' ⟨rfl, hb⟩; replace HB := HB.trans (hb.mono HB.size); clear hb)
    go_ret
    exact ⟨rfl, HB⟩
  obtain ⟨q, hq⟩ : ∃ q : Int, a % ((l.length : Int) + 1) = q := ⟨_, rfl⟩
  obtain ⟨q0, q1⟩ := rem_in a l.length ha (by omega)
  rw [hq] at q0 q1
  have hf := fromL_in q0 q1
  have hcs := take_cases l q d
  have hlen := take_len l q d
  obtain ⟨T, hT⟩ : ∃ T, takeL l q d = T := ⟨_, rfl⟩
  rw [hT] at hcs hlen
  have cv := conv1 d
  rcases hcs with hc | ⟨_, _, x, _, hc⟩
  · subst hc
    have HF := Lib.hid hf
    clear hf hlen
    go_enter Try.func4, Try.ntmps4
    go_wp2_with (first | (go_at_call 6; refine (shown_any _).mono ?_; rintro e w' ⟨rfl, hb⟩; (first | (replace HB := HB.trans (hb.mono HB.size)) | (replace HB := (HB.alloc HB.size _).trans (hb.mono (by have := HB.size; simp; omega)))); clear hb) | (go_at_call 7; refine (take_any _ _ _ _ (by first | omega | assumption) (by omega) (by omega)).mono ?_; rintro e w' ⟨rfl, hb⟩; (first | (replace HB := HB.trans (hb.mono HB.size)) | (replace HB := (HB.alloc HB.size _).trans (hb.mono (by have := HB.size; simp; omega)))); clear hb) | (go_at_call 9; refine (give_any _ _ _ (by omega)).mono ?_; rintro e w' ⟨rfl, hb⟩; (first | (replace HB := HB.trans (hb.mono HB.size)) | (replace HB := (HB.alloc HB.size _).trans (hb.mono (by have := HB.size; simp; omega)))); clear hb) | (go_at_call 8; refine (rtake_any _ _ _ _ (by omega)).mono ?_; rintro e w' ⟨rfl, rfl⟩) | (go_at_call 10; refine (rgive_any _ _ _ (by omega)).mono ?_; rintro e w' ⟨rfl, hb⟩; (first | (replace HB := HB.trans (hb.mono HB.size)) | (replace HB := (HB.alloc HB.size _).trans (hb.mono (by have := HB.size; simp; omega)))); clear hb))
    go_ret
    exact ⟨ret1 (by simp [Array.getD, HF.out]), HB⟩
  · have hg := give_cases T.1 d
    have hgl := give_len T.1 d
    obtain ⟨t, n, e, rfl⟩ : ∃ t n e, T = (t, n, e) := ⟨_, _, _, rfl⟩
    have he : e = 0 := by have := congrArg (fun z => z.2.2) hc; simpa using this
    subst he
    clear hc hf
    simp only at hg hgl hlen
    rcases hg with hg | ⟨u, hg, hu⟩
    · clear hgl
      go_enter Try.func4, Try.ntmps4
      go_wp2_with (first | (go_at_call 6; refine (shown_any _).mono ?_; rintro e w' ⟨rfl, hb⟩; (first | (replace HB := HB.trans (hb.mono HB.size)) | (replace HB := (HB.alloc HB.size _).trans (hb.mono (by have := HB.size; simp; omega)))); clear hb) | (go_at_call 7; refine (take_any _ _ _ _ (by first | omega | assumption) (by omega) (by omega)).mono ?_; rintro e w' ⟨rfl, hb⟩; (first | (replace HB := HB.trans (hb.mono HB.size)) | (replace HB := (HB.alloc HB.size _).trans (hb.mono (by have := HB.size; simp; omega)))); clear hb) | (go_at_call 9; refine (give_any _ _ _ (by omega)).mono ?_; rintro e w' ⟨rfl, hb⟩; (first | (replace HB := HB.trans (hb.mono HB.size)) | (replace HB := (HB.alloc HB.size _).trans (hb.mono (by have := HB.size; simp; omega)))); clear hb) | (go_at_call 8; refine (rtake_any _ _ _ _ (by omega)).mono ?_; rintro e w' ⟨rfl, rfl⟩) | (go_at_call 10; refine (rgive_any _ _ _ (by omega)).mono ?_; rintro e w' ⟨rfl, hb⟩; (first | (replace HB := HB.trans (hb.mono HB.size)) | (replace HB := (HB.alloc HB.size _).trans (hb.mono (by have := HB.size; simp; omega)))); clear hb))
      go_ret
      exact ⟨ret1 (by simp [Array.getD]), HB⟩
    · rw [hg] at hgl
      simp only at hgl
      have cc := fun w => run_string_add_lists (P := Try.prog) w u [d] (by omega) (by simp)
      have hul : (u ++ [d]).length ≤ 10000 := by simp; omega
      go_enter Try.func4, Try.ntmps4
      go_wp2_with (first | (go_at_call 6; refine (shown_any _).mono ?_; rintro e w' ⟨rfl, hb⟩; (first | (replace HB := HB.trans (hb.mono HB.size)) | (replace HB := (HB.alloc HB.size _).trans (hb.mono (by have := HB.size; simp; omega)))); clear hb) | (go_at_call 7; refine (take_any _ _ _ _ (by first | omega | assumption) (by omega) (by omega)).mono ?_; rintro e w' ⟨rfl, hb⟩; (first | (replace HB := HB.trans (hb.mono HB.size)) | (replace HB := (HB.alloc HB.size _).trans (hb.mono (by have := HB.size; simp; omega)))); clear hb) | (go_at_call 9; refine (give_any _ _ _ (by omega)).mono ?_; rintro e w' ⟨rfl, hb⟩; (first | (replace HB := HB.trans (hb.mono HB.size)) | (replace HB := (HB.alloc HB.size _).trans (hb.mono (by have := HB.size; simp; omega)))); clear hb) | (go_at_call 8; refine (rtake_any _ _ _ _ (by omega)).mono ?_; rintro e w' ⟨rfl, rfl⟩) | (go_at_call 10; refine (rgive_any _ _ _ (by omega)).mono ?_; rintro e w' ⟨rfl, hb⟩; (first | (replace HB := HB.trans (hb.mono HB.size)) | (replace HB := (HB.alloc HB.size _).trans (hb.mono (by have := HB.size; simp; omega)))); clear hb))
      go_ret
      exact ⟨ret1 (by simp [Array.getD]), HB⟩

set_option maxRecDepth 100000 in
set_option maxHeartbeats 1000000 in
theorem ends_walk (l rest : List UInt8) (d : UInt8) (w : World) (hm : l.length ≤ 9223372036854775807) (hm' : rest.length ≤ 9223372036854775807) :
    Calls Try.prog 5 #[S l, S rest, .int .u8 d.toNat] w fun e w' => e = .returned (.bool true) ∧ Below w.heap.size w w' := by
  have HB := Below.refl w.heap.size w
  by_cases h : (300 : Int) < l.length
  · go_enter Try.func5, Try.ntmps5
    go_wp2_with (go_at_call 6; refine (shown_any _).mono ?_; rintro e w' ⟨rfl, hb⟩; replace HB := HB.trans (hb.mono HB.size); clear hb)
    go_ret
    exact ⟨rfl, HB⟩
  by_cases h' : (300 : Int) < rest.length
  · go_enter Try.func5, Try.ntmps5
    go_wp2_with (go_at_call 6; refine (shown_any _).mono ?_; rintro e w' ⟨rfl, hb⟩; replace HB := HB.trans (hb.mono HB.size); clear hb)
    go_ret
    exact ⟨rfl, HB⟩
  rcases take_ends l d with hc | ⟨t, n, hc, n1, n2, n3, n4⟩
  · go_enter Try.func5, Try.ntmps5
    go_wp2_with (first | (go_at_call 6; refine (shown_any _).mono ?_; rintro e w' ⟨rfl, hb⟩; (first | (replace HB := HB.trans (hb.mono HB.size)) | (replace HB := (HB.alloc HB.size _).trans (hb.mono (by have := HB.size; simp; omega)))); clear hb) | (go_at_call 7; refine (take_any _ _ _ _ (by first | omega | assumption) (by omega) (by omega)).mono ?_; rintro e w' ⟨rfl, hb⟩; (first | (replace HB := HB.trans (hb.mono HB.size)) | (replace HB := (HB.alloc HB.size _).trans (hb.mono (by have := HB.size; simp; omega)))); clear hb) | (go_at_call 9; refine (give_any _ _ _ (by omega)).mono ?_; rintro e w' ⟨rfl, hb⟩; (first | (replace HB := HB.trans (hb.mono HB.size)) | (replace HB := (HB.alloc HB.size _).trans (hb.mono (by have := HB.size; simp; omega)))); clear hb) | (go_at_call 8; refine (rtake_any _ _ _ _ (by omega)).mono ?_; rintro e w' ⟨rfl, rfl⟩) | (go_at_call 10; refine (rgive_any _ _ _ (by omega)).mono ?_; rintro e w' ⟨rfl, hb⟩; (first | (replace HB := HB.trans (hb.mono HB.size)) | (replace HB := (HB.alloc HB.size _).trans (hb.mono (by have := HB.size; simp; omega)))); clear hb))
    go_ret
    exact ⟨ret1 (by simp [Array.getD]), HB⟩
  · have n5 := n4 rest
    have hlt : n - 1 < l.length := by omega
    have hcell : ((ByteArray.mk l.toArray)[n - 1]'hlt) = d := by
      have : l[n - 1]? = some (l[n - 1]'hlt) := List.getElem?_eq_getElem hlt
      rw [this] at n3
      exact Option.some.inj n3
    have ex := extract_take l 0 n
    simp only [Nat.zero_add, List.drop_zero] at ex
    have cc := fun w => run_string_add_lists (P := Try.prog) w (l.take n) rest (by simp; omega) (by omega)
    have hul : (l.take n ++ rest).length ≤ 10000 := by simp; omega
    have hI : (0 : Int) ≤ (n : Int) - 1 := by omega
    have hI' : 1 ≤ (n : Int) := by omega
    clear n4 n3
    go_enter Try.func5, Try.ntmps5
    go_wp2_with (first | (go_at_call 6; refine (shown_any _).mono ?_; rintro e w' ⟨rfl, hb⟩; (first | (replace HB := HB.trans (hb.mono HB.size)) | (replace HB := (HB.alloc HB.size _).trans (hb.mono (by have := HB.size; simp; omega)))); clear hb) | (go_at_call 7; refine (take_any _ _ _ _ (by first | omega | assumption) (by omega) (by omega)).mono ?_; rintro e w' ⟨rfl, hb⟩; (first | (replace HB := HB.trans (hb.mono HB.size)) | (replace HB := (HB.alloc HB.size _).trans (hb.mono (by have := HB.size; simp; omega)))); clear hb) | (go_at_call 9; refine (give_any _ _ _ (by omega)).mono ?_; rintro e w' ⟨rfl, hb⟩; (first | (replace HB := HB.trans (hb.mono HB.size)) | (replace HB := (HB.alloc HB.size _).trans (hb.mono (by have := HB.size; simp; omega)))); clear hb) | (go_at_call 8; refine (rtake_any _ _ _ _ (by omega)).mono ?_; rintro e w' ⟨rfl, rfl⟩) | (go_at_call 10; refine (rgive_any _ _ _ (by omega)).mono ?_; rintro e w' ⟨rfl, hb⟩; (first | (replace HB := HB.trans (hb.mono HB.size)) | (replace HB := (HB.alloc HB.size _).trans (hb.mono (by have := HB.size; simp; omega)))); clear hb))
    go_ret
    exact ⟨ret1 (by simp [Array.getD]), HB⟩

/-! ### As the laws' frames ask -/
theorem as_list (s : ByteArray) : ∃ l : List UInt8, s = ⟨l.toArray⟩ ∧ l.length = s.size := ⟨s.data.toList, (Lib.mk_data s).symm, Array.length_toList⟩
theorem as_byte {n : Int} (h : (Lit.int .u8 n).wf = true) : ∃ d : UInt8, n = d.toNat := by
  have h' : 0 ≤ n ∧ n ≤ 255 := by simpa [Lit.wf, IntKind.min, IntKind.max, IntKind.signed, IntKind.bits] using h
  refine ⟨UInt8.ofNat n.toNat, ?_⟩
  have e : (UInt8.ofNat n.toNat).toNat = n.toNat % 256 := rfl
  rw [e, Nat.mod_eq_of_lt (by omega)]; omega
theorem wf_i64 {n : Int} (h : (Lit.int .i64 n).wf = true) : -9223372036854775808 ≤ n ∧ n ≤ 9223372036854775807 := by
  simpa [Lit.wf, IntKind.min, IntKind.max, IntKind.signed, IntKind.bits] using h
theorem wf_u16 {n : Int} (h : (Lit.int .u16 n).wf = true) : 0 ≤ n ∧ n ≤ 65535 := by
  simpa [Lit.wf, IntKind.min, IntKind.max, IntKind.signed, IntKind.bits] using h
theorem pieceTakes_walk (s : ByteArray) (a d : Int) (ws : s.size ≤ maxLen) (wa : (Lit.int .i64 a).wf = true) (wd : (Lit.int .u8 d).wf = true) (w : World) :
    Calls Try.prog 3 #[.string s, .int .i64 a, .int .u8 d] w fun e w' => e = .returned (.bool true) ∧ Below w.heap.size w w' := by
  obtain ⟨l, rfl, hl⟩ := as_list s
  obtain ⟨d, rfl⟩ := as_byte wd
  obtain ⟨a1, a2⟩ := wf_i64 wa
  unfold maxLen at ws
  exact takes_walk l a d w a1 a2 (by omega)
theorem pieceAgain_walk (s : ByteArray) (a d : Int) (ws : s.size ≤ maxLen) (wa : (Lit.int .u16 a).wf = true) (wd : (Lit.int .u8 d).wf = true) (w : World) :
    Calls Try.prog 4 #[.string s, .int .u16 a, .int .u8 d] w fun e w' => e = .returned (.bool true) ∧ Below w.heap.size w w' := by
  obtain ⟨l, rfl, hl⟩ := as_list s
  obtain ⟨d, rfl⟩ := as_byte wd
  obtain ⟨a1, a2⟩ := wf_u16 wa
  unfold maxLen at ws
  exact again_walk l a d w a1 a2 (by omega)
theorem pieceEnds_walk (s t : ByteArray) (d : Int) (ws : s.size ≤ maxLen) (wt : t.size ≤ maxLen) (wd : (Lit.int .u8 d).wf = true) (w : World) :
    Calls Try.prog 5 #[.string s, .string t, .int .u8 d] w fun e w' => e = .returned (.bool true) ∧ Below w.heap.size w w' := by
  obtain ⟨l, rfl, hl⟩ := as_list s
  obtain ⟨r, rfl, hr⟩ := as_list t
  obtain ⟨d, rfl⟩ := as_byte wd
  unfold maxLen at ws wt
  exact ends_walk l r d w (by omega) (by omega)
end Go.Proofs.Ytdpjloapggllpaa.Pc
