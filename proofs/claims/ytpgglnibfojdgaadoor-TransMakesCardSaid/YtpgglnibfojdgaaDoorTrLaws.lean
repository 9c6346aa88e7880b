/- The walks of the laws TransPiece and TransLines. -/
import Derived.Test.YtpgglnibfojdgaaDoorTrShown
import Derived.Deep.RegionHeld3
namespace Go.Proofs.YtpgglnibfojdgaaDoor.Tr
open Go.RowKit Go.Shelf Bld
set_option linter.unusedVariables false
set_option linter.unusedSimpArgs false
theorem as_list (s : ByteArray) : ∃ l : List UInt8, s = ⟨l.toArray⟩ ∧ l.length = s.size := ⟨s.data.toList, (Lib.mk_data s).symm, Array.length_toList⟩
theorem as_byte {n : Int} (h : (Lit.int .u8 n).wf = true) : ∃ d : UInt8, n = d.toNat := by
  have h' : 0 ≤ n ∧ n ≤ 255 := by simpa [Lit.wf, IntKind.min, IntKind.max, IntKind.signed, IntKind.bits] using h
  refine ⟨UInt8.ofNat n.toNat, ?_⟩
  have e : (UInt8.ofNat n.toNat).toNat = n.toNat % 256 := rfl
  rw [e, Nat.mod_eq_of_lt (by omega)]; omega
theorem wf_i64 {n : Int} (h : (Lit.int .i64 n).wf = true) : -9223372036854775808 ≤ n ∧ n ≤ 9223372036854775807 := by
  simpa [Lit.wf, IntKind.min, IntKind.max, IntKind.signed, IntKind.bits] using h
theorem ex_take (l : List UInt8) (n : Nat) : (⟨l.toArray⟩ : ByteArray).extract 0 n = ⟨(l.take n).toArray⟩ := by
  rw [Go.Lib.extract_eq]; simp
theorem lines_at {w line : Nat} {t : List UInt8} {k : Nat} (h : k < t.length) (hc : chk w line (t.drop k) = some 0) :
    (t[k] = 10 → ¬ (2 ≤ w ∧ w < line ∧ 5 < line) ∧ chk w 0 (t.drop (k + 1)) = some 0) ∧ (t[k] ≠ 10 → 32 ≤ t[k].toNat ∧ t[k].toNat ≤ 126 ∧ chk w (line + 1) (t.drop (k + 1)) = some 0) := by
  rw [List.drop_eq_getElem_cons h] at hc
  simp only [chk] at hc
  constructor
  · intro e
    rw [if_pos e] at hc
    split at hc
    · cases hc
    · rename_i hn
      exact ⟨hn, hc⟩
  · intro e
    rw [if_neg e] at hc
    split at hc
    · cases hc
    · exact ⟨by omega, by omega, hc⟩
theorem list_dollar (s : List UInt8) (width : Int) : (listL s width)[(listL s width).length - 2]? = some 36 := by
  rw [listL_body]
  have e : (bodyL width 0 s ++ [36, 10]).length - 2 = (bodyL width 0 s).length := by simp
  rw [e, List.getElem?_append_right (Nat.le_refl _)]
  simp
set_option maxRecDepth 100000 in
set_option maxHeartbeats 3200000 in
theorem lines_walk (s : List UInt8) (d : UInt8) (w : World) (hL : Lay w) (hm : s.length ≤ 9223372036854775807) :
    Calls Tryd.prog 5 #[S s, Y d.toNat] w fun e w' => e = .returned (.bool true) ∧ Below w.heap.size w w' := by
  have HL := Lib.hid hL
  clear hL
  by_cases h : (200 : Int) < s.length
  · go_enter Tryd.func5, Tryd.ntmps5
    go_wp2_with (go_at_call 9; refine (shown_any _ HL.out).mono ?_; rintro e w1 ⟨rfl, hb⟩)
    go_ret
    exact ⟨rfl, hb⟩
  have hlen := listL_len s (d.toNat : Int)
  have hdol := list_dollar s (d.toNat : Int)
  have hchk := chk_list d.toNat s
  have hbd := UInt8.toNat_lt d
  have hsl : s.length ≤ 200 := by omega
  have HLIST := Lib.hid (fun (wq : World) (hb : Below w.heap.size w wq) => list_any s (d.toNat : Int) wq (HL.out.below hb).t (by omega))
  generalize d.toNat = n at *
  obtain ⟨t, ht⟩ : ∃ t, listL s (n : Int) = t := ⟨_, rfl⟩
  rw [ht] at hlen hdol hchk HLIST
  clear ht
  obtain ⟨hle, h2⟩ := hlen
  have htl : t.length ≤ 2000 := by omega
  have HC0 := Lib.hid hchk
  have HDOL := Lib.hid hdol
  clear hchk hle hdol
  go_enter Tryd.func5, Tryd.ntmps5
  go_wp2_with (first
    | (go_at_call 9; refine (shown_any _ HL.out).mono ?_; rintro e w1 ⟨rfl, hb⟩; have HB1 := Lib.hid hb; clear hb)
    | (go_at_call 18; refine (HLIST.out _ HB1.out).mono ?_; rintro e w2 ⟨rfl, hb⟩; have HB2 := Lib.hid (HB1.out.trans (hb.mono HB1.out.size)); clear hb))
  go_loop [7, 8] (fun ln i => ∃ k line : Nat, k ≤ t.length ∧ i = .int .i64 (k : Nat) ∧ ln = .int .i64 (line : Nat) ∧ line ≤ k ∧ Hid (chk n line (t.drop k) = some 0)) (fun _ i => t.length - (intOf i).toNat)
  case atStart => exact ⟨0, 0, Nat.zero_le _, rfl, rfl, Nat.le_refl _, Lib.hid (by simpa using HC0.out)⟩
  case round =>
    obtain ⟨k, line, hk, rfl, rfl, hlk, HC⟩ := hrel
    by_cases hlt : k < t.length
    · have hx : ((ByteArray.mk t.toArray)[k]'hlt) = t[k] := rfl
      obtain ⟨h10, hno⟩ := lines_at hlt HC.out
      by_cases hc : t[k] = 10
      · obtain ⟨hnn, hnx⟩ := h10 hc
        have HN := Lib.hid hnx
        have HNN := Lib.hid hnn
        have hcI : (((t[k].toNat : Nat) : Int) == 10) = true := by rw [hc]; rfl
        clear h10 hno hnx hnn hc HC
        generalize t[k] = c at *
        by_cases f1 : 2 ≤ n
        · have f1' : (2 : Int) ≤ (n : Nat) := by omega
          by_cases f2 : n < line
          · have f2' : ((n : Nat) : Int) < ((line : Nat) : Int) := by omega
            have f3' : ¬ (5 : Int) < ((line : Nat) : Int) := by
              intro q; exact HNN.out ⟨f1, f2, by omega⟩
            go_wp2
            go_round
            case rel => exact ⟨k + 1, 0, by omega, by go_num, rfl, by omega, HN⟩
            case measure => simp [intOf]; omega
          · have f2' : ¬ ((n : Nat) : Int) < ((line : Nat) : Int) := by omega
            go_wp2
            go_round
            case rel => exact ⟨k + 1, 0, by omega, by go_num, rfl, by omega, HN⟩
            case measure => simp [intOf]; omega
        · have f1' : ¬ (2 : Int) ≤ (n : Nat) := by omega
          go_wp2
          go_round
          case rel => exact ⟨k + 1, 0, by omega, by go_num, rfl, by omega, HN⟩
          case measure => simp [intOf]; omega
      · obtain ⟨a1, a2, a3⟩ := hno hc
        have HN := Lib.hid a3
        have hcI : (((t[k].toNat : Nat) : Int) == 10) = false := by
          rw [beq_eq_false_iff_ne]; intro q; exact hc (UInt8.toNat_inj.1 (by simpa using (by omega : t[k].toNat = 10)))
        have a1' : ¬ ((t[k].toNat : Nat) : Int) < 32 := by omega
        have a2' : ¬ (126 : Int) < ((t[k].toNat : Nat) : Int) := by omega
        clear h10 hno hc HC a3 a1 a2
        generalize t[k] = c at *
        go_wp2
        go_round
        case rel => exact ⟨k + 1, line + 1, by omega, by go_num, by go_num, by omega, HN⟩
        case measure => simp [intOf]; omega
    · obtain rfl : k = t.length := by omega
      have hc := HC.out
      rw [List.drop_of_length_le (Nat.le_refl _)] at hc
      obtain rfl : line = 0 := by simpa [chk] using hc
      have hlt2 : t.length - 2 < t.length := by omega
      have hx : ((ByteArray.mk t.toArray)[t.length - 2]'hlt2) = 36 := by
        have := HDOL.out
        rw [List.getElem?_eq_getElem hlt2] at this
        exact Option.some.inj this
      have e2 : ((t.length : Nat) : Int) - 2 = ((t.length - 2 : Nat) : Int) := by omega
      have h2' : (2 : Int) ≤ ((t.length : Nat) : Int) := by omega
      have h02 : (0 : Int) ≤ ((t.length : Nat) : Int) - 2 := by omega
      clear hc HC HC0
      go_wp2
      go_ret
      exact ⟨ret1 (by simp), HB2.out⟩
set_option maxRecDepth 100000 in
set_option maxHeartbeats 3200000 in
theorem piece_walk (s t : List UInt8) (w : World) (hL : Lay w) (hm : s.length ≤ 9223372036854775807) (hm2 : t.length ≤ 9223372036854775807) :
    Calls Tryd.prog 7 #[S s, S t] w fun e w' => e = .returned (.bool true) ∧ Below w.heap.size w w' := by
  have HL := Lib.hid hL
  clear hL
  by_cases h : (200 : Int) < s.length
  · go_enter Tryd.func7, Tryd.ntmps7
    go_wp2_with (go_at_call 9; refine (shown_any _ HL.out).mono ?_; rintro e w1 ⟨rfl, hb⟩)
    go_ret
    exact ⟨rfl, hb⟩
  by_cases h' : (200 : Int) < t.length
  · go_enter Tryd.func7, Tryd.ntmps7
    go_wp2_with (go_at_call 9; refine (shown_any _ HL.out).mono ?_; rintro e w1 ⟨rfl, hb⟩)
    go_ret
    exact ⟨rfl, hb⟩
  have HA := Lib.hid (fun (wq : World) (hb : Below w.heap.size w wq) => list_any s 0 wq (HL.out.below hb).t (by omega))
  have HT := Lib.hid (fun (wq : World) (hb : Below w.heap.size w wq) => list_any t 0 wq (HL.out.below hb).t (by omega))
  have HST := Lib.hid (fun (wq : World) (hb : Below w.heap.size w wq) => list_any (s ++ t) 0 wq (HL.out.below hb).t (by simp; omega))
  have H1 := Lib.hid (fun (wq : World) (hb : Below w.heap.size w wq) => list_any s 1 wq (HL.out.below hb).t (by omega))
  have H5 := Lib.hid (fun (wq : World) (hb : Below w.heap.size w wq) => list_any s (-5) wq (HL.out.below hb).t (by omega))
  have hla := listL_len s 0
  have hlb := listL_len t 0
  have e1 : listL s 1 = listL s 0 := by rw [list_none (by omega), list_none (by omega)]
  have e5 : listL s (-5) = listL s 0 := by rw [list_none (by omega), list_none (by omega)]
  have e2 := list_two s t
  rw [e1] at H1
  rw [e5] at H5
  rw [e2] at HST
  clear e1 e5 e2
  generalize listL s 0 = a at *
  generalize listL t 0 = b at *
  obtain ⟨hla1, hla2⟩ := hla
  obtain ⟨hlb1, hlb2⟩ := hlb
  have cc := fun w => run_string_add_lists (P := Tryd.prog) w s t (by omega) (by omega)
  have cd := fun w => run_string_add_lists (P := Tryd.prog) w (a.take (a.length - 2)) b (by simp; omega) (by omega)
  have ex := ex_take a (a.length - 2)
  have em : IntKind.i64.wrap ((a.length : Int) - 2) = ((a.length - 2 : Nat) : Int) := by rw [IntKind.wrap_i64]; omega
  have em1 : (max ((a.length - 2 : Nat) : Int) 0) = ((a.length - 2 : Nat) : Int) := by omega
  have em0 : (0 : Int) ≤ ((a.length - 2 : Nat) : Int) := by omega
  have em2 : ((a.length - 2 : Nat) : Int) ≤ ((a.length : Nat) : Int) := by omega
  obtain ⟨m, hmm⟩ : ∃ m, a.length - 2 = m := ⟨_, rfl⟩
  rw [hmm] at cd ex em em0 em1 em2 HST
  clear hmm
  go_enter Tryd.func7, Tryd.ntmps7
  rw [show Code.region 5 = Fz 5 from rfl]
  go_wp2_with (first
    | (go_at_call 9; refine (shown_any _ HL.out).mono ?_; rintro e w1 ⟨rfl, hb⟩; have HB1 := Lib.hid hb; clear hb)
    | (go_at_call 18; refine (HA.out _ HB1.out).mono ?_; rintro e w2 ⟨rfl, hb⟩; have HB2 := Lib.hid (HB1.out.trans (hb.mono HB1.out.size)); clear HB1 hb)
    | (go_at_call 18; refine (HT.out _ HB2.out).mono ?_; rintro e w3 ⟨rfl, hb⟩; have HB3 := Lib.hid (HB2.out.trans (hb.mono HB2.out.size)); clear HB2 hb))
  rw [show Fz 5 = Code.region 5 from rfl]
  have hbelow := HB3.out
  refine wp_region_noPanic ?_
  refine wp_region_held_drew (S := fun w' => Below w.heap.size w w') (by kernel_rfl) ?_ (fun hHeld => ?_)
  · (try dsimp only); exact HB3.out.drew
  refine wpAnyH_take (i := 0) (oi := ?o0) (v := ?v0) ?hi0 (by kernel_rfl) (by kernel_rfl) (by kernel_rfl) (fun _ _ _ h => h) ?hy0 (by assumption) ?r0
  case hi0 => simp only [List.getElem?_toArray, List.getElem?_cons_succ, List.getElem?_cons_zero]; rfl
  case hy0 => exact Or.inl ⟨by rfl, by (intro w hSw; (try dsimp only at hSw); go_simp) <;> with_reducible rfl⟩
  try simp only [Act.put, List.setIfInBounds_toArray, List.set_cons_zero, List.set_cons_succ]
  refine wpAnyH_take (i := 1) (oi := ?o1) (v := ?v1) ?hi1 (by kernel_rfl) (by kernel_rfl) (by kernel_rfl) (fun _ _ _ h => h) ?hy1 (by assumption) ?r1
  case hi1 => simp only [List.getElem?_toArray, List.getElem?_cons_succ, List.getElem?_cons_zero]; rfl
  case hy1 => exact Or.inl ⟨by rfl, by (intro w hSw; (try dsimp only at hSw); go_simp) <;> with_reducible rfl⟩
  try simp only [Act.put, List.setIfInBounds_toArray, List.set_cons_zero, List.set_cons_succ]
  refine wpAnyH_take (i := 2) (oi := ?o2) (v := ?v2) ?hi2 (by kernel_rfl) (by kernel_rfl) (by kernel_rfl) (fun _ _ _ h => h) ?hy2 (by assumption) ?r2
  case hi2 => simp only [List.getElem?_toArray, List.getElem?_cons_succ, List.getElem?_cons_zero]; rfl
  case hy2 => exact Or.inl ⟨by rfl, by (intro w hSw; (try dsimp only at hSw); go_simp) <;> with_reducible rfl⟩
  try simp only [Act.put, List.setIfInBounds_toArray, List.set_cons_zero, List.set_cons_succ]
  refine wpAnyH_take (i := 4) (oi := ?o4) (v := ?v4) ?hi4 (by kernel_rfl) (by kernel_rfl) (by kernel_rfl) (fun _ _ _ h => h) ?hy4 (by assumption) ?r4
  case hi4 => simp only [List.getElem?_toArray, List.getElem?_cons_succ, List.getElem?_cons_zero]; rfl
  case hy4 => exact Or.inl ⟨by rfl, by (intro w hSw; (try dsimp only at hSw); go_simp) <;> with_reducible rfl⟩
  try simp only [Act.put, List.setIfInBounds_toArray, List.set_cons_zero, List.set_cons_succ]
  refine wpAnyH_take (i := 5) (oi := ?o5) (v := ?v5) ?hi5 (by kernel_rfl) (by kernel_rfl) (by kernel_rfl) (fun _ _ _ h => h) ?hy5 (by assumption) ?r5
  case hi5 => simp only [List.getElem?_toArray, List.getElem?_cons_succ, List.getElem?_cons_zero]; rfl
  case hy5 => exact Or.inl ⟨by rfl, by (intro w hSw; (try dsimp only at hSw); go_simp) <;> with_reducible rfl⟩
  try simp only [Act.put, List.setIfInBounds_toArray, List.set_cons_zero, List.set_cons_succ]
  refine wpAnyH_take (i := 6) (oi := ?o6) (v := ?v6) ?hi6 (by kernel_rfl) (by kernel_rfl) (by kernel_rfl) (fun _ _ _ h => h) ?hy6 (by assumption) ?r6
  case hi6 => simp only [List.getElem?_toArray, List.getElem?_cons_succ, List.getElem?_cons_zero]; rfl
  case hy6 => exact Or.inl ⟨by rfl, by (intro w hSw; (try dsimp only at hSw); go_simp) <;> with_reducible rfl⟩
  try simp only [Act.put, List.setIfInBounds_toArray, List.set_cons_zero, List.set_cons_succ]
  refine wpAnyH_take (i := 7) (oi := ?o7) (v := ?v7) ?hi7 (by kernel_rfl) (by kernel_rfl) (by kernel_rfl) (fun _ _ _ h => h) ?hy7 (by assumption) ?r7
  case hi7 => simp only [List.getElem?_toArray, List.getElem?_cons_succ, List.getElem?_cons_zero]; rfl
  case hy7 => exact Or.inl ⟨by rfl, by (intro w hSw; (try dsimp only at hSw); go_simp) <;> with_reducible rfl⟩
  try simp only [Act.put, List.setIfInBounds_toArray, List.set_cons_zero, List.set_cons_succ]
  refine wpAnyH_take (i := 8) (oi := ?o8) (v := ?v8) ?hi8 (by kernel_rfl) (by kernel_rfl) (by kernel_rfl) (fun _ _ _ h => h) ?hy8 (by assumption) ?r8
  case hi8 => simp only [List.getElem?_toArray, List.getElem?_cons_succ, List.getElem?_cons_zero]; rfl
  case hy8 => exact Or.inl ⟨by rfl, by (intro w hSw; (try dsimp only at hSw); go_simp) <;> with_reducible rfl⟩
  try simp only [Act.put, List.setIfInBounds_toArray, List.set_cons_zero, List.set_cons_succ]
  refine wpAnyH_take (i := 9) (oi := ?o9) (v := ?v9) ?hi9 (by kernel_rfl) (by kernel_rfl) (by kernel_rfl) (fun _ _ _ h => h) ?hy9 (by assumption) ?r9
  case hi9 => simp only [List.getElem?_toArray, List.getElem?_cons_succ, List.getElem?_cons_zero]; rfl
  case hy9 => exact Or.inl ⟨by rfl, by (intro w hSw; (try dsimp only at hSw); go_simp) <;> with_reducible rfl⟩
  try simp only [Act.put, List.setIfInBounds_toArray, List.set_cons_zero, List.set_cons_succ]
  refine wpAnyH_take (i := 10) (oi := ?o10) (v := ?v10) ?hi10 (by kernel_rfl) (by kernel_rfl) (by kernel_rfl) (fun _ _ _ h => h) ?hy10 (by assumption) ?r10
  case hi10 => simp only [List.getElem?_toArray, List.getElem?_cons_succ, List.getElem?_cons_zero]; rfl
  case hy10 => exact Or.inl ⟨by rfl, by (intro w hSw; (try dsimp only at hSw); go_simp) <;> with_reducible rfl⟩
  try simp only [Act.put, List.setIfInBounds_toArray, List.set_cons_zero, List.set_cons_succ]
  refine wpAnyH_take (i := 11) (oi := ?o11) (v := ?v11) ?hi11 (by kernel_rfl) (by kernel_rfl) (by kernel_rfl) (fun _ _ _ h => h) ?hy11 (by assumption) ?r11
  case hi11 => simp only [List.getElem?_toArray, List.getElem?_cons_succ, List.getElem?_cons_zero]; rfl
  case hy11 => exact Or.inl ⟨by rfl, by (intro w hSw; (try dsimp only at hSw); go_simp) <;> with_reducible rfl⟩
  try simp only [Act.put, List.setIfInBounds_toArray, List.set_cons_zero, List.set_cons_succ]
  refine wpAnyH_ready (rs := [3]) (by kernel_rfl) (by simp) ?_
  refine AllReadyH.cons (o := ?o3) ?hi3 (fun K hK => ?st3) AllReadyH.nil
  case hi3 => simp only [List.getElem?_toArray, List.getElem?_cons_succ, List.getElem?_cons_zero]; rfl
  go_simp
  go_at_call 18; refine (HST.out _ hHeld).mono ?_; rintro e w' ⟨rfl, hbl⟩
  refine hK.out _ _ ?_ (fun hHeld => ?_)
  · (try dsimp only); (first | exact hHeld | exact hHeld.trans (hbl.mono hHeld.size))
  clear hK K
  try simp only [Act.put, List.setIfInBounds_toArray, List.set_cons_zero, List.set_cons_succ]
  refine wpAnyH_take (i := 12) (oi := ?o12) (v := ?v12) ?hi12 (by kernel_rfl) (by kernel_rfl) (by kernel_rfl) (fun _ _ _ h => h) ?hy12 (by assumption) ?r12
  case hi12 => simp only [List.getElem?_toArray, List.getElem?_cons_succ, List.getElem?_cons_zero]; rfl
  case hy12 => exact Or.inl ⟨by rfl, by (intro w hSw; (try dsimp only at hSw); go_simp) <;> with_reducible rfl⟩
  try simp only [Act.put, List.setIfInBounds_toArray, List.set_cons_zero, List.set_cons_succ]
  refine wpAnyH_take (i := 13) (oi := ?o13) (v := ?v13) ?hi13 (by kernel_rfl) (by kernel_rfl) (by kernel_rfl) (fun _ _ _ h => h) ?hy13 (by assumption) ?r13
  case hi13 => simp only [List.getElem?_toArray, List.getElem?_cons_succ, List.getElem?_cons_zero]; rfl
  case hy13 => exact Or.inl ⟨by rfl, by (intro w hSw; (try dsimp only at hSw); go_simp) <;> with_reducible rfl⟩
  try simp only [Act.put, List.setIfInBounds_toArray, List.set_cons_zero, List.set_cons_succ]
  refine wpAnyH_take (i := 14) (oi := ?o14) (v := ?v14) ?hi14 (by kernel_rfl) (by kernel_rfl) (by kernel_rfl) (fun _ _ _ h => h) ?hy14 (by assumption) ?r14
  case hi14 => simp only [List.getElem?_toArray, List.getElem?_cons_succ, List.getElem?_cons_zero]; rfl
  case hy14 => exact Or.inl ⟨by rfl, by (intro w hSw; (try dsimp only at hSw); go_simp) <;> with_reducible rfl⟩
  try simp only [Act.put, List.setIfInBounds_toArray, List.set_cons_zero, List.set_cons_succ]
  refine wpAnyH_take (i := 16) (oi := ?o16) (v := ?v16) ?hi16 (by kernel_rfl) (by kernel_rfl) (by kernel_rfl) (fun _ _ _ h => h) ?hy16 (by assumption) ?r16
  case hi16 => simp only [List.getElem?_toArray, List.getElem?_cons_succ, List.getElem?_cons_zero]; rfl
  case hy16 => exact Or.inl ⟨by rfl, by (intro w hSw; (try dsimp only at hSw); go_simp) <;> with_reducible rfl⟩
  try simp only [Act.put, List.setIfInBounds_toArray, List.set_cons_zero, List.set_cons_succ]
  refine wpAnyH_ready (rs := [15]) (by kernel_rfl) (by simp) ?_
  refine AllReadyH.cons (o := ?o15) ?hi15 (fun K hK => ?st15) AllReadyH.nil
  case hi15 => simp only [List.getElem?_toArray, List.getElem?_cons_succ, List.getElem?_cons_zero]; rfl
  go_simp
  go_at_call 18; refine (H1.out _ hHeld).mono ?_; rintro e w' ⟨rfl, hbl⟩
  refine hK.out _ _ ?_ (fun hHeld => ?_)
  · (try dsimp only); (first | exact hHeld | exact hHeld.trans (hbl.mono hHeld.size))
  clear hK K
  try simp only [Act.put, List.setIfInBounds_toArray, List.set_cons_zero, List.set_cons_succ]
  refine wpAnyH_take (i := 17) (oi := ?o17) (v := ?v17) ?hi17 (by kernel_rfl) (by kernel_rfl) (by kernel_rfl) (fun _ _ _ h => h) ?hy17 (by assumption) ?r17
  case hi17 => simp only [List.getElem?_toArray, List.getElem?_cons_succ, List.getElem?_cons_zero]; rfl
  case hy17 => exact Or.inl ⟨by rfl, by (intro w hSw; (try dsimp only at hSw); go_simp) <;> with_reducible rfl⟩
  try simp only [Act.put, List.setIfInBounds_toArray, List.set_cons_zero, List.set_cons_succ]
  refine wpAnyH_take (i := 18) (oi := ?o18) (v := ?v18) ?hi18 (by kernel_rfl) (by kernel_rfl) (by kernel_rfl) (fun _ _ _ h => h) ?hy18 (by assumption) ?r18
  case hi18 => simp only [List.getElem?_toArray, List.getElem?_cons_succ, List.getElem?_cons_zero]; rfl
  case hy18 => exact Or.inl ⟨by rfl, by (intro w hSw; (try dsimp only at hSw); go_simp) <;> with_reducible rfl⟩
  try simp only [Act.put, List.setIfInBounds_toArray, List.set_cons_zero, List.set_cons_succ]
  refine wpAnyH_take (i := 19) (oi := ?o19) (v := ?v19) ?hi19 (by kernel_rfl) (by kernel_rfl) (by kernel_rfl) (fun _ _ _ h => h) ?hy19 (by assumption) ?r19
  case hi19 => simp only [List.getElem?_toArray, List.getElem?_cons_succ, List.getElem?_cons_zero]; rfl
  case hy19 => exact Or.inl ⟨by rfl, by (intro w hSw; (try dsimp only at hSw); go_simp) <;> with_reducible rfl⟩
  try simp only [Act.put, List.setIfInBounds_toArray, List.set_cons_zero, List.set_cons_succ]
  refine wpAnyH_take (i := 20) (oi := ?o20) (v := ?v20) ?hi20 (by kernel_rfl) (by kernel_rfl) (by kernel_rfl) (fun _ _ _ h => h) ?hy20 (by assumption) ?r20
  case hi20 => simp only [List.getElem?_toArray, List.getElem?_cons_succ, List.getElem?_cons_zero]; rfl
  case hy20 => exact Or.inl ⟨by rfl, by (intro w hSw; (try dsimp only at hSw); go_simp) <;> with_reducible rfl⟩
  try simp only [Act.put, List.setIfInBounds_toArray, List.set_cons_zero, List.set_cons_succ]
  refine wpAnyH_take (i := 22) (oi := ?o22) (v := ?v22) ?hi22 (by kernel_rfl) (by kernel_rfl) (by kernel_rfl) (fun _ _ _ h => h) ?hy22 (by assumption) ?r22
  case hi22 => simp only [List.getElem?_toArray, List.getElem?_cons_succ, List.getElem?_cons_zero]; rfl
  case hy22 => exact Or.inl ⟨by rfl, by (intro w hSw; (try dsimp only at hSw); go_simp) <;> with_reducible rfl⟩
  try simp only [Act.put, List.setIfInBounds_toArray, List.set_cons_zero, List.set_cons_succ]
  refine wpAnyH_ready (rs := [21]) (by kernel_rfl) (by simp) ?_
  refine AllReadyH.cons (o := ?o21) ?hi21 (fun K hK => ?st21) AllReadyH.nil
  case hi21 => simp only [List.getElem?_toArray, List.getElem?_cons_succ, List.getElem?_cons_zero]; rfl
  go_simp
  go_at_call 18; refine (H5.out _ hHeld).mono ?_; rintro e w' ⟨rfl, hbl⟩
  refine hK.out _ _ ?_ (fun hHeld => ?_)
  · (try dsimp only); (first | exact hHeld | exact hHeld.trans (hbl.mono hHeld.size))
  clear hK K
  try simp only [Act.put, List.setIfInBounds_toArray, List.set_cons_zero, List.set_cons_succ]
  refine wpAnyH_take (i := 23) (oi := ?o23) (v := ?v23) ?hi23 (by kernel_rfl) (by kernel_rfl) (by kernel_rfl) (fun _ _ _ h => h) ?hy23 (by assumption) ?r23
  case hi23 => simp only [List.getElem?_toArray, List.getElem?_cons_succ, List.getElem?_cons_zero]; rfl
  case hy23 => exact Or.inl ⟨by rfl, by (intro w hSw; (try dsimp only at hSw); go_simp) <;> with_reducible rfl⟩
  try simp only [Act.put, List.setIfInBounds_toArray, List.set_cons_zero, List.set_cons_succ]
  refine wpAnyH_take (i := 24) (oi := ?o24) (v := ?v24) ?hi24 (by kernel_rfl) (by kernel_rfl) (by kernel_rfl) (fun _ _ _ h => h) ?hy24 (by assumption) ?r24
  case hi24 => simp only [List.getElem?_toArray, List.getElem?_cons_succ, List.getElem?_cons_zero]; rfl
  case hy24 => exact Or.inl ⟨by rfl, by (intro w hSw; (try dsimp only at hSw); go_simp) <;> with_reducible rfl⟩
  try simp only [Act.put, List.setIfInBounds_toArray, List.set_cons_zero, List.set_cons_succ]
  refine wpAnyH_take (i := 25) (oi := ?o25) (v := ?v25) ?hi25 (by kernel_rfl) (by kernel_rfl) (by kernel_rfl) (fun _ _ _ h => h) ?hy25 (by assumption) ?r25
  case hi25 => simp only [List.getElem?_toArray, List.getElem?_cons_succ, List.getElem?_cons_zero]; rfl
  case hy25 => exact Or.inl ⟨by rfl, by (intro w hSw; (try dsimp only at hSw); go_simp) <;> with_reducible rfl⟩
  try simp only [Act.put, List.setIfInBounds_toArray, List.set_cons_zero, List.set_cons_succ]
  refine wpAnyH_done (by kernel_rfl) ?_ _
  refine NoPanic.normal ?_
  go_wp2
  go_ret
  exact ⟨ret1 (by simp), hHeld⟩
end Go.Proofs.YtpgglnibfojdgaaDoor.Tr
