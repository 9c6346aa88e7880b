/- The reference's Piece and List: the walks. -/
import Derived.Test.YtpgglnibfojdgaaDoorTrLay
namespace Go.Proofs.YtpgglnibfojdgaaDoor.Tr
open Go.RowKit Go.Shelf Bld
set_option linter.unusedVariables false
set_option linter.unusedSimpArgs false
theorem conv3 (a b c : UInt8) (w : World) : (convert 45 9 (.slice (some ⟨w.heap.size, 0, none⟩) 3 3)).run Tryd.prog (w.alloc (.cells #[.int .u8 a.toNat, .int .u8 b.toNat, .int .u8 c.toNat] 5)) = .ok (S [a, b, c]) (w.alloc (.cells #[.int .u8 a.toNat, .int .u8 b.toNat, .int .u8 c.toNat] 5)) :=
  run_convert_bytes_back (P := Tryd.prog) (w.alloc (.cells #[.int .u8 a.toNat, .int .u8 b.toNat, .int .u8 c.toNat] 5)) 45 9 5 ⟨w.heap.size, 0, none⟩ 3 [a, b, c] Tryd.underlying45 Tryd.underlying5 Tryd.underlying9 (by
    intro j hj
    match j, hj with
    | 0, _ => simp [Addr.add]
    | 1, _ => simp [Addr.add]
    | 2, _ => simp [Addr.add])
set_option maxRecDepth 100000 in
set_option maxHeartbeats 1600000 in
theorem refPiece_short (n : Nat) (x : UInt8) (w : World) (h1 : 7 ≤ n) (h2 : n ≤ 13) (hx : (⟨#[97, 98, 116, 110, 118, 102, 114]⟩ : ByteArray).extract (n - 7) (n - 6) = ⟨[x].toArray⟩) :
    Calls Tryd.prog 24 #[Y n] w fun e w' => e = .returned (S [92, x]) ∧ Below w.heap.size w w' := by
  have cc := fun w => run_string_add_lists (P := Tryd.prog) w [92] [x] (by simp) (by simp)
  have e1 : ((n : Int) == 92) = false := by rw [beq_eq_false_iff_ne]; omega
  have e2 : ((n : Int) - 7) = ((n - 7 : Nat) : Int) := by omega
  have e2' : ((n : Int) - 6) = ((n - 6 : Nat) : Int) := by omega
  have e3 : (7 : Int) ≤ n := by omega
  have e4 : (n : Int) ≤ 13 := by omega
  have e5 : ((n - 7 : Nat) : Int) ≤ ((n - 6 : Nat) : Int) := by omega
  have e6 : ((n - 6 : Nat) : Int) ≤ 7 := by omega
  go_enter Tryd.func24, Tryd.ntmps24
  go_wp2
  go_ret
  exact ⟨rfl, Below.refl w.heap.size w⟩
set_option maxRecDepth 100000 in
set_option maxHeartbeats 1600000 in
theorem refPiece_any (c : UInt8) (w : World) :
    Calls Tryd.prog 24 #[Y c.toNat] w fun e w' => e = .returned (S (pieceL c)) ∧ Below w.heap.size w w' := by
  have hlt := UInt8.toNat_lt c
  by_cases h92 : c = 92
  · subst h92
    go_enter Tryd.func24, Tryd.ntmps24
    go_wp2
    go_ret
    exact ⟨rfl, Below.refl _ _⟩
  have hn92 : c.toNat ≠ 92 := fun h => h92 (UInt8.toNat_inj.1 h)
  by_cases hs : 7 ≤ c.toNat ∧ c.toNat ≤ 13
  · have hp : pieceL c = [92, shortL.getD (c.toNat - 7) 0] := by unfold pieceL; rw [if_neg h92, if_pos hs]
    rw [hp]
    refine refPiece_short c.toNat _ w hs.1 hs.2 ?_
    have : ∀ j, j < 7 → (⟨#[97, 98, 116, 110, 118, 102, 114]⟩ : ByteArray).extract j (j + 1) = ⟨[shortL.getD j 0].toArray⟩ := by decide
    have := this (c.toNat - 7) (by omega)
    rwa [show c.toNat - 7 + 1 = c.toNat - 6 from by omega] at this
  by_cases hn : c.toNat < 32 ∨ 126 < c.toNat
  · have HP := Lib.hid (show pieceL c = [92, UInt8.ofNat (48 + c.toNat / 64), UInt8.ofNat (48 + c.toNat / 8 % 8), UInt8.ofNat (48 + c.toNat % 8)] from by unfold pieceL; rw [if_neg h92, if_neg hs, if_pos hn])
    have g0 : (48 + (c.toNat : Int) / 64) = ((UInt8.ofNat (48 + c.toNat / 64)).toNat : Int) := by
      have : (UInt8.ofNat (48 + c.toNat / 64)).toNat = (48 + c.toNat / 64) % 256 := rfl
      omega
    have g1 : (48 + (c.toNat : Int) / 8 % 8) = ((UInt8.ofNat (48 + c.toNat / 8 % 8)).toNat : Int) := by
      have : (UInt8.ofNat (48 + c.toNat / 8 % 8)).toNat = (48 + c.toNat / 8 % 8) % 256 := rfl
      omega
    have g2 : (48 + (c.toNat : Int) % 8) = ((UInt8.ofNat (48 + c.toNat % 8)).toNat : Int) := by
      have : (UInt8.ofNat (48 + c.toNat % 8)).toNat = (48 + c.toNat % 8) % 256 := rfl
      omega
    generalize UInt8.ofNat (48 + c.toNat / 64) = d0 at *
    generalize UInt8.ofNat (48 + c.toNat / 8 % 8) = d1 at *
    generalize UInt8.ofNat (48 + c.toNat % 8) = d2 at *
    have k0 := UInt8.toNat_lt d0
    have k1 := UInt8.toNat_lt d1
    have k2 := UInt8.toNat_lt d2
    have cv := conv3 d0 d1 d2
    have cc := fun w => run_string_add_lists (P := Tryd.prog) w [92] [d0, d1, d2] (by simp) (by simp)
    have e1 : ((c.toNat : Int) == 92) = false := by rw [beq_eq_false_iff_ne]; omega
    generalize c.toNat = n at *
    by_cases h7 : n < 7
    · have e3 : ¬ (7 : Int) ≤ n := by omega
      have e4 : (n : Int) < 32 := by omega
      clear hs hn
      go_enter Tryd.func24, Tryd.ntmps24
      go_wp2
      go_ret
      rw [HP.out]
      exact ⟨rfl, (Below.refl w.heap.size w).alloc (Nat.le_refl _) _⟩
    · have e3 : (7 : Int) ≤ n := by omega
      have e5 : ¬ (n : Int) ≤ 13 := by omega
      by_cases h32 : n < 32
      · have e4 : (n : Int) < 32 := by omega
        clear hs hn
        go_enter Tryd.func24, Tryd.ntmps24
        go_wp2
        go_ret
        rw [HP.out]
        exact ⟨rfl, (Below.refl w.heap.size w).alloc (Nat.le_refl _) _⟩
      · have e4 : ¬ (n : Int) < 32 := by omega
        have e7 : (126 : Int) < n := by omega
        clear hs hn
        go_enter Tryd.func24, Tryd.ntmps24
        go_wp2
        go_ret
        rw [HP.out]
        exact ⟨rfl, (Below.refl w.heap.size w).alloc (Nat.le_refl _) _⟩
  · have hp : pieceL c = [c] := by unfold pieceL; rw [if_neg h92, if_neg hs, if_neg hn]
    have cv := conv1 c
    have HP := Lib.hid hp
    have e1 : ((c.toNat : Int) == 92) = false := by rw [beq_eq_false_iff_ne]; omega
    have e3 : (7 : Int) ≤ c.toNat := by omega
    have e5 : ¬ (c.toNat : Int) ≤ 13 := by omega
    have e4 : ¬ (c.toNat : Int) < 32 := by omega
    have e7 : ¬ (126 : Int) < c.toNat := by omega
    clear hp hs hn
    go_enter Tryd.func24, Tryd.ntmps24
    go_wp2
    go_ret
    rw [HP.out]
    exact ⟨rfl, (Below.refl w.heap.size w).alloc (Nat.le_refl _) _⟩
theorem refList_step (width : Int) (st : List UInt8 × Nat) (p : List UInt8) : (1 < width ∧ 0 < st.2 ∧ width ≤ ((st.2 + p.length : Nat) : Int) → stepL width st p = (st.1 ++ [92, 10] ++ p, p.length)) ∧ (¬ (1 < width ∧ 0 < st.2 ∧ width ≤ ((st.2 + p.length : Nat) : Int)) → stepL width st p = (st.1 ++ p, st.2 + p.length)) := by
  unfold stepL
  exact ⟨fun h => if_pos h, fun h => if_neg h⟩
set_option maxRecDepth 100000 in
set_option maxHeartbeats 1600000 in
theorem refList_any (s : List UInt8) (width : Int) (w : World) (hl : s.length ≤ 10000) (hw : -9223372036854775808 ≤ width ∧ width ≤ 9223372036854775807) :
    Calls Tryd.prog 19 #[S s, E width] w fun e w' => e = .returned (S (listL s width)) ∧ Below w.heap.size w w' := by
  have HB0 := Lib.hid (Below.refl w.heap.size w)
  go_enter Tryd.func19, Tryd.ntmps19
  go_wp2
  go_loopw [5, 6, 7, 8] (fun o ln i pv wr => ∃ (k : Nat) (st : List UInt8 × Nat), k ≤ s.length ∧ i = .int .i64 (k : Nat) ∧ o = S st.1 ∧ ln = .int .i64 (st.2 : Nat) ∧ Hid (runL width (s.take k) ([], 0) = st) ∧ Hid (Below w.heap.size w wr)) (fun _ _ i _ _ => s.length - (intOf i).toNat)
  case atStart => exact ⟨0, ([], 0), Nat.zero_le _, rfl, rfl, rfl, Lib.hid rfl, HB0⟩
  case round =>
    obtain ⟨k, ⟨out, line⟩, hk, rfl, rfl, rfl, HR, HB⟩ := hrel
    clear HB0
    have hrl := runL_len width (s.take k) ([], 0)
    rw [HR.out] at hrl
    have ho : out.length ≤ 60000 ∧ line ≤ 40000 := by simp at hrl; omega
    obtain ⟨ho1, ho2⟩ := ho
    clear hrl
    by_cases hlt : k < s.length
    · have hx : ((ByteArray.mk s.toArray)[k]'hlt) = s[k] := rfl
      have HN := runL_take (width := width) (st := ([], 0)) hlt
      rw [HR.out] at HN
      have hpl := piece_len s[k]
      obtain ⟨hs1, hs2⟩ := refList_step width (out, line) (pieceL s[k])
      have HP := Lib.hid (fun w => refPiece_any s[k] w)
      obtain ⟨p, hp⟩ : ∃ p, pieceL s[k] = p := ⟨_, rfl⟩
      rw [hp] at hpl hs1 hs2 HP HN
      obtain ⟨hp1, hp4⟩ := hpl
      clear hp HR
      generalize s[k] = c at *
      simp only at hs1 hs2
      have cp := fun w => run_string_add_lists (P := Tryd.prog) w out p (by omega) (by omega)
      have hsz : (ByteArray.mk p.toArray).size = p.length := by simp [ByteArray.size]
      by_cases hc : 1 < width ∧ 0 < line ∧ width ≤ ((line + p.length : Nat) : Int)
      · have HN := Lib.hid (HN.trans (hs1 hc))
        clear hs1 hs2
        obtain ⟨c1, c2, c3⟩ := hc
        have c1' : (2 : Int) ≤ width := by omega
        have c2' : (0 : Int) < (line : Nat) := by omega
        have c3' : width - 1 < ((line : Nat) : Int) + ((p.length : Nat) : Int) := by omega
        have cf := fun w => run_string_add_lists (P := Tryd.prog) w out [92, 10] (by omega) (by simp)
        have cg := fun w => run_string_add_lists (P := Tryd.prog) w (out ++ [92, 10]) p (by simp; omega) (by omega)
        clear c1 c2 c3
        go_wp2_with (go_at_call 24; refine (HP.out _).mono ?_; rintro e w1 ⟨rfl, hb⟩; have HB1 := Lib.hid (HB.out.trans (hb.mono HB.out.size)); clear hb HB)
        go_roundw
        case rel => exact ⟨k + 1, (out ++ [92, 10] ++ p, p.length), by omega, by go_num, by simp, by go_num, Lib.hid (by rw [HN.out]), HB1⟩
        case measure => simp [intOf]; omega
      have HN := Lib.hid (HN.trans (hs2 hc))
      clear hs1 hs2
      by_cases c1 : 1 < width
      · have c1' : (2 : Int) ≤ width := by omega
        by_cases c2 : 0 < line
        · have c2' : (0 : Int) < (line : Nat) := by omega
          have c3' : ¬ width - 1 < ((line : Nat) : Int) + ((p.length : Nat) : Int) := by omega
          clear hc c1 c2
          go_wp2_with (go_at_call 24; refine (HP.out _).mono ?_; rintro e w1 ⟨rfl, hb⟩; have HB1 := Lib.hid (HB.out.trans (hb.mono HB.out.size)); clear hb HB)
          go_roundw
          case rel => exact ⟨k + 1, (out ++ p, line + p.length), by omega, by go_num, rfl, by go_num, Lib.hid (by rw [HN.out]), HB1⟩
          case measure => simp [intOf]; omega
        · have c2' : ¬ (0 : Int) < (line : Nat) := by omega
          clear hc c1 c2
          go_wp2_with (go_at_call 24; refine (HP.out _).mono ?_; rintro e w1 ⟨rfl, hb⟩; have HB1 := Lib.hid (HB.out.trans (hb.mono HB.out.size)); clear hb HB)
          go_roundw
          case rel => exact ⟨k + 1, (out ++ p, line + p.length), by omega, by go_num, rfl, by go_num, Lib.hid (by rw [HN.out]), HB1⟩
          case measure => simp [intOf]; omega
      · have c1' : ¬ (2 : Int) ≤ width := by omega
        clear hc c1
        go_wp2_with (go_at_call 24; refine (HP.out _).mono ?_; rintro e w1 ⟨rfl, hb⟩; have HB1 := Lib.hid (HB.out.trans (hb.mono HB.out.size)); clear hb HB)
        go_roundw
        case rel => exact ⟨k + 1, (out ++ p, line + p.length), by omega, by go_num, rfl, by go_num, Lib.hid (by rw [HN.out]), HB1⟩
        case measure => simp [intOf]; omega
    · obtain rfl : k = s.length := by omega
      have HE := Lib.hid (show listL s width = out ++ [36, 10] from by
        have := HR.out
        rw [List.take_length] at this
        unfold listL; rw [this])
      have cp := fun w => run_string_add_lists (P := Tryd.prog) w out [36, 10] (by omega) (by simp)
      clear HR hk hlt
      go_wp2
      go_ret
      exact ⟨by rw [HE.out]; exact ret1 (by simp), HB.out⟩
end Go.Proofs.YtpgglnibfojdgaaDoor.Tr
