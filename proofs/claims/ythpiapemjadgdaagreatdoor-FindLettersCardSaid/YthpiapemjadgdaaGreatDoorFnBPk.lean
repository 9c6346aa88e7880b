/- Finds: what the laws ask first: the walks. -/
import Derived.Test.YthpiapemjadgdaaGreatDoorBk28
namespace Go.Proofs.YthpiapemjadgdaaGreatDoor.Mt
open Go.RowKit Go.Shelf
open Go.Proofs.YthpiapemjadgdaaGreatDoor.Rx
open Go.Proofs.YthpiapemjadgdaaGreatDoor.Rx.Tr
open Go.Proofs.YthpiapemjadgdaaGreatDoor.St (Wf word mem SV SV_eq ofL wf_ofL bytesL)
set_option linter.unusedVariables false
set_option linter.unusedSimpArgs false
set_option maxRecDepth 100000 in
set_option maxHeartbeats 3200000 in
theorem fbounded_any (ao : Option Addr) (c : Nat) (l : List Nd) (w : World) (h : Ns w (.slice ao l.length c) l) (hl : l.length ≤ maxLen) (T : List UInt8) (R : Bool) (hR : R = boundedL 16 8 5 l T.length) :
    Calls Tryz.prog 12 #[.slice ao l.length c, S T] w fun e w' => e = .returned (.bool R) ∧ w = w' := by
  have HRR := Lib.hid hR
  clear hR
  have HN := Lib.hid h
  have HL := Lib.hid hl
  clear h hl
  go_enter Tryz.func12, Tryz.ntmps12
  go_wp2
  go_loopw [5, 6, 7] (fun nv rv iv wr => ∃ k : Nat, k ≤ l.length ∧ nv = .int .i64 (cntK l 6 k : Nat) ∧ rv = .int .i64 (cntK l 8 k : Nat) ∧ iv = .int .i64 (k : Nat) ∧ w = wr) (fun _ _ iv _ => l.length - (intOf iv).toNat)
  case atStart => exact ⟨0, Nat.zero_le _, rfl, rfl, rfl, rfl⟩
  case round =>
    obtain ⟨k, hk, rfl, rfl, rfl, rfl⟩ := hrel
    by_cases hlt : k < l.length
    · obtain ⟨b, o, rfl, hc⟩ := HN.out.at hlt
      have q0 := hc.1
      have hlt' : (k : Int) < (l.length : Int) := by omega
      have hk0 : (0 : Int) ≤ (k : Int) := by omega
      have hwk : IntKind.i64.wrap ((k : Int) + 1) = (k : Int) + 1 := by rw [IntKind.wrap_i64]; have := HL.out; unfold maxLen at this; omega
      have h6 := cnt_next l 6 hlt
      have h8 := cnt_next l 8 hlt
      have l6 := cnt_le l 6 k
      have l8 := cnt_le l 8 k
      obtain ⟨c6, hc6⟩ : ∃ c6, cntK l 6 k = c6 := ⟨_, rfl⟩
      obtain ⟨c8, hc8⟩ : ∃ c8, cntK l 8 k = c8 := ⟨_, rfl⟩
      rw [hc6] at h6 l6
      rw [hc8] at h8 l8
      rw [hc6, hc8]
      have hw6 : IntKind.i64.wrap ((c6 : Int) + 1) = (c6 : Int) + 1 := by rw [IntKind.wrap_i64]; have := HL.out; unfold maxLen at this; omega
      have hw8 : IntKind.i64.wrap ((c8 : Int) + 1) = (c8 : Int) + 1 := by rw [IntKind.wrap_i64]; have := HL.out; unfold maxLen at this; omega
      clear hc hc6 hc8
      generalize (l[k]'hlt).k = kd at *
      have H6 := Lib.hid h6
      have H8 := Lib.hid h8
      clear h6 h8 l6 l8
      by_cases e6 : kd = 6
      · subst e6
        go_wp2
        go_roundw
        case rel => exact ⟨k + 1, by omega, by rw [H6.out]; simp, by rw [H8.out]; simp, by go_num, trivial⟩
        case measure => simp [intOf]; omega
      · have hq6 : (kd == 6) = false := by rw [beq_eq_false_iff_ne]; exact e6
        by_cases e8 : kd = 8
        · subst e8
          go_wp2
          go_roundw
          case rel => exact ⟨k + 1, by omega, by rw [H6.out]; simp, by rw [H8.out]; simp, by go_num, trivial⟩
          case measure => simp [intOf]; omega
        · have hq8 : (kd == 8) = false := by rw [beq_eq_false_iff_ne]; exact e8
          have E6 := Lib.hid e6
          have E8 := Lib.hid e8
          clear e6 e8
          go_wp2
          go_roundw
          case rel => exact ⟨k + 1, by omega, by rw [H6.out, if_neg E6.out]; rfl, by rw [H8.out, if_neg E8.out]; rfl, by go_num, trivial⟩
          case measure => simp [intOf]; omega
    · obtain rfl : k = l.length := by omega
      have HB := Lib.hid (show R = (decide (l.length ≤ 16) && (decide (T.length ≤ 8) && (decide (cntK l 8 l.length = 0) || (decide (cntK l 6 l.length ≤ 2) && decide (T.length ≤ 5))))) from HRR.out)
      generalize cntK l 6 l.length = c6 at *
      generalize cntK l 8 l.length = c8 at *
      have hn1 : ¬ (l.length : Int) < (l.length : Int) := by omega
      by_cases a1 : l.length ≤ 16
      · have b1 : (l.length : Int) ≤ 16 := by omega
        have D1 := Lib.hid (decide_eq_true a1)
        clear a1
        by_cases a2 : T.length ≤ 8
        · have b2 : (T.length : Int) ≤ 8 := by omega
          have D2 := Lib.hid (decide_eq_true a2)
          clear a2
          by_cases a3 : c8 = 0
          · have b3 : ((c8 : Int) == 0) = true := by rw [a3]; rfl
            have D3 := Lib.hid (decide_eq_true a3)
            clear a3
            go_wp2
            go_ret
            refine ⟨?_, rfl⟩
            rw [HB.out, D1.out, D2.out, D3.out]
            (try rfl)
          · have b3 : ((c8 : Int) == 0) = false := by rw [beq_eq_false_iff_ne]; omega
            have D3 := Lib.hid (decide_eq_false a3)
            clear a3
            by_cases a4 : c6 ≤ 2
            · have b4 : (c6 : Int) ≤ 2 := by omega
              have D4 := Lib.hid (decide_eq_true a4)
              clear a4
              by_cases a5 : T.length ≤ 5
              · have b5 : (T.length : Int) ≤ 5 := by omega
                have D5 := Lib.hid (decide_eq_true a5)
                clear a5
                go_wp2
                go_ret
                refine ⟨?_, rfl⟩
                rw [HB.out, D1.out, D2.out, D3.out, D4.out, D5.out]
                (try rfl)
              · have b5 : ¬ (T.length : Int) ≤ 5 := by omega
                have D5 := Lib.hid (decide_eq_false a5)
                clear a5
                go_wp2
                go_ret
                refine ⟨?_, rfl⟩
                rw [HB.out, D1.out, D2.out, D3.out, D4.out, D5.out]
                (try rfl)
            · have b4 : ¬ (c6 : Int) ≤ 2 := by omega
              have D4 := Lib.hid (decide_eq_false a4)
              clear a4
              go_wp2
              go_ret
              refine ⟨?_, rfl⟩
              rw [HB.out, D1.out, D2.out, D3.out, D4.out]
              (try rfl)
        · have b2 : ¬ (T.length : Int) ≤ 8 := by omega
          have D2 := Lib.hid (decide_eq_false a2)
          clear a2
          go_wp2
          go_ret
          refine ⟨?_, rfl⟩
          rw [HB.out, D1.out, D2.out]
          (try rfl)
      · have b1 : ¬ (l.length : Int) ≤ 16 := by omega
        have D1 := Lib.hid (decide_eq_false a1)
        clear a1
        go_wp2
        go_ret
        refine ⟨?_, rfl⟩
        rw [HB.out, D1.out]
        (try rfl)
end Go.Proofs.YthpiapemjadgdaaGreatDoor.Mt
