/- The walks of the reference's Text and Untext. -/
import Derived.Test.YtiaiipmocamofaaGreatDoorPuWalks
namespace Go.Proofs.YtiaiipmocamofaaGreatDoor.Pc
open Go.RowKit Bld
set_option linter.unusedVariables false
set_option linter.unusedSimpArgs false
theorem ex_one_u {l : List UInt8} {k : Nat} (h : k < l.length) : (⟨l.toArray⟩ : ByteArray).extract k (k + 1) = ⟨[l[k]].toArray⟩ := by
  rw [extract_take, List.drop_eq_getElem_cons h]; rfl
theorem ex_nxt_u {l : List UInt8} {k : Nat} (h : k + 1 < l.length) : (⟨l.toArray⟩ : ByteArray).extract (k + 1) (k + 2) = ⟨[l[k + 1]].toArray⟩ := ex_one_u h
theorem rblanku_any (c : UInt8) (w : World) :
    Calls Tryz.prog 22 #[.int .u8 (c.toNat : Int)] w fun e w' => e = .returned (.bool (isB c)) ∧ w' = w := by
  have e1 : ((c.toNat : Int) == 32) = (c == 32) := b_eq c 32
  have e2 : ((c.toNat : Int) == 9) = (c == 9) := b_eq c 9
  have HB := Lib.hid (isB_iff c)
  generalize (c == 32) = b1 at *
  generalize (c == 9) = b2 at *
  cases b1 <;> cases b2 <;>
  · go_enter Tryz.func22, Tryz.ntmps22
    go_wp2
    go_ret
    exact ⟨by rw [HB.out]; rfl, rfl⟩

set_option maxRecDepth 100000 in
set_option maxHeartbeats 4000000 in
theorem rtext_any (l : List UInt8) (at_ : Int) (w : World) (hl : l.length ≤ 10000) :
    Calls Tryz.prog 6 #[S l, E at_] w fun e w' => e = .returned (V3 (rtextL l at_)) ∧ w = w' := by
  have b2 := b_eq10
  have b3 := b_eq92
  obtain ⟨p, hp⟩ : ∃ p, fromL l.length at_ = p := ⟨_, rfl⟩
  have hpl : p ≤ l.length := by rw [← hp]; exact fromL_le _ _
  have HT := Lib.hid (show rtextL l at_ = tin p p (rtx (l.drop p) []) from by unfold rtextL; rw [hp])
  go_enter Tryz.func6, Tryz.ntmps6
  go_wp2_with (go_at_call 17; refine (rfrom_any _ _ _ (by omega)).mono ?_; rintro e w' ⟨rfl, rfl⟩)
  go_loop [7, 8] (fun o i => ∃ (k : Nat) (out : List UInt8), p ≤ k ∧ k ≤ l.length ∧ i = .int .i64 k ∧ o = S out ∧ out.length ≤ 2 * k ∧ rtextL l at_ = tin p k (rtx (l.drop k) out)) (fun _ i => l.length - (intOf i).toNat)
  case atStart => exact ⟨p, [], Nat.le_refl _, hpl, rfl, rfl, by simp, HT.out⟩
  case round =>
    obtain ⟨k, out, hpk, hk, rfl, rfl, hout, hR⟩ := hrel
    have HR := Lib.hid hR
    clear hR HT
    have c10 := fun w => run_string_add_lists (P := Tryz.prog) w out [10] (by omega) (by simp)
    by_cases hlt : k < l.length
    · obtain ⟨ra, rb, rc, rd⟩ := rtx_at (out := out) hlt
      have hcell : ((ByteArray.mk l.toArray)[k]'hlt) = l[k] := rfl
      have ex1 := ex_one_u hlt
      cases c2 : (l[k] == 10)
      case true =>
        have R := Lib.hid (ra (by simpa using c2))
        clear ra rb rc rd ex1
        generalize l[k] = c at *
        go_wp2
        go_ret3
        rw [HR.out, R.out]
        exact ⟨ret3 rfl (by simp [Array.getD, tin]) rfl, rfl⟩
      have n2 : l[k] ≠ 10 := by simpa using c2
      cases c3 : (l[k] == 92)
      case false =>
        have R := Lib.hid (rd n2 (by simpa using c3))
        have cc := fun w => run_string_add_lists (P := Tryz.prog) w out [l[k]] (by omega) (by simp)
        clear ra rb rc rd n2
        generalize l[k] = c at *
        go_wp2
        go_round
        case rel => exact ⟨k + 1, out ++ [c], by omega, by omega, by go_num, rfl, by simp; omega, by rw [HR.out, R.out, tin_map]⟩
        case measure => simp [intOf]; omega
      have n3 : l[k] = 92 := by simpa using c3
      by_cases h2 : k + 1 < l.length
      · have hcell2 : ((ByteArray.mk l.toArray)[k + 1]'h2) = l[k + 1] := rfl
        have R := Lib.hid (rc h2 n3)
        have ex3 := ex_nxt_u h2
        have hne : ¬ ((k : Int) + 1 = l.length) := by omega
        have hneB : (((k : Int) + 1) == (l.length : Int)) = false := by rw [beq_eq_false_iff_ne]; omega
        have cc := fun w => run_string_add_lists (P := Tryz.prog) w out [l[k + 1]] (by omega) (by simp)
        clear ra rb rc rd n2 n3 ex1
        generalize l[k] = c at *
        generalize l[k + 1] = e at *
        go_wp2
        go_round
        case rel => exact ⟨k + 2, out ++ [e], by omega, by omega, by go_num, rfl, by simp; omega, by rw [HR.out, R.out, tin_map]⟩
        case measure => simp [intOf]; omega
      · have R := Lib.hid (rb n3 (by omega))
        have hneB : (((k : Int) + 1) == (l.length : Int)) = true := by rw [beq_iff_eq]; omega
        clear ra rb rc rd n2 n3 ex1
        generalize l[k] = c at *
        go_wp2
        go_ret3
        rw [HR.out, R.out]
        exact ⟨rfl, rfl⟩
    · obtain rfl : k = l.length := by omega
      go_wp2
      go_ret3
      rw [HR.out, List.drop_of_length_le (by omega)]
      exact ⟨ret3 rfl (by simp [Array.getD, tin, rtx]) rfl, rfl⟩

set_option maxRecDepth 100000 in
set_option maxHeartbeats 4000000 in
theorem runtext_any (l : List UInt8) (w : World) (hl : l.length ≤ 10000) :
    Calls Tryz.prog 8 #[S l] w fun e w' => e = .returned (V2 (untextL l)) ∧ w = w' := by
  have b2 := b_eq10
  have b3 := b_eq92
  cases hs : Lib.hasSuffix l [10]
  · have HU := Lib.hid (show untextL l = ([], 1) from by unfold untextL; rw [hs]; rfl)
    by_cases h0 : l = []
    · subst h0
      clear hs
      go_enter Tryz.func8, Tryz.ntmps8
      go_wp2
      go_ret2
      rw [HU.out]
      exact ⟨rfl, rfl⟩
    · have hpos : 0 < l.length := List.length_pos_iff.2 h0
      have hlt : l.length - 1 < l.length := by omega
      have hcell : ((ByteArray.mk l.toArray)[l.length - 1]'hlt) = l[l.length - 1] := rfl
      have hc : (l[l.length - 1] == 10) = false := by
        rw [beq_eq_false_iff_ne]
        intro e
        have : Lib.hasSuffix l [10] = true := (suffix_ten l).2 ⟨l.take (l.length - 1), by
          conv => lhs; rw [← List.take_append_drop (l.length - 1) l]
          rw [List.drop_eq_getElem_cons hlt, e]
          rw [List.drop_of_length_le (by omega)]⟩
        rw [hs] at this; cases this
      have h0' : (l == []) = false := by simpa using h0
      have hpi : (0 : Int) < l.length := by omega
      have hI : (0 : Int) ≤ (l.length : Int) - 1 := by omega
      have hI2 : 1 ≤ (l.length : Int) := by omega
      clear hs h0
      generalize l[l.length - 1] = c at *
      have hcn : (((c.toNat : Nat) : Int) != 10) = true := by rw [bne, b_eq10, hc]; rfl
      go_enter Tryz.func8, Tryz.ntmps8
      go_wp2
      go_ret2
      rw [HU.out]
      exact ⟨rfl, rfl⟩
  · have HU := Lib.hid (show untextL l = (unL (l.take (l.length - 1)), 0) from by unfold untextL; rw [hs]; rfl)
    obtain ⟨t, rfl⟩ := (suffix_ten l).1 hs
    obtain ⟨n, hn⟩ : ∃ n, t.length = n := ⟨_, rfl⟩
    have hlen : (t ++ [10]).length = n + 1 := by simp [hn]
    have hlt : n < (t ++ [10]).length := by omega
    have hcell : ((ByteArray.mk (t ++ [10]).toArray)[n]'hlt) = 10 := by
      show (t ++ [10])[n]'hlt = 10
      rw [List.getElem_append_right (by omega)]; simp [hn]
    have h0' : ((t ++ [10]) == []) = false := by simp
    have HE := Lib.hid (show unL ((t ++ [10]).take ((t ++ [10]).length - 1)) = unFrom 0 ((t ++ [10]).take n) from by
      rw [unFrom_zero, hlen]; rfl)
    have hsz : (ByteArray.mk (t ++ [10]).toArray).size = n + 1 := by simp [ByteArray.size, hn]
    have HCELL := Lib.hid (show ∀ k (hk : k < (t ++ [10]).length), unFrom 0 ((t ++ [10]).take (k + 1)) = unFrom 0 ((t ++ [10]).take k) ++ unAdd k (t ++ [10])[k] from fun k hk => unFrom_take hk)
    generalize (t ++ [10]) = l at *
    clear hs hn
    have HLEN := Lib.hid hlen
    have hnl : n ≤ 10000 := by omega
    clear hl
    go_enter Tryz.func8, Tryz.ntmps8
    go_wp2
    go_loop [4, 5] (fun o i => ∃ (k : Nat) (out : List UInt8), k ≤ n ∧ i = .int .i64 k ∧ o = S out ∧ out.length ≤ 2 * k ∧ Hid (unFrom 0 (l.take k) = out)) (fun _ i => n - (intOf i).toNat)
    case atStart => exact ⟨0, [], by omega, rfl, rfl, by simp, Lib.hid (by simp [unFrom])⟩
    case round =>
      obtain ⟨k, out, hk, rfl, rfl, hout, HR⟩ := hrel
      by_cases hkn : k < n
      · have hkl : k < l.length := by omega
        have hck : ((ByteArray.mk l.toArray)[k]'hkl) = l[k] := rfl
        have ST := Lib.hid (HCELL.out k hkl)
        have ex1 := ex_one_u hkl
        have hkz : k < n + 1 := by omega
        clear HCELL
        generalize l[k] = c at *
        have cA := fun w => run_string_add_lists (P := Tryz.prog) w out [c] (by omega) (by simp)
        have cB := fun w => run_string_add_lists (P := Tryz.prog) w out [92] (by omega) (by simp)
        have cC := fun w => run_string_add_lists (P := Tryz.prog) w (out ++ [92]) [c] (by simp; omega) (by simp)
        cases c3 : (c == 92)
        · cases c2 : (c == 10)
          · by_cases hk0 : k = 0
            · subst hk0
              cases cb : isB c
              · have AD := Lib.hid (show unAdd 0 c = [c] from by unfold unAdd esc; rw [c3, c2, cb]; rfl)
                go_wp2_with (go_at_call 22; refine (rblanku_any _ _).mono ?_; rintro e w' ⟨rfl, hw⟩; have hw2 := hw.symm; clear hw; subst hw2)
                go_round
                case rel => exact ⟨1, out ++ [c], by omega, rfl, rfl, by simp only [List.length_append, List.length_singleton]; omega, Lib.hid (by rw [ST.out, HR.out, AD.out])⟩
                case measure => simp [intOf]; omega
              · have AD := Lib.hid (show unAdd 0 c = [92, c] from by unfold unAdd esc; rw [c3, c2, cb]; rfl)
                go_wp2_with (go_at_call 22; refine (rblanku_any _ _).mono ?_; rintro e w' ⟨rfl, hw⟩; have hw2 := hw.symm; clear hw; subst hw2)
                go_round
                case rel => exact ⟨1, out ++ [92] ++ [c], by omega, rfl, by simp, by simp only [List.length_append, List.length_singleton]; omega, Lib.hid (by rw [ST.out, HR.out, AD.out]; simp)⟩
                case measure => simp [intOf]; omega
            · have AD := Lib.hid (show unAdd k c = [c] from by unfold unAdd esc; rw [c3, c2, show (k == 0) = false from by simpa using hk0]; rfl)
              have hkB : (((k : Nat) : Int) == 0) = false := by rw [beq_eq_false_iff_ne]; omega
              go_wp2
              go_round
              case rel => exact ⟨k + 1, out ++ [c], by omega, by go_num, rfl, by simp; omega, Lib.hid (by rw [ST.out, HR.out, AD.out])⟩
              case measure => simp [intOf]; omega
          · have AD := Lib.hid (show unAdd k c = [92, c] from by unfold unAdd esc; rw [c3, c2]; rfl)
            go_wp2
            go_round
            case rel => exact ⟨k + 1, out ++ [92] ++ [c], by omega, by go_num, by simp, by simp only [List.length_append, List.length_singleton]; omega, Lib.hid (by rw [ST.out, HR.out, AD.out]; simp)⟩
            case measure => simp [intOf]; omega
        · have AD := Lib.hid (show unAdd k c = [92, c] from by unfold unAdd esc; rw [c3]; rfl)
          go_wp2
          go_round
          case rel => exact ⟨k + 1, out ++ [92] ++ [c], by omega, by go_num, by simp, by simp only [List.length_append, List.length_singleton]; omega, Lib.hid (by rw [ST.out, HR.out, AD.out]; simp)⟩
          case measure => simp [intOf]; omega
      · obtain rfl : k = n := by omega
        go_wp2
        go_ret2
        rw [HU.out, HE.out, HR.out]
        exact ⟨rfl, rfl⟩
end Go.Proofs.YtiaiipmocamofaaGreatDoor.Pc
