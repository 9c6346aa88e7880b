/- The walks of the reference's from, Take and Give. -/
import Derived.Test.YtdpjloapggllpaaPcTake
import Derived.Test.YtdpjloapggllpaaPcPlain2
namespace Go.Proofs.Ytdpjloapggllpaa.Pc
open Go.RowKit Bld
set_option linter.unusedVariables false
set_option linter.unusedSimpArgs false

set_option maxHeartbeats 400000 in
theorem rfrom_any (l : List UInt8) (at_ : Int) (w : World) (hl : l.length ≤ 1000000) :
    Calls Try.prog 18 #[S l, E at_] w fun e w' => e = .returned (E (fromL l.length at_)) ∧ w = w' := by
  by_cases h1 : at_ < 0
  · go_enter Try.func18, Try.ntmps18
    go_wp2
    go_ret
    exact ⟨ret1 (by rw [show fromL l.length at_ = l.length from if_pos (Or.inl h1)]; rfl), rfl⟩
  · by_cases h2 : (l.length : Int) < at_
    · go_enter Try.func18, Try.ntmps18
      go_wp2
      go_ret
      exact ⟨ret1 (by rw [show fromL l.length at_ = l.length from if_pos (Or.inr h2)]; rfl), rfl⟩
    · have e0 : fromL l.length at_ = at_.toNat := if_neg (by omega)
      have EE := Lib.hid e0
      clear e0
      go_enter Try.func18, Try.ntmps18
      go_wp2
      go_ret
      exact ⟨ret1 (by rw [EE.out]; exact congrArg (Value.int .i64) (by omega)), rfl⟩

theorem b_eq (x y : UInt8) : (((x.toNat : Nat) : Int) == ((y.toNat : Nat) : Int)) = (x == y) := by
  rw [Bool.eq_iff_iff, beq_iff_eq, beq_iff_eq]
  exact ⟨fun h => UInt8.toNat_inj.1 (by omega), fun h => by rw [h]⟩
theorem b_eq10 (x : UInt8) : (((x.toNat : Nat) : Int) == 10) = (x == 10) := b_eq x 10
theorem b_eq92 (x : UInt8) : (((x.toNat : Nat) : Int) == 92) = (x == 92) := b_eq x 92
theorem ex_one {l : List UInt8} {k : Nat} (h : k < l.length) : (⟨l.toArray⟩ : ByteArray).extract k (k + 1) = ⟨[l[k]].toArray⟩ := by
  rw [extract_take, List.drop_eq_getElem_cons h]; rfl
theorem ex_two {l : List UInt8} {k : Nat} (h : k + 1 < l.length) : (⟨l.toArray⟩ : ByteArray).extract k (k + 2) = ⟨[l[k], l[k + 1]].toArray⟩ := by
  rw [extract_take, List.drop_eq_getElem_cons (by omega), List.drop_eq_getElem_cons h]; rfl
theorem ex_nxt {l : List UInt8} {k : Nat} (h : k + 1 < l.length) : (⟨l.toArray⟩ : ByteArray).extract (k + 1) (k + 2) = ⟨[l[k + 1]].toArray⟩ := ex_one h

/-- What the reference's Take answers, from what its loop comes to at a place. -/
def fin (p k : Nat) (x : Option (List UInt8 × Nat)) : List UInt8 × Nat × Int := match x with
  | none => ([], p, 120)
  | some y => (y.1, k + y.2, 0)
theorem fin_map (p k n : Nat) (x : Option (List UInt8 × Nat)) : fin p k (x.map fun y => (y.1, y.2 + n)) = fin p (k + n) x := by
  cases x
  · rfl
  · simp [fin]; omega
theorem rtakeL_bad {l : List UInt8} {at_ : Int} {d : UInt8} (h : d = 92 ∨ d = 10) : rtakeL l at_ d = ([], fromL l.length at_, 120) := if_pos h
theorem rtakeL_good {l : List UInt8} {at_ : Int} {d : UInt8} (h : ¬ (d = 92 ∨ d = 10)) : rtakeL l at_ d = fin (fromL l.length at_) (fromL l.length at_) (rtk d (l.drop (fromL l.length at_)) []) := by
  unfold rtakeL fin; rw [if_neg h]; cases rtk d (l.drop (fromL l.length at_)) [] <;> rfl

set_option maxRecDepth 100000 in
set_option maxHeartbeats 4000000 in
theorem rtake_any (l : List UInt8) (at_ : Int) (d : UInt8) (w : World) (hl : l.length ≤ 10000) :
    Calls Try.prog 8 #[S l, E at_, .int .u8 d.toNat] w fun e w' => e = .returned (V3 (rtakeL l at_ d)) ∧ w = w' := by
  have b1 := b_eq
  have b2 := b_eq10
  have b3 := b_eq92
  obtain ⟨p, hp⟩ : ∃ p, fromL l.length at_ = p := ⟨_, rfl⟩
  have hpl : p ≤ l.length := by rw [← hp]; exact fromL_le _ _
  by_cases h1 : d = 92 ∨ d = 10
  · have HT := Lib.hid (rtakeL_bad (l := l) (at_ := at_) h1)
    rw [hp] at HT
    cases e1 : (d == 92)
    · have e2 : (d == 10) = true := by simpa using h1.resolve_left (by simpa using e1)
      clear h1
      go_enter Try.func8, Try.ntmps8
      go_wp2_with (go_at_call 18; refine (rfrom_any _ _ _ (by omega)).mono ?_; rintro e w' ⟨rfl, rfl⟩)
      go_ret3
      rw [HT.out]
      exact ⟨rfl, rfl⟩
    · clear h1
      go_enter Try.func8, Try.ntmps8
      go_wp2_with (go_at_call 18; refine (rfrom_any _ _ _ (by omega)).mono ?_; rintro e w' ⟨rfl, rfl⟩)
      go_ret3
      rw [HT.out]
      exact ⟨rfl, rfl⟩
  have e1 : (d == 92) = false := by simp; exact fun h => h1 (Or.inl h)
  have e2 : (d == 10) = false := by simp; exact fun h => h1 (Or.inr h)
  have HT := Lib.hid (rtakeL_good (l := l) (at_ := at_) h1)
  rw [hp] at HT
  clear h1
  go_enter Try.func8, Try.ntmps8
  go_wp2_with (go_at_call 18; refine (rfrom_any _ _ _ (by omega)).mono ?_; rintro e w' ⟨rfl, rfl⟩)
  go_loop [9, 10] (fun o i => ∃ (k : Nat) (out : List UInt8), p ≤ k ∧ k ≤ l.length ∧ i = .int .i64 k ∧ o = S out ∧ out.length ≤ 2 * k ∧ rtakeL l at_ d = fin p k (rtk d (l.drop k) out)) (fun _ i => l.length - (intOf i).toNat)
  case atStart => exact ⟨p, [], Nat.le_refl _, hpl, rfl, rfl, by simp, HT.out⟩
  case round =>
    obtain ⟨k, out, hpk, hk, rfl, rfl, hout, hR⟩ := hrel
    have HR := Lib.hid hR
    clear hR HT
    by_cases hlt : k < l.length
    · obtain ⟨ra, rb, rc, rd, re⟩ := rtk_at (d := d) (out := out) hlt
      have hcell : ((ByteArray.mk l.toArray)[k]'hlt) = l[k] := rfl
      have ex1 := ex_one hlt
      cases c1 : (l[k] == d)
      case true =>
        have R := Lib.hid (ra (by simpa using c1))
        clear ra rb rc rd re ex1
        go_wp2
        go_ret3
        rw [HR.out, R.out]
        exact ⟨rfl, rfl⟩
      have n1 : l[k] ≠ d := by simpa using c1
      cases c2 : (l[k] == 10)
      case true =>
        have R := Lib.hid (rb n1 (by simpa using c2))
        clear ra rb rc rd re ex1 n1
        go_wp2
        go_ret3
        rw [HR.out, R.out]
        exact ⟨rfl, rfl⟩
      cases c3 : (l[k] == 92)
      case false =>
        have R := Lib.hid (re n1 (by simpa using c2) (by simpa using c3))
        have cc := fun w => run_string_add_lists (P := Try.prog) w out [l[k]] (by omega) (by simp)
        clear ra rb rc rd re n1
        generalize l[k] = c at *
        go_wp2
        go_round
        case rel => exact ⟨k + 1, out ++ [c], by omega, by omega, by go_num, rfl, by simp; omega, by rw [HR.out, R.out, fin_map]⟩
        case measure => simp [intOf]; omega
      by_cases h2 : k + 1 < l.length
      · have hcell2 : ((ByteArray.mk l.toArray)[k + 1]'h2) = l[k + 1] := rfl
        have R0 := rd h2 n1 (by simpa using c3)
        have ex2 := ex_two h2
        have ex3 := ex_nxt h2
        have hne : ¬ ((k : Int) + 1 = l.length) := by omega
        have hneB : (((k : Int) + 1) == (l.length : Int)) = false := by rw [beq_eq_false_iff_ne]; omega
        cases c4 : (l[k + 1] == d)
        · rw [if_neg (by simpa using c4)] at R0
          have R := Lib.hid R0
          have cc := fun w => run_string_add_lists (P := Try.prog) w out [l[k], l[k + 1]] (by omega) (by simp)
          clear ra rb rc rd re n1 R0 ex1 ex3
          generalize l[k] = c at *
          generalize l[k + 1] = e at *
          go_wp2
          go_round
          case rel => exact ⟨k + 2, out ++ [c, e], by omega, by omega, by go_num, rfl, by simp; omega, by rw [HR.out, R.out, fin_map]⟩
          case measure => simp [intOf]; omega
        · rw [if_pos (by simpa using c4)] at R0
          have R := Lib.hid R0
          have cc := fun w => run_string_add_lists (P := Try.prog) w out [l[k + 1]] (by omega) (by simp)
          clear ra rb rc rd re n1 R0 ex1 ex2
          generalize l[k] = c at *
          generalize l[k + 1] = e at *
          go_wp2
          go_round
          case rel => exact ⟨k + 2, out ++ [e], by omega, by omega, by go_num, rfl, by simp; omega, by rw [HR.out, R.out, fin_map]⟩
          case measure => simp [intOf]; omega
      · have R := Lib.hid (rc n1 (by simpa using c3) (by omega))
        have hneB : (((k : Int) + 1) == (l.length : Int)) = true := by rw [beq_iff_eq]; omega
        clear ra rb rc rd re ex1 n1
        go_wp2
        go_ret3
        rw [HR.out, R.out]
        exact ⟨rfl, rfl⟩
    · go_wp2
      go_ret3
      rw [HR.out, List.drop_of_length_le (by omega)]
      exact ⟨rfl, rfl⟩

theorem rgiveL_eq (l : List UInt8) (d : UInt8) : rgiveL l d = if (rtakeL (rgv d l ++ [d]) 0 d).2.2 ≠ 0 ∨ (rtakeL (rgv d l ++ [d]) 0 d).1 ≠ l ∨ (rtakeL (rgv d l ++ [d]) 0 d).2.1 ≠ (rgv d l).length + 1 then ([], 1) else (rgv d l, 0) := rfl

set_option maxRecDepth 100000 in
set_option maxHeartbeats 4000000 in
theorem rgive_any (l : List UInt8) (d : UInt8) (w : World) (hl : l.length ≤ 4000) :
    Calls Try.prog 10 #[S l, .int .u8 d.toNat] w fun e w' => e = .returned (V2 (rgiveL l d)) ∧ Below w.heap.size w w' := by
  have b1 := b_eq
  have b2 := b_eq10
  have b3 := b_eq92
  have cv := conv1 d
  go_enter Try.func10, Try.ntmps10
  go_wp2
  go_loop [6, 7] (fun o i => ∃ (k : Nat) (out : List UInt8), k ≤ l.length ∧ i = .int .i64 k ∧ o = S out ∧ out.length ≤ 2 * k ∧ rgv d l = out ++ rgv d (l.drop k)) (fun _ i => l.length - (intOf i).toNat)
  case atStart => exact ⟨0, [], Nat.zero_le _, rfl, rfl, by simp, by simp⟩
  case round =>
    obtain ⟨k, out, hk, rfl, rfl, hout, hR⟩ := hrel
    have HR := Lib.hid hR
    clear hR
    by_cases hlt : k < l.length
    · obtain ⟨ra, rb⟩ := rgv_at (d := d) hlt
      have hcell : ((ByteArray.mk l.toArray)[k]'hlt) = l[k] := rfl
      have ex1 := ex_one hlt
      by_cases h2 : k + 1 < l.length
      · have hcell2 : ((ByteArray.mk l.toArray)[k + 1]'h2) = l[k + 1] := rfl
        have ex3 := ex_nxt h2
        cases c3 : (l[k] == 92)
        · have R0 := rb (by rintro ⟨q, _⟩; rw [q] at c3; cases c3)
          cases c1 : (l[k] == d)
          · rw [if_neg (by simpa using c1)] at R0
            have R := Lib.hid R0
            have cc := fun w => run_string_add_lists (P := Try.prog) w out [l[k]] (by omega) (by simp)
            clear ra rb R0 ex3 hcell2
            generalize l[k] = c at *
            go_wp2
            go_round
            case rel => exact ⟨k + 1, out ++ [c], by omega, by go_num, rfl, by simp; omega, by rw [HR.out, R.out]; simp⟩
            case measure => simp [intOf]; omega
          · rw [if_pos (by simpa using c1)] at R0
            have R := Lib.hid R0
            have cc := fun w => run_string_add_lists (P := Try.prog) w out [92] (by omega) (by simp)
            have cc2 := fun w => run_string_add_lists (P := Try.prog) w (out ++ [92]) [l[k]] (by simp; omega) (by simp)
            clear ra rb R0 ex3 hcell2
            generalize l[k] = c at *
            go_wp2
            go_round
            case rel => exact ⟨k + 1, out ++ [92, c], by omega, by go_num, rfl, by simp; omega, by rw [HR.out, R.out]; simp⟩
            case measure => simp [intOf]; omega
        · have R0 := ra h2 (by simpa using c3)
          cases c1 : (l[k] == d)
          · rw [if_neg (by simpa using c1)] at R0
            have R := Lib.hid R0
            have cc := fun w => run_string_add_lists (P := Try.prog) w out [l[k]] (by omega) (by simp)
            have cc2 := fun w => run_string_add_lists (P := Try.prog) w (out ++ [l[k]]) [l[k + 1]] (by simp; omega) (by simp)
            clear ra rb R0
            generalize l[k] = c at *
            generalize l[k + 1] = e at *
            go_wp2
            go_round
            case rel => exact ⟨k + 2, out ++ [c, e], by omega, by go_num, rfl, by simp; omega, by rw [HR.out, R.out]; simp⟩
            case measure => simp [intOf]; omega
          · rw [if_pos (by simpa using c1)] at R0
            have R := Lib.hid R0
            have cc := fun w => run_string_add_lists (P := Try.prog) w out [92] (by omega) (by simp)
            have cc2 := fun w => run_string_add_lists (P := Try.prog) w (out ++ [92]) [l[k]] (by simp; omega) (by simp)
            have cc3 := fun w => run_string_add_lists (P := Try.prog) w (out ++ [92, l[k]]) [l[k + 1]] (by simp; omega) (by simp)
            clear ra rb R0
            generalize l[k] = c at *
            generalize l[k + 1] = e at *
            go_wp2
            go_round
            case rel => exact ⟨k + 2, out ++ [92, c, e], by omega, by go_num, rfl, by simp; omega, by rw [HR.out, R.out]; simp⟩
            case measure => simp [intOf]; omega
      · have R0 := rb (by rintro ⟨_, q⟩; exact h2 q)
        have hneI : ¬ ((k : Int) + 1 < l.length) := by omega
        cases c1 : (l[k] == d)
        · rw [if_neg (by simpa using c1)] at R0
          have R := Lib.hid R0
          have cc := fun w => run_string_add_lists (P := Try.prog) w out [l[k]] (by omega) (by simp)
          clear ra rb R0
          generalize l[k] = c at *
          cases c3 : (c == 92)
          all_goals
            go_wp2
            go_round
            case rel => exact ⟨k + 1, out ++ [c], by omega, by go_num, rfl, by simp; omega, by rw [HR.out, R.out]; simp⟩
            case measure => simp [intOf]; omega
        · rw [if_pos (by simpa using c1)] at R0
          have R := Lib.hid R0
          have cc := fun w => run_string_add_lists (P := Try.prog) w out [92] (by omega) (by simp)
          have cc2 := fun w => run_string_add_lists (P := Try.prog) w (out ++ [92]) [l[k]] (by simp; omega) (by simp)
          clear ra rb R0
          generalize l[k] = c at *
          cases c3 : (c == 92)
          all_goals
            go_wp2
            go_round
            case rel => exact ⟨k + 1, out ++ [92, c], by omega, by go_num, rfl, by simp; omega, by rw [HR.out, R.out]; simp⟩
            case measure => simp [intOf]; omega
    · obtain rfl : k = l.length := by omega
      have HG := Lib.hid (rgiveL_eq l d)
      have hR := HR.out
      rw [List.drop_of_length_le (Nat.le_refl _)] at hR
      simp only [rgv, List.append_nil] at hR
      rw [hR] at HG
      clear HR hR
      obtain ⟨t, ht⟩ : ∃ t, rtakeL (out ++ [d]) 0 d = t := ⟨_, rfl⟩
      rw [ht] at HG
      have HT := Lib.hid ht
      have cc := fun w => run_string_add_lists (P := Try.prog) w out [d] (by omega) (by simp)
      have hb := (Below.refl w.heap.size w).alloc (Nat.le_refl _) (.cells #[.int .u8 d.toNat] 5)
      clear ht
      by_cases q1 : t.2.2 = 0
      · cases q2 : (t.1 == l)
        · rw [if_pos (Or.inr (Or.inl (by simpa using q2)))] at HG
          have Q1 := Lib.hid q1
          have qq : (t.2.2 != 0) = false := by simp [q1]
          clear q1
          go_wp2_with (go_at_call 8; refine (rtake_any _ 0 d _ (by simp; omega)).mono ?_; rintro e w' ⟨rfl, rfl⟩; rw [HT.out])
          go_ret2
          rw [HG.out]
          exact ⟨rfl, hb⟩
        · by_cases q3 : t.2.1 = out.length + 1
          · rw [if_neg (by rintro (h | h | h); exact h q1; exact h (by simpa using q2); exact h q3)] at HG
            have qq : (t.2.2 != 0) = false := by simp [q1]
            have q3b : (((t.2.1 : Nat) : Int) != (out.length : Int) + 1) = false := by rw [bne_eq_false_iff_eq]; omega
            clear q1 q3
            go_wp2_with (go_at_call 8; refine (rtake_any _ 0 d _ (by simp; omega)).mono ?_; rintro e w' ⟨rfl, rfl⟩; rw [HT.out])
            go_ret2
            rw [HG.out]
            exact ⟨rfl, hb⟩
          · rw [if_pos (Or.inr (Or.inr q3))] at HG
            have qq : (t.2.2 != 0) = false := by simp [q1]
            have q3b : (((t.2.1 : Nat) : Int) != (out.length : Int) + 1) = true := by rw [bne_iff_ne]; omega
            clear q1 q3
            go_wp2_with (go_at_call 8; refine (rtake_any _ 0 d _ (by simp; omega)).mono ?_; rintro e w' ⟨rfl, rfl⟩; rw [HT.out])
            go_ret2
            rw [HG.out]
            exact ⟨rfl, hb⟩
      · rw [if_pos (Or.inl q1)] at HG
        have qq : (t.2.2 != 0) = true := by simp [q1]
        clear q1
        go_wp2_with (go_at_call 8; refine (rtake_any _ 0 d _ (by simp; omega)).mono ?_; rintro e w' ⟨rfl, rfl⟩; rw [HT.out])
        go_ret2
        rw [HG.out]
        exact ⟨rfl, hb⟩
end Go.Proofs.Ytdpjloapggllpaa.Pc
