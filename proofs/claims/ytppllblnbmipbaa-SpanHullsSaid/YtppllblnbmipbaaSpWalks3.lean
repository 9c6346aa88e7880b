/- The walks of the reference of the package span. -/
import Derived.Test.YtppllblnbmipbaaSpWalks2
namespace Go.Proofs.Ytppllblnbmipbaa.Sp
open Go.RowKit Fl

set_option maxHeartbeats 400000 in
theorem whole_any (x : Nat) (w : World) :
    Calls Try.prog 33 #[.float .f64 x] w fun e w' => e = .returned (.bool (wh x)) ∧ w = w' := by
  have hw : wh x = (geB x 0 && leB x most && eqB (floatOfInt .f64 (tr x)) x) := rfl
  rw [hw]
  clear hw
  cases h1 : geB x 0
  · go_enter Try.func33, Try.ntmps33
    go_wp2
    go_ret
    exact ⟨rfl, rfl⟩
  cases h2 : leB x most
  · have h3 : leB x 4741671816358002688 = false := h2
    clear h2
    go_enter Try.func33, Try.ntmps33
    go_wp2
    go_ret
    exact ⟨rfl, rfl⟩
  · have h3 : leB x 4741671816358002688 = true := h2
    have g := conv_w h1 h2
    have c1 := fun w => run_convert_float_int (P := Try.prog) w 30 3 .f64 .i64 _ (tr x) rfl rfl g
    clear g h2
    go_enter Try.func33, Try.ntmps33
    go_wp2
    go_ret
    exact ⟨by simp, rfl⟩

set_option maxHeartbeats 400000 in
theorem rmay_any (a b : Nat) (w : World) :
    Calls Try.prog 20 #[cx a b] w fun e w' => e = .returned (.bool (may a b)) ∧ w = w' := by
  unfold may
  cases h1 : wh a <;> cases h2 : wh b
  all_goals
    go_enter Try.func20, Try.ntmps20
    go_wp2_with (go_at_call 33; refine (whole_any _ _).mono ?_; rintro e w' ⟨rfl, rfl⟩)
    go_ret
    exact ⟨by simp, rfl⟩

set_option maxHeartbeats 400000 in
theorem rnone_any (w : World) :
    Calls Try.prog 27 #[] w fun e w' => e = .returned (cx noneB noneB) ∧ w = w' := by
  go_enter Try.func27, Try.ntmps27
  go_wp2
  go_ret
  exact ⟨rfl, rfl⟩

/-- Two numbers that are a span's. -/
def inB (a b : Int) : Bool := decide (0 ≤ a) && decide (a ≤ b) && decide (b ≤ 999999999)
def rA (a b : Int) : Nat := if inB a b then floatOfInt .f64 a else noneB
def rB (a b : Int) : Nat := if inB a b then floatOfInt .f64 b else noneB
abbrev rofV (a b : Int) : Value := cx (rA a b) (rB a b)

theorem rof_no {a b : Int} (h : ¬ (0 ≤ a ∧ a ≤ b ∧ b ≤ 999999999)) : Ending.returned (.tuple #[cx noneB noneB, .bool false]) = .returned (.tuple #[rofV a b, .bool (inB a b)]) := by
  have : inB a b = false := by
    unfold inB
    rw [Bool.eq_false_iff]
    simp; omega
  unfold rofV rA rB; rw [this]; rfl
theorem rof_yes {a b : Int} (h : 0 ≤ a ∧ a ≤ b ∧ b ≤ 999999999) : Ending.returned (.tuple #[cx (floatOfInt .f64 a) (floatOfInt .f64 b), .bool true]) = .returned (.tuple #[rofV a b, .bool (inB a b)]) := by
  have : inB a b = true := by unfold inB; simp; omega
  unfold rofV rA rB; rw [this]; rfl

set_option maxHeartbeats 400000 in
theorem rof_any (a b : Int) (w : World) :
    Calls Try.prog 11 #[.int .i64 a, .int .i64 b] w fun e w' => e = .returned (.tuple #[rofV a b, .bool (inB a b)]) ∧ w = w' := by
  by_cases h1 : 0 ≤ a
  · by_cases h2 : a ≤ b
    · by_cases h3 : b ≤ 999999999
      · go_enter Try.func11, Try.ntmps11
        go_wp2_with (go_at_call 27; refine (rnone_any _).mono ?_; rintro e w' ⟨rfl, rfl⟩)
        go_ret2
        exact ⟨rof_yes (by omega), rfl⟩
      · go_enter Try.func11, Try.ntmps11
        go_wp2_with (go_at_call 27; refine (rnone_any _).mono ?_; rintro e w' ⟨rfl, rfl⟩)
        go_ret2
        exact ⟨rof_no (by omega), rfl⟩
    · go_enter Try.func11, Try.ntmps11
      go_wp2_with (go_at_call 27; refine (rnone_any _).mono ?_; rintro e w' ⟨rfl, rfl⟩)
      go_ret2
      exact ⟨rof_no (by omega), rfl⟩
  · go_enter Try.func11, Try.ntmps11
    go_wp2_with (go_at_call 27; refine (rnone_any _).mono ?_; rintro e w' ⟨rfl, rfl⟩)
    go_ret2
    exact ⟨rof_no (by omega), rfl⟩

set_option maxHeartbeats 400000 in
theorem rfrom_any (a b : Nat) (w : World) :
    Calls Try.prog 21 #[cx a b] w fun e w' => e = .returned (.int .i64 (fromV a b)) ∧ w = w' := by
  cases h : may a b
  · go_enter Try.func21, Try.ntmps21
    go_wp2_with (go_at_call 20; refine (rmay_any _ _ _).mono ?_; rintro e w' ⟨rfl, rfl⟩)
    go_ret
    exact ⟨by unfold fromV; rw [h]; rfl, rfl⟩
  · have g1 := (wh_spec (may_spec h).1).2.2.2
    have c1 := fun w => run_convert_float_int (P := Try.prog) w 30 3 .f64 .i64 _ (tr a) rfl rfl g1
    clear g1
    go_enter Try.func21, Try.ntmps21
    go_wp2_with (go_at_call 20; refine (rmay_any _ _ _).mono ?_; rintro e w' ⟨rfl, rfl⟩)
    go_ret
    exact ⟨by unfold fromV; rw [h]; rfl, rfl⟩

set_option maxHeartbeats 400000 in
theorem rto_any (a b : Nat) (w : World) :
    Calls Try.prog 22 #[cx a b] w fun e w' => e = .returned (.int .i64 (toV a b)) ∧ w = w' := by
  cases h : may a b
  · go_enter Try.func22, Try.ntmps22
    go_wp2_with (go_at_call 20; refine (rmay_any _ _ _).mono ?_; rintro e w' ⟨rfl, rfl⟩)
    go_ret
    exact ⟨by unfold toV; rw [h]; rfl, rfl⟩
  · have g1 := (wh_spec (may_spec h).2.1).2.2.2
    have c1 := fun w => run_convert_float_int (P := Try.prog) w 30 3 .f64 .i64 _ (tr b) rfl rfl g1
    clear g1
    go_enter Try.func22, Try.ntmps22
    go_wp2_with (go_at_call 20; refine (rmay_any _ _ _).mono ?_; rintro e w' ⟨rfl, rfl⟩)
    go_ret
    exact ⟨by unfold toV; rw [h]; rfl, rfl⟩

set_option maxHeartbeats 400000 in
theorem rlen_any (a b : Nat) (w : World) :
    Calls Try.prog 23 #[cx a b] w fun e w' => e = .returned (.int .i64 (toV a b - fromV a b)) ∧ w = w' := by
  obtain ⟨b1, b2, b3, b4, b5⟩ := fromV_bd a b
  cases h : may a b
  · go_enter Try.func23, Try.ntmps23
    go_wp2_with (first | (go_at_call 20; refine (rmay_any _ _ _).mono ?_; rintro e w' ⟨rfl, rfl⟩) | (go_at_call 22; refine (rto_any _ _ _).mono ?_; rintro e w' ⟨rfl, rfl⟩) | (go_at_call 21; refine (rfrom_any _ _ _).mono ?_; rintro e w' ⟨rfl, rfl⟩) | (go_at_call 27; refine (rnone_any _).mono ?_; rintro e w' ⟨rfl, rfl⟩) | (go_at_call 11; refine (rof_any _ _ _).mono ?_; rintro e w' ⟨rfl, rfl⟩))
    go_ret
    exact ⟨by unfold fromV toV; rw [h]; rfl, rfl⟩
  · go_enter Try.func23, Try.ntmps23
    go_wp2_with (first | (go_at_call 20; refine (rmay_any _ _ _).mono ?_; rintro e w' ⟨rfl, rfl⟩) | (go_at_call 22; refine (rto_any _ _ _).mono ?_; rintro e w' ⟨rfl, rfl⟩) | (go_at_call 21; refine (rfrom_any _ _ _).mono ?_; rintro e w' ⟨rfl, rfl⟩) | (go_at_call 27; refine (rnone_any _).mono ?_; rintro e w' ⟨rfl, rfl⟩) | (go_at_call 11; refine (rof_any _ _ _).mono ?_; rintro e w' ⟨rfl, rfl⟩))
    go_ret
    exact ⟨rfl, rfl⟩

/-- What the reference's shift answers. -/
def rsA (a b : Nat) (n : Int) : Nat := if may a b && decide (-999999999 ≤ n) && decide (n ≤ 999999999) then rA (fromV a b + n) (toV a b + n) else noneB
def rsB (a b : Nat) (n : Int) : Nat := if may a b && decide (-999999999 ≤ n) && decide (n ≤ 999999999) then rB (fromV a b + n) (toV a b + n) else noneB
abbrev rshV (a b : Nat) (n : Int) : Value := cx (rsA a b n) (rsB a b n)

theorem rsh_no {a b : Nat} {n : Int} (h : ¬ (-999999999 ≤ n ∧ n ≤ 999999999)) : Ending.returned (cx noneB noneB) = .returned (rshV a b n) := by
  have : (may a b && decide (-999999999 ≤ n) && decide (n ≤ 999999999)) = false := by
    rw [Bool.eq_false_iff]
    simp; omega
  unfold rshV rsA rsB; rw [this]; rfl

set_option maxHeartbeats 400000 in
theorem rshift_any (a b : Nat) (n : Int) (w : World) :
    Calls Try.prog 25 #[cx a b, .int .i64 n] w fun e w' => e = .returned (rshV a b n) ∧ w = w' := by
  obtain ⟨b1, b2, b3, b4, b5⟩ := fromV_bd a b
  cases h : may a b
  · go_enter Try.func25, Try.ntmps25
    go_wp2_with (first | (go_at_call 20; refine (rmay_any _ _ _).mono ?_; rintro e w' ⟨rfl, rfl⟩) | (go_at_call 22; refine (rto_any _ _ _).mono ?_; rintro e w' ⟨rfl, rfl⟩) | (go_at_call 21; refine (rfrom_any _ _ _).mono ?_; rintro e w' ⟨rfl, rfl⟩) | (go_at_call 27; refine (rnone_any _).mono ?_; rintro e w' ⟨rfl, rfl⟩) | (go_at_call 11; refine (rof_any _ _ _).mono ?_; rintro e w' ⟨rfl, rfl⟩))
    go_ret
    exact ⟨by unfold rshV rsA rsB; simp [h], rfl⟩
  · by_cases h1 : -999999999 ≤ n
    · by_cases h2 : n ≤ 999999999
      · go_enter Try.func25, Try.ntmps25
        go_wp2_with (first | (go_at_call 20; refine (rmay_any _ _ _).mono ?_; rintro e w' ⟨rfl, rfl⟩) | (go_at_call 22; refine (rto_any _ _ _).mono ?_; rintro e w' ⟨rfl, rfl⟩) | (go_at_call 21; refine (rfrom_any _ _ _).mono ?_; rintro e w' ⟨rfl, rfl⟩) | (go_at_call 27; refine (rnone_any _).mono ?_; rintro e w' ⟨rfl, rfl⟩) | (go_at_call 11; refine (rof_any _ _ _).mono ?_; rintro e w' ⟨rfl, rfl⟩))
        go_ret
        exact ⟨by unfold rshV rsA rsB; simp [h, h1, h2], rfl⟩
      · go_enter Try.func25, Try.ntmps25
        go_wp2_with (first | (go_at_call 20; refine (rmay_any _ _ _).mono ?_; rintro e w' ⟨rfl, rfl⟩) | (go_at_call 22; refine (rto_any _ _ _).mono ?_; rintro e w' ⟨rfl, rfl⟩) | (go_at_call 21; refine (rfrom_any _ _ _).mono ?_; rintro e w' ⟨rfl, rfl⟩) | (go_at_call 27; refine (rnone_any _).mono ?_; rintro e w' ⟨rfl, rfl⟩) | (go_at_call 11; refine (rof_any _ _ _).mono ?_; rintro e w' ⟨rfl, rfl⟩))
        go_ret
        exact ⟨rsh_no (by omega), rfl⟩
    · by_cases h2 : n ≤ 999999999
      · go_enter Try.func25, Try.ntmps25
        go_wp2_with (first | (go_at_call 20; refine (rmay_any _ _ _).mono ?_; rintro e w' ⟨rfl, rfl⟩) | (go_at_call 22; refine (rto_any _ _ _).mono ?_; rintro e w' ⟨rfl, rfl⟩) | (go_at_call 21; refine (rfrom_any _ _ _).mono ?_; rintro e w' ⟨rfl, rfl⟩) | (go_at_call 27; refine (rnone_any _).mono ?_; rintro e w' ⟨rfl, rfl⟩) | (go_at_call 11; refine (rof_any _ _ _).mono ?_; rintro e w' ⟨rfl, rfl⟩))
        go_ret
        exact ⟨rsh_no (by omega), rfl⟩
      · exact absurd h2 (by omega)

def rhA (a b c d : Nat) : Nat := if may a b then (if may c d then rA (min (fromV a b) (fromV c d)) (max (toV a b) (toV c d)) else a) else (if may c d then c else noneB)
def rhB (a b c d : Nat) : Nat := if may a b then (if may c d then rB (min (fromV a b) (fromV c d)) (max (toV a b) (toV c d)) else b) else (if may c d then d else noneB)
abbrev rhullV (a b c d : Nat) : Value := cx (rhA a b c d) (rhB a b c d)
def rmeetB (a b c d : Nat) : Bool := may a b && may c d && decide (max (fromV a b) (fromV c d) < min (toV a b) (toV c d))
theorem min_if (x y : Int) : (if y < x then y else x) = min x y := by split <;> omega
theorem max_if (x y : Int) : (if x < y then y else x) = max x y := by split <;> omega

set_option maxHeartbeats 400000 in
theorem rhull_any (a b c d : Nat) (w : World) :
    Calls Try.prog 29 #[cx a b, cx c d] w fun e w' => e = .returned (rhullV a b c d) ∧ w = w' := by
  have m1 := min_if
  have m2 := max_if
  cases h : may a b <;> cases h2 : may c d
  all_goals
    go_enter Try.func29, Try.ntmps29
    go_wp2_with (first | (go_at_call 20; refine (rmay_any _ _ _).mono ?_; rintro e w' ⟨rfl, rfl⟩) | (go_at_call 22; refine (rto_any _ _ _).mono ?_; rintro e w' ⟨rfl, rfl⟩) | (go_at_call 21; refine (rfrom_any _ _ _).mono ?_; rintro e w' ⟨rfl, rfl⟩) | (go_at_call 27; refine (rnone_any _).mono ?_; rintro e w' ⟨rfl, rfl⟩) | (go_at_call 11; refine (rof_any _ _ _).mono ?_; rintro e w' ⟨rfl, rfl⟩))
    go_ret
    exact ⟨by unfold rhullV rhA rhB; rw [h, h2]; rfl, rfl⟩

end Go.Proofs.Ytppllblnbmipbaa.Sp
