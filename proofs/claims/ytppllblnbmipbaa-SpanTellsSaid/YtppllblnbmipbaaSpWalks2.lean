/- The walks of the package span and of its reference, on top of the test of a span. -/
import Derived.Test.YtppllblnbmipbaaSpWalks
import Derived.Lib.Hide
namespace Go.Proofs.Ytppllblnbmipbaa.Sp
open Go.RowKit Fl

set_option maxHeartbeats 400000 in
theorem may_any (a b : Nat) (w : World) :
    Calls Try.prog 13 #[cx a b] w fun e w' => e = .returned (.bool (may a b)) ∧ w = w' := by
  go_enter Try.func13, Try.ntmps13
  go_wp2_with (go_at_call 32; refine (known_any _ _ _).mono ?_; rintro e w' ⟨rfl, rfl⟩)
  go_ret
  exact ⟨rfl, rfl⟩

set_option maxHeartbeats 400000 in
theorem from_any (a b : Nat) (w : World) :
    Calls Try.prog 14 #[cx a b] w fun e w' => e = .returned (.int .i64 (fromV a b)) ∧ w = w' := by
  cases h : may a b
  · have c1 := fun w => run_convert_float_int (P := Try.prog) w 30 3 .f64 .i64 _ (-1) rfl rfl tr_none
    go_enter Try.func14, Try.ntmps14
    go_wp2_with (go_at_call 13; refine (may_any _ _ _).mono ?_; rintro e w' ⟨rfl, rfl⟩)
    go_ret
    exact ⟨by unfold fromV; rw [h]; rfl, rfl⟩
  · have g1 := (wh_spec (may_spec h).1).2.2.2
    have c1 := fun w => run_convert_float_int (P := Try.prog) w 30 3 .f64 .i64 _ (tr a) rfl rfl g1
    clear g1
    go_enter Try.func14, Try.ntmps14
    go_wp2_with (go_at_call 13; refine (may_any _ _ _).mono ?_; rintro e w' ⟨rfl, rfl⟩)
    go_ret
    exact ⟨by unfold fromV; rw [h]; rfl, rfl⟩

set_option maxHeartbeats 400000 in
theorem to_any (a b : Nat) (w : World) :
    Calls Try.prog 15 #[cx a b] w fun e w' => e = .returned (.int .i64 (toV a b)) ∧ w = w' := by
  cases h : may a b
  · have c1 := fun w => run_convert_float_int (P := Try.prog) w 30 3 .f64 .i64 _ (-1) rfl rfl tr_none
    go_enter Try.func15, Try.ntmps15
    go_wp2_with (go_at_call 13; refine (may_any _ _ _).mono ?_; rintro e w' ⟨rfl, rfl⟩)
    go_ret
    exact ⟨by unfold toV; rw [h]; rfl, rfl⟩
  · have g1 := (wh_spec (may_spec h).2.1).2.2.2
    have c1 := fun w => run_convert_float_int (P := Try.prog) w 30 3 .f64 .i64 _ (tr b) rfl rfl g1
    clear g1
    go_enter Try.func15, Try.ntmps15
    go_wp2_with (go_at_call 13; refine (may_any _ _ _).mono ?_; rintro e w' ⟨rfl, rfl⟩)
    go_ret
    exact ⟨by unfold toV; rw [h]; rfl, rfl⟩

set_option maxHeartbeats 400000 in
theorem len_any (a b : Nat) (w : World) :
    Calls Try.prog 19 #[cx a b] w fun e w' => e = .returned (.int .i64 (toV a b - fromV a b)) ∧ w = w' := by
  obtain ⟨b1, b2, b3, b4, b5⟩ := fromV_bd a b
  go_enter Try.func19, Try.ntmps19
  go_wp2_with (first | (go_at_call 15; refine (to_any _ _ _).mono ?_; rintro e w' ⟨rfl, rfl⟩) | (go_at_call 14; refine (from_any _ _ _).mono ?_; rintro e w' ⟨rfl, rfl⟩))
  go_ret
  exact ⟨rfl, rfl⟩

set_option maxHeartbeats 400000 in
theorem none_any (w : World) :
    Calls Try.prog 26 #[] w fun e w' => e = .returned (cx noneB noneB) ∧ w = w' := by
  go_enter Try.func26, Try.ntmps26
  go_wp2
  go_ret
  exact ⟨rfl, rfl⟩

set_option maxHeartbeats 400000 in
theorem of_any (a b : Int) (w : World) :
    Calls Try.prog 10 #[.int .i64 a, .int .i64 b] w fun e w' => e = .returned (.tuple #[knV (floatOfInt .f64 a) (floatOfInt .f64 b), .bool (may (floatOfInt .f64 a) (floatOfInt .f64 b))]) ∧ w = w' := by
  go_enter Try.func10, Try.ntmps10
  go_wp2_with (go_at_call 32; refine (known_any _ _ _).mono ?_; rintro e w' ⟨rfl, rfl⟩)
  go_ret2
  exact ⟨rfl, rfl⟩

/-- What a shift answers. -/
def sA (a b : Nat) (n : Int) : Nat := if may a b && may (sh a n) (sh b n) then sh a n else noneB
def sB (a b : Nat) (n : Int) : Nat := if may a b && may (sh a n) (sh b n) then sh b n else noneB
abbrev shV (a b : Nat) (n : Int) : Value := cx (sA a b n) (sB a b n)

set_option maxHeartbeats 400000 in
theorem shift_any (a b : Nat) (n : Int) (w : World) (hn : -9223372036854775808 ≤ n) (hn' : n ≤ 9223372036854775807) :
    Calls Try.prog 24 #[cx a b, .int .i64 n] w fun e w' => e = .returned (shV a b n) ∧ w = w' := by
  cases h : may a b
  · clear hn hn'
    go_enter Try.func24, Try.ntmps24
    go_wp2_with (go_at_call 13; refine (may_any _ _ _).mono ?_; rintro e w' ⟨rfl, rfl⟩)
    go_ret
    exact ⟨by unfold shV sA sB; rw [h]; rfl, rfl⟩
  · have f1 := (sh_spec n (may_spec h).1 hn hn').1
    have f2 := (sh_spec n (may_spec h).2.1 hn hn').1
    have c1 := fun w => run_complex_sum (P := Try.prog) w .add (.inl rfl) 22 .f64 a b (floatOfInt .f64 n) (floatOfInt .f64 n) (sh a n) (sh b n) (by unfold cSumBits; rw [f1, f2]; rfl)
    clear f1 f2 hn hn'
    cases h2 : may (sh a n) (sh b n)
    · go_enter Try.func24, Try.ntmps24
      go_wp2_with (go_at_call 13; refine (may_any _ _ _).mono ?_; rintro e w' ⟨rfl, rfl⟩)
      go_ret
      exact ⟨by unfold shV sA sB; rw [h, h2]; rfl, rfl⟩
    · go_enter Try.func24, Try.ntmps24
      go_wp2_with (go_at_call 13; refine (may_any _ _ _).mono ?_; rintro e w' ⟨rfl, rfl⟩)
      go_ret
      exact ⟨by unfold shV sA sB; rw [h, h2]; rfl, rfl⟩

/-- What a hull answers. -/
def hA (a b c d : Nat) : Nat := if may a b then (if may c d then minF a c else a) else (if may c d then c else noneB)
def hB (a b c d : Nat) : Nat := if may a b then (if may c d then maxF b d else b) else (if may c d then d else noneB)
abbrev hullV (a b c d : Nat) : Value := cx (hA a b c d) (hB a b c d)
def meetB (a b c d : Nat) : Bool := may a b && may c d && ltB (maxF a c) (minF b d)

set_option maxHeartbeats 400000 in
theorem hull_any (a b c d : Nat) (w : World) :
    Calls Try.prog 28 #[cx a b, cx c d] w fun e w' => e = .returned (hullV a b c d) ∧ w = w' := by
  cases h : may a b <;> cases h2 : may c d
  case true.true =>
    have c1 := fun w ts t => run_min_fl (P := Try.prog) w ts t a c (wh_spec (may_spec h).1).1 (wh_spec (may_spec h2).1).1
    have c2 := fun w ts t => run_max_fl (P := Try.prog) w ts t b d (wh_spec (may_spec h).2.1).1 (wh_spec (may_spec h2).2.1).1
    go_enter Try.func28, Try.ntmps28
    go_wp2_with (go_at_call 13; refine (may_any _ _ _).mono ?_; rintro e w' ⟨rfl, rfl⟩)
    go_ret
    exact ⟨by unfold hullV hA hB; rw [h, h2]; rfl, rfl⟩
  all_goals
    go_enter Try.func28, Try.ntmps28
    go_wp2_with (go_at_call 13; refine (may_any _ _ _).mono ?_; rintro e w' ⟨rfl, rfl⟩)
    go_ret
    exact ⟨by unfold hullV hA hB; rw [h, h2]; rfl, rfl⟩

set_option maxHeartbeats 400000 in
theorem meet_any (a b c d : Nat) (w : World) :
    Calls Try.prog 30 #[cx a b, cx c d] w fun e w' => e = .returned (.bool (meetB a b c d)) ∧ w = w' := by
  cases h : may a b
  · go_enter Try.func30, Try.ntmps30
    go_wp2_with (go_at_call 13; refine (may_any _ _ _).mono ?_; rintro e w' ⟨rfl, rfl⟩)
    go_ret
    exact ⟨by unfold meetB; rw [h]; rfl, rfl⟩
  cases h2 : may c d
  · go_enter Try.func30, Try.ntmps30
    go_wp2_with (go_at_call 13; refine (may_any _ _ _).mono ?_; rintro e w' ⟨rfl, rfl⟩)
    go_ret
    exact ⟨by unfold meetB; rw [h, h2]; rfl, rfl⟩
  · have c1 := fun w ts t => run_max_fl (P := Try.prog) w ts t a c (wh_spec (may_spec h).1).1 (wh_spec (may_spec h2).1).1
    have c2 := fun w ts t => run_min_fl (P := Try.prog) w ts t b d (wh_spec (may_spec h).2.1).1 (wh_spec (may_spec h2).2.1).1
    go_enter Try.func30, Try.ntmps30
    go_wp2_with (go_at_call 13; refine (may_any _ _ _).mono ?_; rintro e w' ⟨rfl, rfl⟩)
    go_ret
    exact ⟨by unfold meetB; rw [h, h2]; simp, rfl⟩

/-- What is cut. -/
def cutL (t : ByteArray) (a b : Nat) : ByteArray := if may a b then t.extract (min (tr a) (min (tr b) t.size)).toNat (min (tr b) t.size).toNat else ⟨#[]⟩

set_option maxHeartbeats 400000 in
theorem cut_any (t : ByteArray) (a b : Nat) (w : World) (ht : t.size ≤ maxLen) :
    Calls Try.prog 17 #[.string t, cx a b] w fun e w' => e = .returned (.string (cutL t a b)) ∧ w = w' := by
  unfold maxLen at ht
  cases h : may a b
  · go_enter Try.func17, Try.ntmps17
    go_wp2_with (go_at_call 13; refine (may_any _ _ _).mono ?_; rintro e w' ⟨rfl, rfl⟩)
    go_ret
    exact ⟨by unfold cutL; rw [h]; rfl, rfl⟩
  · obtain ⟨h1, h2, h3⟩ := may_spec h
    obtain ⟨_, b2, b3, _⟩ := wh_spec h1
    obtain ⟨_, c2, c3, _⟩ := wh_spec h2
    have e1 : fromV a b = tr a := by unfold fromV; rw [h]; rfl
    have e2 : toV a b = tr b := by unfold toV; rw [h]; rfl
    have E1 := Lib.hid e1
    have E2 := Lib.hid e2
    have b2' : 0 ≤ fromV a b := by omega
    have c2' : 0 ≤ toV a b := by omega
    have h3' : fromV a b ≤ toV a b := by omega
    have c3' : toV a b ≤ 999999999 := by omega
    clear h1 h2 h3 b2 b3 c2 c3 e1 e2
    go_enter Try.func17, Try.ntmps17
    go_wp2_with (first | (go_at_call 13; refine (may_any _ _ _).mono ?_; rintro e w' ⟨rfl, rfl⟩) | (go_at_call 15; refine (to_any _ _ _).mono ?_; rintro e w' ⟨rfl, rfl⟩) | (go_at_call 14; refine (from_any _ _ _).mono ?_; rintro e w' ⟨rfl, rfl⟩))
    all_goals go_ret
    all_goals refine ⟨?_, rfl⟩
    all_goals unfold cutL
    all_goals rw [if_pos (by assumption)]
    all_goals rw [← E1.out, ← E2.out]
    · have e1 : (min (fromV a b) (min (toV a b) ↑t.size)).toNat = t.size := by omega
      have e2 : (min (toV a b) ↑t.size).toNat = t.size := by omega
      rw [e1, e2]; exact congrArg (fun x => Ending.returned (Value.string x)) (by ext1; simp)
    · have e1 : (min (fromV a b) (min (toV a b) ↑t.size)).toNat = (fromV a b).toNat := by omega
      have e2 : (min (toV a b) ↑t.size).toNat = t.size := by omega
      rw [e1, e2]; rfl
    · have e1 : (min (fromV a b) (min (toV a b) ↑t.size)).toNat = (fromV a b).toNat := by omega
      have e2 : (min (toV a b) ↑t.size).toNat = (toV a b).toNat := by omega
      rw [e1, e2]; rfl
end Go.Proofs.Ytppllblnbmipbaa.Sp
