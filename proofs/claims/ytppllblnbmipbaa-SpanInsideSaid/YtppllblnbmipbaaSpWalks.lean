/- The walks of the package span and of its reference: what each of their functions computes. -/
import Derived.Test.YtppllblnbmipbaaChecked
import Derived.Test.YtppllblnbmipbaaFl
import Derived.WalkKit
import Derived.WalkLawsBesides
import Derived.WalkSpells
import Derived.RowKit3
namespace Go.Proofs.Ytppllblnbmipbaa.Sp
open Go.RowKit Fl

/-! The walk spells a comparison of two floats by our own words. -/
@[go_sem] theorem o_lt (a b : Nat) : (FloatKind.f64.format.order a b == some .lt) = ltB a b := order_lt a b
@[go_sem] theorem o_gt (a b : Nat) : (FloatKind.f64.format.order a b == some .gt) = gtB a b := order_gt a b
@[go_sem] theorem o_eq (a b : Nat) : (FloatKind.f64.format.order a b == some .eq) = eqB a b := order_eq a b
@[go_sem] theorem o_ne (a b : Nat) : (FloatKind.f64.format.order a b != some .eq) = !eqB a b := by rw [← order_eq]; rfl
@[go_sem] theorem o_ge (a b : Nat) : (gtB a b || eqB a b) = geB a b := by rw [← order_ge, ← order_gt, ← order_eq]
@[go_sem] theorem o_le (a b : Nat) : (ltB a b || eqB a b) = leB a b := by rw [← order_le, ← order_lt, ← order_eq]

abbrev noneB : Nat := 13830554455654793216
abbrev cx (a b : Nat) : Value := .complex .f64 a b

theorem may_eq {a b : Nat} {x1 x2 x3 x4 x5 : Bool} (h1 : geB a 0 = x1) (h2 : x1 = true → leB a b = x2) (h3 : x2 = true → leB b 4741671816358002688 = x3) (h4 : x3 = true → eqB a (floatOfInt .f64 (tr a)) = x4) (h5 : x4 = true → eqB b (floatOfInt .f64 (tr b)) = x5) : may a b = (x1 && x2 && x3 && x4 && x5) ∨ ¬ (x1 = true → x2 = true → x3 = true → x4 = true → True) := by
  left
  rw [← may_test, h1]
  cases x1 <;> simp
  rw [h2 rfl]
  cases x2 <;> simp
  rw [show most = 4741671816358002688 from rfl, h3 rfl]
  cases x3 <;> simp
  rw [h4 rfl]
  cases x4 <;> simp
  rw [h5 rfl]

set_option maxHeartbeats 400000 in
theorem known_no1 (a b : Nat) (w : World) (h1 : geB a 0 = false) :
    Calls Try.prog 32 #[.float .f64 a, .float .f64 b] w fun e w' => e = .returned (.tuple #[cx noneB noneB, .bool false]) ∧ w = w' := by
  go_enter Try.func32, Try.ntmps32
  go_wp2
  refine wp_scope_jumps 0 (fun a' w' => w = w' ∧ a'.tmps.size = 35 ∧ a'.defers = []) (fun _ _ => 0) rfl ?_ ?_
  · go_wp2
    go_step3
    exact ⟨rfl, rfl, rfl, rfl⟩
  · rintro ⟨t, d⟩ w' ⟨rfl, ht, hd⟩
    go_wp2
    simp only [Exit.jump]
    exact bodyPost_ret (v := .tuple #[cx noneB noneB, .bool false]) (by rw [results_tmp2 (t := 4) (u := 5) rfl]; simp [Array.getD, ht]) rfl ⟨rfl, rfl⟩

set_option maxHeartbeats 400000 in
theorem known_no2 (a b : Nat) (w : World) (h1 : geB a 0 = true) (h2 : leB a b = false) :
    Calls Try.prog 32 #[.float .f64 a, .float .f64 b] w fun e w' => e = .returned (.tuple #[cx noneB noneB, .bool false]) ∧ w = w' := by
  go_enter Try.func32, Try.ntmps32
  go_wp2
  refine wp_scope_jumps 0 (fun a' w' => w = w' ∧ a'.tmps.size = 35 ∧ a'.defers = []) (fun _ _ => 0) rfl ?_ ?_
  · go_wp2
    go_step3
    exact ⟨rfl, rfl, rfl, rfl⟩
  · rintro ⟨t, d⟩ w' ⟨rfl, ht, hd⟩
    go_wp2
    simp only [Exit.jump]
    exact bodyPost_ret (v := .tuple #[cx noneB noneB, .bool false]) (by rw [results_tmp2 (t := 4) (u := 5) rfl]; simp [Array.getD, ht]) rfl ⟨rfl, rfl⟩

set_option maxHeartbeats 400000 in
theorem known_no3 (a b : Nat) (w : World) (h1 : geB a 0 = true) (h2 : leB a b = true) (h3 : leB b 4741671816358002688 = false) :
    Calls Try.prog 32 #[.float .f64 a, .float .f64 b] w fun e w' => e = .returned (.tuple #[cx noneB noneB, .bool false]) ∧ w = w' := by
  go_enter Try.func32, Try.ntmps32
  go_wp2
  refine wp_scope_jumps 0 (fun a' w' => w = w' ∧ a'.tmps.size = 35 ∧ a'.defers = []) (fun _ _ => 0) rfl ?_ ?_
  · go_wp2
    go_step3
    exact ⟨rfl, rfl, rfl, rfl⟩
  · rintro ⟨t, d⟩ w' ⟨rfl, ht, hd⟩
    go_wp2
    simp only [Exit.jump]
    exact bodyPost_ret (v := .tuple #[cx noneB noneB, .bool false]) (by rw [results_tmp2 (t := 4) (u := 5) rfl]; simp [Array.getD, ht]) rfl ⟨rfl, rfl⟩

set_option maxHeartbeats 400000 in
theorem known_no4 (a b : Nat) (w : World) (h1 : geB a 0 = true) (h2 : leB a b = true) (h3 : leB b 4741671816358002688 = true) (h4 : eqB a (floatOfInt .f64 (tr a)) = false) :
    Calls Try.prog 32 #[.float .f64 a, .float .f64 b] w fun e w' => e = .returned (.tuple #[cx noneB noneB, .bool false]) ∧ w = w' := by
  obtain ⟨g1, g2⟩ := conv_a h1 h2 h3
  have c1 := fun w => run_convert_float_int (P := Try.prog) w 30 3 .f64 .i64 a (tr a) rfl rfl g1
  have c2 := fun w => run_convert_float_int (P := Try.prog) w 30 3 .f64 .i64 b (tr b) rfl rfl g2
  clear g1 g2
  go_enter Try.func32, Try.ntmps32
  go_wp2
  refine wp_scope_jumps 0 (fun a' w' => w = w' ∧ a'.tmps.size = 35 ∧ a'.defers = []) (fun _ _ => 0) rfl ?_ ?_
  · go_wp2
    go_step3
    exact ⟨rfl, rfl, rfl, rfl⟩
  · rintro ⟨t, d⟩ w' ⟨rfl, ht, hd⟩
    go_wp2
    simp only [Exit.jump]
    exact bodyPost_ret (v := .tuple #[cx noneB noneB, .bool false]) (by rw [results_tmp2 (t := 4) (u := 5) rfl]; simp [Array.getD, ht]) rfl ⟨rfl, rfl⟩

set_option maxHeartbeats 400000 in
theorem known_no5 (a b : Nat) (w : World) (h1 : geB a 0 = true) (h2 : leB a b = true) (h3 : leB b 4741671816358002688 = true) (h4 : eqB a (floatOfInt .f64 (tr a)) = true) (h5 : eqB b (floatOfInt .f64 (tr b)) = false) :
    Calls Try.prog 32 #[.float .f64 a, .float .f64 b] w fun e w' => e = .returned (.tuple #[cx noneB noneB, .bool false]) ∧ w = w' := by
  obtain ⟨g1, g2⟩ := conv_a h1 h2 h3
  have c1 := fun w => run_convert_float_int (P := Try.prog) w 30 3 .f64 .i64 a (tr a) rfl rfl g1
  have c2 := fun w => run_convert_float_int (P := Try.prog) w 30 3 .f64 .i64 b (tr b) rfl rfl g2
  clear g1 g2
  go_enter Try.func32, Try.ntmps32
  go_wp2
  refine wp_scope_jumps 0 (fun a' w' => w = w' ∧ a'.tmps.size = 35 ∧ a'.defers = []) (fun _ _ => 0) rfl ?_ ?_
  · go_wp2
    go_step3
    exact ⟨rfl, rfl, rfl, rfl⟩
  · rintro ⟨t, d⟩ w' ⟨rfl, ht, hd⟩
    go_wp2
    simp only [Exit.jump]
    exact bodyPost_ret (v := .tuple #[cx noneB noneB, .bool false]) (by rw [results_tmp2 (t := 4) (u := 5) rfl]; simp [Array.getD, ht]) rfl ⟨rfl, rfl⟩

set_option maxHeartbeats 400000 in
theorem known_yes (a b : Nat) (w : World) (h1 : geB a 0 = true) (h2 : leB a b = true) (h3 : leB b 4741671816358002688 = true) (h4 : eqB a (floatOfInt .f64 (tr a)) = true) (h5 : eqB b (floatOfInt .f64 (tr b)) = true) :
    Calls Try.prog 32 #[.float .f64 a, .float .f64 b] w fun e w' => e = .returned (.tuple #[cx a b, .bool true]) ∧ w = w' := by
  obtain ⟨g1, g2⟩ := conv_a h1 h2 h3
  have c1 := fun w => run_convert_float_int (P := Try.prog) w 30 3 .f64 .i64 a (tr a) rfl rfl g1
  have c2 := fun w => run_convert_float_int (P := Try.prog) w 30 3 .f64 .i64 b (tr b) rfl rfl g2
  clear g1 g2
  go_enter Try.func32, Try.ntmps32
  go_wp2
  refine wp_scope_jumps 0 (fun a' w' => False) (fun _ _ => 0) rfl ?_ ?_
  · go_wp2
    simp only [Exit.jump]
    exact bodyPost_ret (v := .tuple #[cx a b, .bool true]) (by rw [results_tmp2 (t := 4) (u := 5) rfl]; simp [Array.getD]) rfl ⟨rfl, rfl⟩
  · rintro _ _ ⟨⟩

/-- A span, or none. -/
def kA (a b : Nat) : Nat := if may a b then a else noneB
def kB (a b : Nat) : Nat := if may a b then b else noneB
abbrev knV (a b : Nat) : Value := cx (kA a b) (kB a b)
theorem known_any (a b : Nat) (w : World) :
    Calls Try.prog 32 #[.float .f64 a, .float .f64 b] w fun e w' => e = .returned (.tuple #[knV a b, .bool (may a b)]) ∧ w = w' := by
  unfold knV kA kB
  rw [← may_test]
  cases h1 : geB a 0
  · exact (known_no1 a b w h1).mono fun e w' h => by simpa using h
  cases h2 : leB a b
  · exact (known_no2 a b w h1 h2).mono fun e w' h => by simpa using h
  cases h3 : leB b most
  · exact (known_no3 a b w h1 h2 h3).mono fun e w' h => by simpa using h
  cases h4 : eqB a (floatOfInt .f64 (tr a))
  · exact (known_no4 a b w h1 h2 h3 h4).mono fun e w' h => by simpa using h
  cases h5 : eqB b (floatOfInt .f64 (tr b))
  · exact (known_no5 a b w h1 h2 h3 h4 h5).mono fun e w' h => by simpa using h
  exact (known_yes a b w h1 h2 h3 h4 h5).mono fun e w' h => by simpa using h

end Go.Proofs.Ytppllblnbmipbaa.Sp
