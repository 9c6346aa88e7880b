/- The document's look at nodes: fields: the walk. -/
import Derived.Test.YtdjedjfanfbbcaaGreatDoorRrP
import Derived.Test.YtdjedjfanfbbcaaGreatDoorRxS
namespace Go.Proofs.YtdjedjfanfbbcaaGreatDoor.Rx
open Go.RowKit Go.Shelf
open Go.Proofs.YtdjedjfanfbbcaaGreatDoor.St (Wf word zeroW wf_zero)
set_option linter.unusedVariables false
set_option linter.unusedSimpArgs false
set_option maxRecDepth 100000 in
set_option maxHeartbeats 1600000 in
theorem fields_0 (s : List Nat) (a b mn mx m : Int) (w : World) (hw : Wf s) : Calls Tryz.prog 45 #[NV ⟨0, s, a, b, mn, mx, m⟩] w fun e w' => e = .returned (.bool (decide (OneN ⟨0, s, a, b, mn, mx, m⟩))) ∧ Below w.heap.size w w' := by
  have HQ := fun W => run_eqR (plainN ⟨0, s, a, b, mn, mx, m⟩) ⟨0, s, a, b, mn, mx, m⟩ (wf_plain hw) hw W
  have HG : ∀ x y W, (eqGuard .eql 54 x y (.agg #[E 0, .int .u64 0, .int .u64 0, .int .u64 0, .int .u64 0, E 0, E 0, E 0, E 0, E 0]) (NV ⟨0, s, a, b, mn, mx, m⟩)).run Tryz.prog W = .ok () W := fun x y W => run_eqGuard_agg W _ _ _ _ _ _ (by kernel_rfl)
  have HBL := Lib.hid ((((Below.refl w.heap.size w).alloc (Nat.le_refl _) (Obj.cells (NC ⟨0, s, a, b, mn, mx, m⟩) 54)).alloc (by simp) (Obj.cells #[E 0, .int .u64 0, .int .u64 0, .int .u64 0, .int .u64 0, E 0, E 0, E 0, E 0, E 0] 54)).alloc (by simp; omega) (Obj.cells #[.int .u64 0, .int .u64 0, .int .u64 0, .int .u64 0] 42))
  by_cases hp : plainN ⟨0, s, a, b, mn, mx, m⟩ = ⟨0, s, a, b, mn, mx, m⟩
  · have HB : ∀ W, (binOp .eql 54 (.agg #[E 0, .int .u64 0, .int .u64 0, .int .u64 0, .int .u64 0, E 0, E 0, E 0, E 0, E 0]) (NV ⟨0, s, a, b, mn, mx, m⟩)).run Tryz.prog W = .ok (.bool true) W := fun W => by
      have := HQ W
      rw [decide_eq_true hp] at this
      rw [run_eql_struct]
      exact (congrArg (fun q => Result.andThen q fun b w' => Result.ok (Value.bool b) w') this)
    have HO := Lib.hid (show decide (OneN ⟨0, s, a, b, mn, mx, m⟩) = true from by rw [decide_eq_true_iff, ← hp]; unfold OneN plainN; simp)
    clear HQ hp
    go_enter Tryz.func45, Tryz.ntmps45
    go_wp2
    go_ret
    exact ⟨by rw [HO.out]; rfl, HBL.out⟩
  · have HB : ∀ W, (binOp .eql 54 (.agg #[E 0, .int .u64 0, .int .u64 0, .int .u64 0, .int .u64 0, E 0, E 0, E 0, E 0, E 0]) (NV ⟨0, s, a, b, mn, mx, m⟩)).run Tryz.prog W = .ok (.bool false) W := fun W => by
      have := HQ W
      rw [decide_eq_false hp] at this
      rw [run_eql_struct]
      exact (congrArg (fun q => Result.andThen q fun b w' => Result.ok (Value.bool b) w') this)
    have HO := Lib.hid (show decide (OneN ⟨0, s, a, b, mn, mx, m⟩) = false from by rw [decide_eq_false_iff_not]; exact fun q => hp (one_plain q))
    clear HQ hp
    go_enter Tryz.func45, Tryz.ntmps45
    go_wp2
    go_ret
    exact ⟨by rw [HO.out]; rfl, HBL.out⟩
set_option maxRecDepth 100000 in
set_option maxHeartbeats 1600000 in
theorem fields_1 (s : List Nat) (a b mn mx m : Int) (w : World) (hw : Wf s) : Calls Tryz.prog 45 #[NV ⟨1, s, a, b, mn, mx, m⟩] w fun e w' => e = .returned (.bool (decide (OneN ⟨1, s, a, b, mn, mx, m⟩))) ∧ Below w.heap.size w w' := by
  have HQ := fun W => run_eqR (plainN ⟨1, s, a, b, mn, mx, m⟩) ⟨1, s, a, b, mn, mx, m⟩ (wf_plain hw) hw W
  have HG : ∀ x y W, (eqGuard .eql 54 x y (.agg #[E 1, U (word s 0), U (word s 1), U (word s 2), U (word s 3), E 0, E 0, E 0, E 0, E 0]) (NV ⟨1, s, a, b, mn, mx, m⟩)).run Tryz.prog W = .ok () W := fun x y W => run_eqGuard_agg W _ _ _ _ _ _ (by kernel_rfl)
  have HBL := Lib.hid ((((Below.refl w.heap.size w).alloc (Nat.le_refl _) (Obj.cells (NC ⟨1, s, a, b, mn, mx, m⟩) 54)).alloc (by simp) (Obj.cells #[E 1, U (word s 0), U (word s 1), U (word s 2), U (word s 3), E 0, E 0, E 0, E 0, E 0] 54)).alloc (by simp; omega) (Obj.cells #[.int .u64 0, .int .u64 0, .int .u64 0, .int .u64 0] 42))
  have HS0 := fun W => run_eq4r (word s 0) (word s 1) (word s 2) (word s 3) 0 0 0 0 9998 W
  have hzz : (word s 0 = 0 ∧ word s 1 = 0 ∧ word s 2 = 0 ∧ word s 3 = 0) ↔ s = z4 := by rw [show z4 = zeroW from rfl, word_eq hw wf_zero]; exact Iff.rfl
  have HGS : ∀ x y W, (eqGuard .eql 42 x y (.agg #[U (word s 0), U (word s 1), U (word s 2), U (word s 3)]) (.agg #[.int .u64 0, .int .u64 0, .int .u64 0, .int .u64 0])).run Tryz.prog W = .ok () W := fun x y W => run_eqGuard_agg W _ _ _ _ _ _ (by kernel_rfl)
  by_cases hz : s = z4
  · have HS : ∀ W, (binOp .eql 42 (.agg #[U (word s 0), U (word s 1), U (word s 2), U (word s 3)]) (.agg #[.int .u64 0, .int .u64 0, .int .u64 0, .int .u64 0])).run Tryz.prog W = .ok (.bool true) W := fun W => by
      have := HS0 W
      rw [decide_eq_true (hzz.2 hz)] at this
      rw [run_eql_struct]
      exact (congrArg (fun q => Result.andThen q fun b w' => Result.ok (Value.bool b) w') this)
    have HO := Lib.hid (show decide (OneN ⟨1, s, a, b, mn, mx, m⟩) = false from by rw [decide_eq_false_iff_not]; unfold OneN; simp [hz])
    clear HQ HS0 hzz hz
    go_enter Tryz.func45, Tryz.ntmps45
    go_wp2
    go_ret
    exact ⟨by rw [HO.out]; rfl, HBL.out⟩
  · have HS : ∀ W, (binOp .eql 42 (.agg #[U (word s 0), U (word s 1), U (word s 2), U (word s 3)]) (.agg #[.int .u64 0, .int .u64 0, .int .u64 0, .int .u64 0])).run Tryz.prog W = .ok (.bool false) W := fun W => by
      have := HS0 W
      rw [decide_eq_false (fun q => hz (hzz.1 q))] at this
      rw [run_eql_struct]
      exact (congrArg (fun q => Result.andThen q fun b w' => Result.ok (Value.bool b) w') this)
    clear HS0 hzz
    by_cases hp : plainN ⟨1, s, a, b, mn, mx, m⟩ = ⟨1, s, a, b, mn, mx, m⟩
    · have HB : ∀ W, (binOp .eql 54 (.agg #[E 1, U (word s 0), U (word s 1), U (word s 2), U (word s 3), E 0, E 0, E 0, E 0, E 0]) (NV ⟨1, s, a, b, mn, mx, m⟩)).run Tryz.prog W = .ok (.bool true) W := fun W => by
        have := HQ W
        rw [decide_eq_true hp] at this
        rw [run_eql_struct]
        exact (congrArg (fun q => Result.andThen q fun b w' => Result.ok (Value.bool b) w') this)
      have HO := Lib.hid (show decide (OneN ⟨1, s, a, b, mn, mx, m⟩) = true from by rw [decide_eq_true_iff, ← hp]; unfold OneN plainN; simpa using hz)
      clear HQ hp
      go_enter Tryz.func45, Tryz.ntmps45
      go_wp2
      go_ret
      exact ⟨by rw [HO.out]; rfl, HBL.out⟩
    · have HB : ∀ W, (binOp .eql 54 (.agg #[E 1, U (word s 0), U (word s 1), U (word s 2), U (word s 3), E 0, E 0, E 0, E 0, E 0]) (NV ⟨1, s, a, b, mn, mx, m⟩)).run Tryz.prog W = .ok (.bool false) W := fun W => by
        have := HQ W
        rw [decide_eq_false hp] at this
        rw [run_eql_struct]
        exact (congrArg (fun q => Result.andThen q fun b w' => Result.ok (Value.bool b) w') this)
      have HO := Lib.hid (show decide (OneN ⟨1, s, a, b, mn, mx, m⟩) = false from by rw [decide_eq_false_iff_not]; exact fun q => hp (one_plain q))
      clear HQ hp
      go_enter Tryz.func45, Tryz.ntmps45
      go_wp2
      go_ret
      exact ⟨by rw [HO.out]; rfl, HBL.out⟩
set_option maxRecDepth 100000 in
set_option maxHeartbeats 1600000 in
theorem fields_2 (s : List Nat) (a b mn mx m : Int) (w : World) (hw : Wf s) : Calls Tryz.prog 45 #[NV ⟨2, s, a, b, mn, mx, m⟩] w fun e w' => e = .returned (.bool (decide (OneN ⟨2, s, a, b, mn, mx, m⟩))) ∧ Below w.heap.size w w' := by
  have HQ := fun W => run_eqR (plainN ⟨2, s, a, b, mn, mx, m⟩) ⟨2, s, a, b, mn, mx, m⟩ (wf_plain hw) hw W
  have HG : ∀ x y W, (eqGuard .eql 54 x y (.agg #[E 2, .int .u64 0, .int .u64 0, .int .u64 0, .int .u64 0, E 0, E 0, E 0, E 0, E 0]) (NV ⟨2, s, a, b, mn, mx, m⟩)).run Tryz.prog W = .ok () W := fun x y W => run_eqGuard_agg W _ _ _ _ _ _ (by kernel_rfl)
  have HBL := Lib.hid ((((Below.refl w.heap.size w).alloc (Nat.le_refl _) (Obj.cells (NC ⟨2, s, a, b, mn, mx, m⟩) 54)).alloc (by simp) (Obj.cells #[E 2, .int .u64 0, .int .u64 0, .int .u64 0, .int .u64 0, E 0, E 0, E 0, E 0, E 0] 54)).alloc (by simp; omega) (Obj.cells #[.int .u64 0, .int .u64 0, .int .u64 0, .int .u64 0] 42))
  by_cases hp : plainN ⟨2, s, a, b, mn, mx, m⟩ = ⟨2, s, a, b, mn, mx, m⟩
  · have HB : ∀ W, (binOp .eql 54 (.agg #[E 2, .int .u64 0, .int .u64 0, .int .u64 0, .int .u64 0, E 0, E 0, E 0, E 0, E 0]) (NV ⟨2, s, a, b, mn, mx, m⟩)).run Tryz.prog W = .ok (.bool true) W := fun W => by
      have := HQ W
      rw [decide_eq_true hp] at this
      rw [run_eql_struct]
      exact (congrArg (fun q => Result.andThen q fun b w' => Result.ok (Value.bool b) w') this)
    have HO := Lib.hid (show decide (OneN ⟨2, s, a, b, mn, mx, m⟩) = true from by rw [decide_eq_true_iff, ← hp]; unfold OneN plainN; simp)
    clear HQ hp
    go_enter Tryz.func45, Tryz.ntmps45
    go_wp2
    go_ret
    exact ⟨by rw [HO.out]; rfl, HBL.out⟩
  · have HB : ∀ W, (binOp .eql 54 (.agg #[E 2, .int .u64 0, .int .u64 0, .int .u64 0, .int .u64 0, E 0, E 0, E 0, E 0, E 0]) (NV ⟨2, s, a, b, mn, mx, m⟩)).run Tryz.prog W = .ok (.bool false) W := fun W => by
      have := HQ W
      rw [decide_eq_false hp] at this
      rw [run_eql_struct]
      exact (congrArg (fun q => Result.andThen q fun b w' => Result.ok (Value.bool b) w') this)
    have HO := Lib.hid (show decide (OneN ⟨2, s, a, b, mn, mx, m⟩) = false from by rw [decide_eq_false_iff_not]; exact fun q => hp (one_plain q))
    clear HQ hp
    go_enter Tryz.func45, Tryz.ntmps45
    go_wp2
    go_ret
    exact ⟨by rw [HO.out]; rfl, HBL.out⟩
set_option maxRecDepth 100000 in
set_option maxHeartbeats 1600000 in
theorem fields_3 (s : List Nat) (a b mn mx m : Int) (w : World) (hw : Wf s) : Calls Tryz.prog 45 #[NV ⟨3, s, a, b, mn, mx, m⟩] w fun e w' => e = .returned (.bool (decide (OneN ⟨3, s, a, b, mn, mx, m⟩))) ∧ Below w.heap.size w w' := by
  have HQ := fun W => run_eqR (plainN ⟨3, s, a, b, mn, mx, m⟩) ⟨3, s, a, b, mn, mx, m⟩ (wf_plain hw) hw W
  have HG : ∀ x y W, (eqGuard .eql 54 x y (.agg #[E 3, .int .u64 0, .int .u64 0, .int .u64 0, .int .u64 0, E 0, E 0, E 0, E 0, E 0]) (NV ⟨3, s, a, b, mn, mx, m⟩)).run Tryz.prog W = .ok () W := fun x y W => run_eqGuard_agg W _ _ _ _ _ _ (by kernel_rfl)
  have HBL := Lib.hid ((((Below.refl w.heap.size w).alloc (Nat.le_refl _) (Obj.cells (NC ⟨3, s, a, b, mn, mx, m⟩) 54)).alloc (by simp) (Obj.cells #[E 3, .int .u64 0, .int .u64 0, .int .u64 0, .int .u64 0, E 0, E 0, E 0, E 0, E 0] 54)).alloc (by simp; omega) (Obj.cells #[.int .u64 0, .int .u64 0, .int .u64 0, .int .u64 0] 42))
  by_cases hp : plainN ⟨3, s, a, b, mn, mx, m⟩ = ⟨3, s, a, b, mn, mx, m⟩
  · have HB : ∀ W, (binOp .eql 54 (.agg #[E 3, .int .u64 0, .int .u64 0, .int .u64 0, .int .u64 0, E 0, E 0, E 0, E 0, E 0]) (NV ⟨3, s, a, b, mn, mx, m⟩)).run Tryz.prog W = .ok (.bool true) W := fun W => by
      have := HQ W
      rw [decide_eq_true hp] at this
      rw [run_eql_struct]
      exact (congrArg (fun q => Result.andThen q fun b w' => Result.ok (Value.bool b) w') this)
    have HO := Lib.hid (show decide (OneN ⟨3, s, a, b, mn, mx, m⟩) = true from by rw [decide_eq_true_iff, ← hp]; unfold OneN plainN; simp)
    clear HQ hp
    go_enter Tryz.func45, Tryz.ntmps45
    go_wp2
    go_ret
    exact ⟨by rw [HO.out]; rfl, HBL.out⟩
  · have HB : ∀ W, (binOp .eql 54 (.agg #[E 3, .int .u64 0, .int .u64 0, .int .u64 0, .int .u64 0, E 0, E 0, E 0, E 0, E 0]) (NV ⟨3, s, a, b, mn, mx, m⟩)).run Tryz.prog W = .ok (.bool false) W := fun W => by
      have := HQ W
      rw [decide_eq_false hp] at this
      rw [run_eql_struct]
      exact (congrArg (fun q => Result.andThen q fun b w' => Result.ok (Value.bool b) w') this)
    have HO := Lib.hid (show decide (OneN ⟨3, s, a, b, mn, mx, m⟩) = false from by rw [decide_eq_false_iff_not]; exact fun q => hp (one_plain q))
    clear HQ hp
    go_enter Tryz.func45, Tryz.ntmps45
    go_wp2
    go_ret
    exact ⟨by rw [HO.out]; rfl, HBL.out⟩
set_option maxRecDepth 100000 in
set_option maxHeartbeats 1600000 in
theorem fields_4 (s : List Nat) (a b mn mx m : Int) (w : World) (hw : Wf s) : Calls Tryz.prog 45 #[NV ⟨4, s, a, b, mn, mx, m⟩] w fun e w' => e = .returned (.bool (decide (OneN ⟨4, s, a, b, mn, mx, m⟩))) ∧ Below w.heap.size w w' := by
  have HQ := fun W => run_eqR (plainN ⟨4, s, a, b, mn, mx, m⟩) ⟨4, s, a, b, mn, mx, m⟩ (wf_plain hw) hw W
  have HG : ∀ x y W, (eqGuard .eql 54 x y (.agg #[E 4, .int .u64 0, .int .u64 0, .int .u64 0, .int .u64 0, E a, E b, E 0, E 0, E 0]) (NV ⟨4, s, a, b, mn, mx, m⟩)).run Tryz.prog W = .ok () W := fun x y W => run_eqGuard_agg W _ _ _ _ _ _ (by kernel_rfl)
  have HBL := Lib.hid ((((Below.refl w.heap.size w).alloc (Nat.le_refl _) (Obj.cells (NC ⟨4, s, a, b, mn, mx, m⟩) 54)).alloc (by simp) (Obj.cells #[E 4, .int .u64 0, .int .u64 0, .int .u64 0, .int .u64 0, E a, E b, E 0, E 0, E 0] 54)).alloc (by simp; omega) (Obj.cells #[.int .u64 0, .int .u64 0, .int .u64 0, .int .u64 0] 42))
  by_cases hp : plainN ⟨4, s, a, b, mn, mx, m⟩ = ⟨4, s, a, b, mn, mx, m⟩
  · have HB : ∀ W, (binOp .eql 54 (.agg #[E 4, .int .u64 0, .int .u64 0, .int .u64 0, .int .u64 0, E a, E b, E 0, E 0, E 0]) (NV ⟨4, s, a, b, mn, mx, m⟩)).run Tryz.prog W = .ok (.bool true) W := fun W => by
      have := HQ W
      rw [decide_eq_true hp] at this
      rw [run_eql_struct]
      exact (congrArg (fun q => Result.andThen q fun b w' => Result.ok (Value.bool b) w') this)
    have HO := Lib.hid (show decide (OneN ⟨4, s, a, b, mn, mx, m⟩) = true from by rw [decide_eq_true_iff, ← hp]; unfold OneN plainN; simp)
    clear HQ hp
    go_enter Tryz.func45, Tryz.ntmps45
    go_wp2
    go_ret
    exact ⟨by rw [HO.out]; rfl, HBL.out⟩
  · have HB : ∀ W, (binOp .eql 54 (.agg #[E 4, .int .u64 0, .int .u64 0, .int .u64 0, .int .u64 0, E a, E b, E 0, E 0, E 0]) (NV ⟨4, s, a, b, mn, mx, m⟩)).run Tryz.prog W = .ok (.bool false) W := fun W => by
      have := HQ W
      rw [decide_eq_false hp] at this
      rw [run_eql_struct]
      exact (congrArg (fun q => Result.andThen q fun b w' => Result.ok (Value.bool b) w') this)
    have HO := Lib.hid (show decide (OneN ⟨4, s, a, b, mn, mx, m⟩) = false from by rw [decide_eq_false_iff_not]; exact fun q => hp (one_plain q))
    clear HQ hp
    go_enter Tryz.func45, Tryz.ntmps45
    go_wp2
    go_ret
    exact ⟨by rw [HO.out]; rfl, HBL.out⟩
set_option maxRecDepth 100000 in
set_option maxHeartbeats 1600000 in
theorem fields_5 (s : List Nat) (a b mn mx m : Int) (w : World) (hw : Wf s) : Calls Tryz.prog 45 #[NV ⟨5, s, a, b, mn, mx, m⟩] w fun e w' => e = .returned (.bool (decide (OneN ⟨5, s, a, b, mn, mx, m⟩))) ∧ Below w.heap.size w w' := by
  have HQ := fun W => run_eqR (plainN ⟨5, s, a, b, mn, mx, m⟩) ⟨5, s, a, b, mn, mx, m⟩ (wf_plain hw) hw W
  have HG : ∀ x y W, (eqGuard .eql 54 x y (.agg #[E 5, .int .u64 0, .int .u64 0, .int .u64 0, .int .u64 0, E a, E b, E 0, E 0, E 0]) (NV ⟨5, s, a, b, mn, mx, m⟩)).run Tryz.prog W = .ok () W := fun x y W => run_eqGuard_agg W _ _ _ _ _ _ (by kernel_rfl)
  have HBL := Lib.hid ((((Below.refl w.heap.size w).alloc (Nat.le_refl _) (Obj.cells (NC ⟨5, s, a, b, mn, mx, m⟩) 54)).alloc (by simp) (Obj.cells #[E 5, .int .u64 0, .int .u64 0, .int .u64 0, .int .u64 0, E a, E b, E 0, E 0, E 0] 54)).alloc (by simp; omega) (Obj.cells #[.int .u64 0, .int .u64 0, .int .u64 0, .int .u64 0] 42))
  by_cases hp : plainN ⟨5, s, a, b, mn, mx, m⟩ = ⟨5, s, a, b, mn, mx, m⟩
  · have HB : ∀ W, (binOp .eql 54 (.agg #[E 5, .int .u64 0, .int .u64 0, .int .u64 0, .int .u64 0, E a, E b, E 0, E 0, E 0]) (NV ⟨5, s, a, b, mn, mx, m⟩)).run Tryz.prog W = .ok (.bool true) W := fun W => by
      have := HQ W
      rw [decide_eq_true hp] at this
      rw [run_eql_struct]
      exact (congrArg (fun q => Result.andThen q fun b w' => Result.ok (Value.bool b) w') this)
    have HO := Lib.hid (show decide (OneN ⟨5, s, a, b, mn, mx, m⟩) = true from by rw [decide_eq_true_iff, ← hp]; unfold OneN plainN; simp)
    clear HQ hp
    go_enter Tryz.func45, Tryz.ntmps45
    go_wp2
    go_ret
    exact ⟨by rw [HO.out]; rfl, HBL.out⟩
  · have HB : ∀ W, (binOp .eql 54 (.agg #[E 5, .int .u64 0, .int .u64 0, .int .u64 0, .int .u64 0, E a, E b, E 0, E 0, E 0]) (NV ⟨5, s, a, b, mn, mx, m⟩)).run Tryz.prog W = .ok (.bool false) W := fun W => by
      have := HQ W
      rw [decide_eq_false hp] at this
      rw [run_eql_struct]
      exact (congrArg (fun q => Result.andThen q fun b w' => Result.ok (Value.bool b) w') this)
    have HO := Lib.hid (show decide (OneN ⟨5, s, a, b, mn, mx, m⟩) = false from by rw [decide_eq_false_iff_not]; exact fun q => hp (one_plain q))
    clear HQ hp
    go_enter Tryz.func45, Tryz.ntmps45
    go_wp2
    go_ret
    exact ⟨by rw [HO.out]; rfl, HBL.out⟩
set_option maxRecDepth 100000 in
set_option maxHeartbeats 1600000 in
theorem fields_6 (s : List Nat) (a b mn mx m : Int) (w : World) (hw : Wf s) (hm1 : mx ≠ -1) : Calls Tryz.prog 45 #[NV ⟨6, s, a, b, mn, mx, m⟩] w fun e w' => e = .returned (.bool (decide (OneN ⟨6, s, a, b, mn, mx, m⟩))) ∧ Below w.heap.size w w' := by
  have HQ := fun W => run_eqR (plainN ⟨6, s, a, b, mn, mx, m⟩) ⟨6, s, a, b, mn, mx, m⟩ (wf_plain hw) hw W
  have HG : ∀ x y W, (eqGuard .eql 54 x y (.agg #[E 6, .int .u64 0, .int .u64 0, .int .u64 0, .int .u64 0, E a, E 0, E mn, E mx, E 0]) (NV ⟨6, s, a, b, mn, mx, m⟩)).run Tryz.prog W = .ok () W := fun x y W => run_eqGuard_agg W _ _ _ _ _ _ (by kernel_rfl)
  have HBL := Lib.hid ((((Below.refl w.heap.size w).alloc (Nat.le_refl _) (Obj.cells (NC ⟨6, s, a, b, mn, mx, m⟩) 54)).alloc (by simp) (Obj.cells #[E 6, .int .u64 0, .int .u64 0, .int .u64 0, .int .u64 0, E a, E 0, E mn, E mx, E 0] 54)).alloc (by simp; omega) (Obj.cells #[.int .u64 0, .int .u64 0, .int .u64 0, .int .u64 0] 42))
  have hm1B : (mx != -1) = true := by simpa using hm1
  by_cases h0 : 0 ≤ mn
  · have h0' : ¬ mn < 0 := by omega
    by_cases h255 : mn ≤ 255
    · have h255' : ¬ 255 < mn := by omega
      by_cases c1 : mn ≤ mx
      · have c1' : ¬ mx < mn := by omega
        by_cases c2 : 1 ≤ mx
        · have c2' : ¬ mx < 1 := by omega
          by_cases c3 : mx ≤ 255
          · have c3' : ¬ 255 < mx := by omega
            by_cases hp : plainN ⟨6, s, a, b, mn, mx, m⟩ = ⟨6, s, a, b, mn, mx, m⟩
            · have HB : ∀ W, (binOp .eql 54 (.agg #[E 6, .int .u64 0, .int .u64 0, .int .u64 0, .int .u64 0, E a, E 0, E mn, E mx, E 0]) (NV ⟨6, s, a, b, mn, mx, m⟩)).run Tryz.prog W = .ok (.bool true) W := fun W => by
                have := HQ W
                rw [decide_eq_true hp] at this
                rw [run_eql_struct]
                exact (congrArg (fun q => Result.andThen q fun b w' => Result.ok (Value.bool b) w') this)
              have HO := Lib.hid (show decide (OneN ⟨6, s, a, b, mn, mx, m⟩) = true from by rw [decide_eq_true_iff, ← hp]; unfold OneN plainN; simp; omega)
              clear HQ hp
              go_enter Tryz.func45, Tryz.ntmps45
              go_wp2
              go_ret
              exact ⟨by rw [HO.out]; rfl, HBL.out⟩
            · have HB : ∀ W, (binOp .eql 54 (.agg #[E 6, .int .u64 0, .int .u64 0, .int .u64 0, .int .u64 0, E a, E 0, E mn, E mx, E 0]) (NV ⟨6, s, a, b, mn, mx, m⟩)).run Tryz.prog W = .ok (.bool false) W := fun W => by
                have := HQ W
                rw [decide_eq_false hp] at this
                rw [run_eql_struct]
                exact (congrArg (fun q => Result.andThen q fun b w' => Result.ok (Value.bool b) w') this)
              have HO := Lib.hid (show decide (OneN ⟨6, s, a, b, mn, mx, m⟩) = false from by rw [decide_eq_false_iff_not]; exact fun q => hp (one_plain q))
              clear HQ hp
              go_enter Tryz.func45, Tryz.ntmps45
              go_wp2
              go_ret
              exact ⟨by rw [HO.out]; rfl, HBL.out⟩
          · have HO := Lib.hid (show decide (OneN ⟨6, s, a, b, mn, mx, m⟩) = false from by rw [decide_eq_false_iff_not]; unfold OneN; simp; omega)
            have hbad : 255 < mx := by omega
            clear HQ
            go_enter Tryz.func45, Tryz.ntmps45
            go_wp2
            go_ret
            exact ⟨by rw [HO.out]; rfl, HBL.out⟩
        · have HO := Lib.hid (show decide (OneN ⟨6, s, a, b, mn, mx, m⟩) = false from by rw [decide_eq_false_iff_not]; unfold OneN; simp; omega)
          have hbad : mx < 1 := by omega
          clear HQ
          go_enter Tryz.func45, Tryz.ntmps45
          go_wp2
          go_ret
          exact ⟨by rw [HO.out]; rfl, HBL.out⟩
      · have HO := Lib.hid (show decide (OneN ⟨6, s, a, b, mn, mx, m⟩) = false from by rw [decide_eq_false_iff_not]; unfold OneN; simp; omega)
        have hbad : mx < mn := by omega
        clear HQ
        go_enter Tryz.func45, Tryz.ntmps45
        go_wp2
        go_ret
        exact ⟨by rw [HO.out]; rfl, HBL.out⟩
    · have HO := Lib.hid (show decide (OneN ⟨6, s, a, b, mn, mx, m⟩) = false from by rw [decide_eq_false_iff_not]; unfold OneN; simp; omega)
      have hbad : 255 < mn := by omega
      clear HQ
      go_enter Tryz.func45, Tryz.ntmps45
      go_wp2
      go_ret
      exact ⟨by rw [HO.out]; rfl, HBL.out⟩
  · have HO := Lib.hid (show decide (OneN ⟨6, s, a, b, mn, mx, m⟩) = false from by rw [decide_eq_false_iff_not]; unfold OneN; simp; omega)
    have hbad : mn < 0 := by omega
    clear HQ
    go_enter Tryz.func45, Tryz.ntmps45
    go_wp2
    go_ret
    exact ⟨by rw [HO.out]; rfl, HBL.out⟩
set_option maxRecDepth 100000 in
set_option maxHeartbeats 1600000 in
theorem fields_6m (s : List Nat) (a b mn m : Int) (w : World) (hw : Wf s) : Calls Tryz.prog 45 #[NV ⟨6, s, a, b, mn, (-1), m⟩] w fun e w' => e = .returned (.bool (decide (OneN ⟨6, s, a, b, mn, (-1), m⟩))) ∧ Below w.heap.size w w' := by
  have HQ := fun W => run_eqR (plainN ⟨6, s, a, b, mn, (-1), m⟩) ⟨6, s, a, b, mn, (-1), m⟩ (wf_plain hw) hw W
  have HG : ∀ x y W, (eqGuard .eql 54 x y (.agg #[E 6, .int .u64 0, .int .u64 0, .int .u64 0, .int .u64 0, E a, E 0, E mn, E (-1), E 0]) (NV ⟨6, s, a, b, mn, (-1), m⟩)).run Tryz.prog W = .ok () W := fun x y W => run_eqGuard_agg W _ _ _ _ _ _ (by kernel_rfl)
  have HBL := Lib.hid ((((Below.refl w.heap.size w).alloc (Nat.le_refl _) (Obj.cells (NC ⟨6, s, a, b, mn, (-1), m⟩) 54)).alloc (by simp) (Obj.cells #[E 6, .int .u64 0, .int .u64 0, .int .u64 0, .int .u64 0, E a, E 0, E mn, E (-1), E 0] 54)).alloc (by simp; omega) (Obj.cells #[.int .u64 0, .int .u64 0, .int .u64 0, .int .u64 0] 42))
  by_cases h0 : 0 ≤ mn
  · have h0' : ¬ mn < 0 := by omega
    by_cases h255 : mn ≤ 255
    · have h255' : ¬ 255 < mn := by omega
      by_cases hp : plainN ⟨6, s, a, b, mn, (-1), m⟩ = ⟨6, s, a, b, mn, (-1), m⟩
      · have HB : ∀ W, (binOp .eql 54 (.agg #[E 6, .int .u64 0, .int .u64 0, .int .u64 0, .int .u64 0, E a, E 0, E mn, E (-1), E 0]) (NV ⟨6, s, a, b, mn, (-1), m⟩)).run Tryz.prog W = .ok (.bool true) W := fun W => by
          have := HQ W
          rw [decide_eq_true hp] at this
          rw [run_eql_struct]
          exact (congrArg (fun q => Result.andThen q fun b w' => Result.ok (Value.bool b) w') this)
        have HO := Lib.hid (show decide (OneN ⟨6, s, a, b, mn, (-1), m⟩) = true from by rw [decide_eq_true_iff, ← hp]; unfold OneN plainN; simp; omega)
        clear HQ hp
        go_enter Tryz.func45, Tryz.ntmps45
        go_wp2
        go_ret
        exact ⟨by rw [HO.out]; rfl, HBL.out⟩
      · have HB : ∀ W, (binOp .eql 54 (.agg #[E 6, .int .u64 0, .int .u64 0, .int .u64 0, .int .u64 0, E a, E 0, E mn, E (-1), E 0]) (NV ⟨6, s, a, b, mn, (-1), m⟩)).run Tryz.prog W = .ok (.bool false) W := fun W => by
          have := HQ W
          rw [decide_eq_false hp] at this
          rw [run_eql_struct]
          exact (congrArg (fun q => Result.andThen q fun b w' => Result.ok (Value.bool b) w') this)
        have HO := Lib.hid (show decide (OneN ⟨6, s, a, b, mn, (-1), m⟩) = false from by rw [decide_eq_false_iff_not]; exact fun q => hp (one_plain q))
        clear HQ hp
        go_enter Tryz.func45, Tryz.ntmps45
        go_wp2
        go_ret
        exact ⟨by rw [HO.out]; rfl, HBL.out⟩
    · have HO := Lib.hid (show decide (OneN ⟨6, s, a, b, mn, (-1), m⟩) = false from by rw [decide_eq_false_iff_not]; unfold OneN; simp; omega)
      have hbad : 255 < mn := by omega
      clear HQ
      go_enter Tryz.func45, Tryz.ntmps45
      go_wp2
      go_ret
      exact ⟨by rw [HO.out]; rfl, HBL.out⟩
  · have HO := Lib.hid (show decide (OneN ⟨6, s, a, b, mn, (-1), m⟩) = false from by rw [decide_eq_false_iff_not]; unfold OneN; simp; omega)
    have hbad : mn < 0 := by omega
    clear HQ
    go_enter Tryz.func45, Tryz.ntmps45
    go_wp2
    go_ret
    exact ⟨by rw [HO.out]; rfl, HBL.out⟩
set_option maxRecDepth 100000 in
set_option maxHeartbeats 1600000 in
theorem fields_7 (s : List Nat) (a b mn mx m : Int) (w : World) (hw : Wf s) : Calls Tryz.prog 45 #[NV ⟨7, s, a, b, mn, mx, m⟩] w fun e w' => e = .returned (.bool (decide (OneN ⟨7, s, a, b, mn, mx, m⟩))) ∧ Below w.heap.size w w' := by
  have HQ := fun W => run_eqR (plainN ⟨7, s, a, b, mn, mx, m⟩) ⟨7, s, a, b, mn, mx, m⟩ (wf_plain hw) hw W
  have HG : ∀ x y W, (eqGuard .eql 54 x y (.agg #[E 7, .int .u64 0, .int .u64 0, .int .u64 0, .int .u64 0, E a, E 0, E 0, E 0, E m]) (NV ⟨7, s, a, b, mn, mx, m⟩)).run Tryz.prog W = .ok () W := fun x y W => run_eqGuard_agg W _ _ _ _ _ _ (by kernel_rfl)
  have HBL := Lib.hid ((((Below.refl w.heap.size w).alloc (Nat.le_refl _) (Obj.cells (NC ⟨7, s, a, b, mn, mx, m⟩) 54)).alloc (by simp) (Obj.cells #[E 7, .int .u64 0, .int .u64 0, .int .u64 0, .int .u64 0, E a, E 0, E 0, E 0, E m] 54)).alloc (by simp; omega) (Obj.cells #[.int .u64 0, .int .u64 0, .int .u64 0, .int .u64 0] 42))
  by_cases hp : plainN ⟨7, s, a, b, mn, mx, m⟩ = ⟨7, s, a, b, mn, mx, m⟩
  · have HB : ∀ W, (binOp .eql 54 (.agg #[E 7, .int .u64 0, .int .u64 0, .int .u64 0, .int .u64 0, E a, E 0, E 0, E 0, E m]) (NV ⟨7, s, a, b, mn, mx, m⟩)).run Tryz.prog W = .ok (.bool true) W := fun W => by
      have := HQ W
      rw [decide_eq_true hp] at this
      rw [run_eql_struct]
      exact (congrArg (fun q => Result.andThen q fun b w' => Result.ok (Value.bool b) w') this)
    by_cases h1 : 1 ≤ m
    · by_cases h9 : m ≤ 9
      · have HO := Lib.hid (show decide (OneN ⟨7, s, a, b, mn, mx, m⟩) = true from by rw [decide_eq_true_iff, ← hp]; unfold OneN plainN; simp; omega)
        clear HQ hp
        go_enter Tryz.func45, Tryz.ntmps45
        go_wp2
        go_ret
        exact ⟨by rw [HO.out]; rfl, HBL.out⟩
      · have HO := Lib.hid (show decide (OneN ⟨7, s, a, b, mn, mx, m⟩) = false from by rw [decide_eq_false_iff_not, ← hp]; unfold OneN plainN; simp; omega)
        clear HQ hp
        go_enter Tryz.func45, Tryz.ntmps45
        go_wp2
        go_ret
        exact ⟨by rw [HO.out]; rfl, HBL.out⟩
    · have HO := Lib.hid (show decide (OneN ⟨7, s, a, b, mn, mx, m⟩) = false from by rw [decide_eq_false_iff_not, ← hp]; unfold OneN plainN; simp; omega)
      clear HQ hp
      go_enter Tryz.func45, Tryz.ntmps45
      go_wp2
      go_ret
      exact ⟨by rw [HO.out]; rfl, HBL.out⟩
  · have HB : ∀ W, (binOp .eql 54 (.agg #[E 7, .int .u64 0, .int .u64 0, .int .u64 0, .int .u64 0, E a, E 0, E 0, E 0, E m]) (NV ⟨7, s, a, b, mn, mx, m⟩)).run Tryz.prog W = .ok (.bool false) W := fun W => by
      have := HQ W
      rw [decide_eq_false hp] at this
      rw [run_eql_struct]
      exact (congrArg (fun q => Result.andThen q fun b w' => Result.ok (Value.bool b) w') this)
    have HO := Lib.hid (show decide (OneN ⟨7, s, a, b, mn, mx, m⟩) = false from by rw [decide_eq_false_iff_not]; exact fun q => hp (one_plain q))
    clear HQ hp
    go_enter Tryz.func45, Tryz.ntmps45
    go_wp2
    go_ret
    exact ⟨by rw [HO.out]; rfl, HBL.out⟩
set_option maxRecDepth 100000 in
set_option maxHeartbeats 1600000 in
theorem fields_8 (s : List Nat) (a b mn mx m : Int) (w : World) (hw : Wf s) : Calls Tryz.prog 45 #[NV ⟨8, s, a, b, mn, mx, m⟩] w fun e w' => e = .returned (.bool (decide (OneN ⟨8, s, a, b, mn, mx, m⟩))) ∧ Below w.heap.size w w' := by
  have HQ := fun W => run_eqR (plainN ⟨8, s, a, b, mn, mx, m⟩) ⟨8, s, a, b, mn, mx, m⟩ (wf_plain hw) hw W
  have HG : ∀ x y W, (eqGuard .eql 54 x y (.agg #[E 8, .int .u64 0, .int .u64 0, .int .u64 0, .int .u64 0, E 0, E 0, E 0, E 0, E m]) (NV ⟨8, s, a, b, mn, mx, m⟩)).run Tryz.prog W = .ok () W := fun x y W => run_eqGuard_agg W _ _ _ _ _ _ (by kernel_rfl)
  have HBL := Lib.hid ((((Below.refl w.heap.size w).alloc (Nat.le_refl _) (Obj.cells (NC ⟨8, s, a, b, mn, mx, m⟩) 54)).alloc (by simp) (Obj.cells #[E 8, .int .u64 0, .int .u64 0, .int .u64 0, .int .u64 0, E 0, E 0, E 0, E 0, E m] 54)).alloc (by simp; omega) (Obj.cells #[.int .u64 0, .int .u64 0, .int .u64 0, .int .u64 0] 42))
  by_cases hp : plainN ⟨8, s, a, b, mn, mx, m⟩ = ⟨8, s, a, b, mn, mx, m⟩
  · have HB : ∀ W, (binOp .eql 54 (.agg #[E 8, .int .u64 0, .int .u64 0, .int .u64 0, .int .u64 0, E 0, E 0, E 0, E 0, E m]) (NV ⟨8, s, a, b, mn, mx, m⟩)).run Tryz.prog W = .ok (.bool true) W := fun W => by
      have := HQ W
      rw [decide_eq_true hp] at this
      rw [run_eql_struct]
      exact (congrArg (fun q => Result.andThen q fun b w' => Result.ok (Value.bool b) w') this)
    by_cases h1 : 1 ≤ m
    · by_cases h9 : m ≤ 9
      · have HO := Lib.hid (show decide (OneN ⟨8, s, a, b, mn, mx, m⟩) = true from by rw [decide_eq_true_iff, ← hp]; unfold OneN plainN; simp; omega)
        clear HQ hp
        go_enter Tryz.func45, Tryz.ntmps45
        go_wp2
        go_ret
        exact ⟨by rw [HO.out]; rfl, HBL.out⟩
      · have HO := Lib.hid (show decide (OneN ⟨8, s, a, b, mn, mx, m⟩) = false from by rw [decide_eq_false_iff_not, ← hp]; unfold OneN plainN; simp; omega)
        clear HQ hp
        go_enter Tryz.func45, Tryz.ntmps45
        go_wp2
        go_ret
        exact ⟨by rw [HO.out]; rfl, HBL.out⟩
    · have HO := Lib.hid (show decide (OneN ⟨8, s, a, b, mn, mx, m⟩) = false from by rw [decide_eq_false_iff_not, ← hp]; unfold OneN plainN; simp; omega)
      clear HQ hp
      go_enter Tryz.func45, Tryz.ntmps45
      go_wp2
      go_ret
      exact ⟨by rw [HO.out]; rfl, HBL.out⟩
  · have HB : ∀ W, (binOp .eql 54 (.agg #[E 8, .int .u64 0, .int .u64 0, .int .u64 0, .int .u64 0, E 0, E 0, E 0, E 0, E m]) (NV ⟨8, s, a, b, mn, mx, m⟩)).run Tryz.prog W = .ok (.bool false) W := fun W => by
      have := HQ W
      rw [decide_eq_false hp] at this
      rw [run_eql_struct]
      exact (congrArg (fun q => Result.andThen q fun b w' => Result.ok (Value.bool b) w') this)
    have HO := Lib.hid (show decide (OneN ⟨8, s, a, b, mn, mx, m⟩) = false from by rw [decide_eq_false_iff_not]; exact fun q => hp (one_plain q))
    clear HQ hp
    go_enter Tryz.func45, Tryz.ntmps45
    go_wp2
    go_ret
    exact ⟨by rw [HO.out]; rfl, HBL.out⟩
set_option maxRecDepth 100000 in
set_option maxHeartbeats 1600000 in
theorem fields_out (s : List Nat) (k a b mn mx m : Int) (w : World) (hk : k < 0 ∨ 8 < k) : Calls Tryz.prog 45 #[NV ⟨k, s, a, b, mn, mx, m⟩] w fun e w' => e = .returned (.bool (decide (OneN ⟨k, s, a, b, mn, mx, m⟩))) ∧ Below w.heap.size w w' := by
  have HBL := Lib.hid ((((Below.refl w.heap.size w).alloc (Nat.le_refl _) (Obj.cells (NC ⟨k, s, a, b, mn, mx, m⟩) 54)).alloc (by simp) (Obj.cells #[E k, .int .u64 0, .int .u64 0, .int .u64 0, .int .u64 0, E 0, E 0, E 0, E 0, E 0] 54)).alloc (by simp; omega) (Obj.cells #[.int .u64 0, .int .u64 0, .int .u64 0, .int .u64 0] 42))
  have HO := Lib.hid (show decide (OneN ⟨k, s, a, b, mn, mx, m⟩) = false from by rw [decide_eq_false_iff_not]; intro q; have := one_kind q; dsimp only at this; omega)
  have k0 : (k == 0) = false := by rw [beq_eq_false_iff_ne]; omega
  have k1 : (k == 1) = false := by rw [beq_eq_false_iff_ne]; omega
  have k2 : (k == 2) = false := by rw [beq_eq_false_iff_ne]; omega
  have k3 : (k == 3) = false := by rw [beq_eq_false_iff_ne]; omega
  have k4 : (k == 4) = false := by rw [beq_eq_false_iff_ne]; omega
  have k5 : (k == 5) = false := by rw [beq_eq_false_iff_ne]; omega
  have k6 : (k == 6) = false := by rw [beq_eq_false_iff_ne]; omega
  have k7 : (k == 7) = false := by rw [beq_eq_false_iff_ne]; omega
  have k8 : (k == 8) = false := by rw [beq_eq_false_iff_ne]; omega
  clear hk
  go_enter Tryz.func45, Tryz.ntmps45
  go_wp2
  go_ret
  exact ⟨by rw [HO.out]; rfl, HBL.out⟩
theorem fields_any (n : Nd) (w : World) (hw : Wf n.s) : Calls Tryz.prog 45 #[NV n] w fun e w' => e = .returned (.bool (decide (OneN n))) ∧ Below w.heap.size w w' := by
  obtain ⟨k, s, a, b, mn, mx, m⟩ := n
  by_cases hk : k < 0 ∨ 8 < k
  · exact fields_out s k a b mn mx m w hk
  have h : k = 0 ∨ k = 1 ∨ k = 2 ∨ k = 3 ∨ k = 4 ∨ k = 5 ∨ k = 6 ∨ k = 7 ∨ k = 8 := by omega
  rcases h with rfl | rfl | rfl | rfl | rfl | rfl | rfl | rfl | rfl
  · exact fields_0 s a b mn mx m w hw
  · exact fields_1 s a b mn mx m w hw
  · exact fields_2 s a b mn mx m w hw
  · exact fields_3 s a b mn mx m w hw
  · exact fields_4 s a b mn mx m w hw
  · exact fields_5 s a b mn mx m w hw
  · by_cases hm : mx = -1
    · subst hm; exact fields_6m s a b mn m w hw
    · exact fields_6 s a b mn mx m w hw hm
  · exact fields_7 s a b mn mx m w hw
  · exact fields_8 s a b mn mx m w hw
end Go.Proofs.YtdjedjfanfbbcaaGreatDoor.Rx
