/- Addresses: the walks of what copies. -/
import Derived.Test.YtcijhfdccbgcpaaDoorAdAsk
import Derived.Test.YtcijhfdccbgcpaaDoorShelf
import Derived.WalkKit
import Derived.WalkLawsBesides
import Derived.WalkSpells
import Derived.RowKit3
import Derived.Lib.Hide
import Derived.LoopN
import Derived.Handy
import Derived.Deep.WholeRow
import Derived.Deep.RegionHeld3
namespace Go.Proofs.YtcijhfdccbgcpaaDoor.Ad
open Go.RowKit Go.Shelf
set_option linter.unusedVariables false
set_option linter.unusedSimpArgs false
abbrev S (l : List UInt8) : Value := .string ⟨l.toArray⟩
abbrev E (n : Int) : Value := .int .i64 n
abbrev Y (n : Nat) : Value := .int .u8 (n : Int)
theorem ret1 {a a' : Value} (h1 : a = a') : Ending.returned a = .returned a' := by rw [h1]
abbrev AV (a : A3) : Value := .agg #[E a.k, E a.n, E a.m]
abbrev RV (a b : A3) (n : Bool) : Value := .agg #[E a.k, E a.n, E a.m, E b.k, E b.n, E b.m, .bool n]
abbrev SV2 (s : S2) : Value := .agg #[.bool s.op, E s.to]
abbrev LV (n : Int) (last : Bool) (h : Value) : Value := .agg #[E n, .bool last, h]
theorem ansA {t : TypeId} {fs : Array Field} (hu : Tryd.prog.underlying t = some (.struct fs)) (n : Nat) (hs : (Tryd.prog.info? t).map (·.size) = some n) {fn : Func} {p : Tmp} (h : fn.results = #[.cell p t]) {tmps : Array Value} {w : World} {g : Nat} {c : Array Value} {tt : TypeId} {fr : Nat × Nat} (hp : tmps.getD p undef = .pointer (some ⟨g, 0, none⟩)) (hg : w.heap[g]? = some (.cells c tt fr)) (hc : c.size = n) :
    (results fn tmps).run Tryd.prog w = .ok (.agg c) w :=
  results_cell_row h tmps w g tt c fr (.struct fs) hp hg hu rfl (by rw [hc]; exact hs)
theorem infoR : (Tryd.prog.info? 31).map (·.size) = some 3 := by kernel_rfl
set_option maxRecDepth 100000 in
theorem its_any (a : A3) (w : World) : Calls Tryd.prog 22 #[AV a] w fun e w' => e = .returned (AV a) ∧ Below w.heap.size w w' := by
  have hg := heap_alloc_new (w.alloc (Obj.cells #[E a.k, E a.n, E a.m] 23)) (Obj.cells #[E a.k, E a.n, E a.m] 31)
  rw [show (w.alloc (Obj.cells #[E a.k, E a.n, E a.m] 23)).heap.size = w.heap.size + 1 from by simp] at hg
  have HG := Lib.hid hg
  clear hg
  go_enter Tryd.func22, Tryd.ntmps22
  go_wp2
  refine bodyPost_ret (v := AV a) ?_ ?_ ?_
  · exact ansA Tryd.underlying31 3 infoR rfl rfl HG.out rfl
  · rfl
  · exact ⟨rfl, ((Below.refl w.heap.size w).alloc (Nat.le_refl _) _).alloc (by simp) _⟩
theorem infoL : (Tryd.prog.info? 48).map (·.size) = some 3 := by kernel_rfl
set_option maxRecDepth 100000 in
theorem line_any (n : Int) (last : Bool) (ao : Option Addr) (l c : Nat) (w : World) : Calls Tryd.prog 23 #[LV n last (.slice ao l c)] w fun e w' => e = .returned (LV n last (.slice ao l c)) ∧ Below w.heap.size w w' := by
  have hg := heap_alloc_new (w.alloc (Obj.cells #[E n, .bool last, .slice ao l c] 44)) (Obj.cells #[E n, .bool last, .slice ao l c] 48)
  rw [show (w.alloc (Obj.cells #[E n, .bool last, .slice ao l c] 44)).heap.size = w.heap.size + 1 from by simp] at hg
  have HG := Lib.hid hg
  clear hg
  go_enter Tryd.func23, Tryd.ntmps23
  go_wp2
  refine bodyPost_ret (v := LV n last (.slice ao l c)) ?_ ?_ ?_
  · exact ansA Tryd.underlying48 3 infoL rfl rfl HG.out rfl
  · rfl
  · exact ⟨rfl, ((Below.refl w.heap.size w).alloc (Nat.le_refl _) _).alloc (by simp) _⟩
theorem may_low (k n m : Int) (h1 : k < 0) (w : World) : Calls Tryd.prog 32 #[AV ⟨k, n, m⟩] w fun e w' => e = .returned (.bool (decide (One ⟨k, n, m⟩))) ∧ Below w.heap.size w w' := by
  have HO := Lib.hid (show decide (One ⟨k, n, m⟩) = false from by rw [decide_eq_false_iff_not]; unfold One; dsimp only; omega)
  go_enter Tryd.func32, Tryd.ntmps32
  go_wp2
  go_ret
  exact ⟨by rw [HO.out]; exact ret1 rfl, ((Below.refl w.heap.size w).alloc (Nat.le_refl _) _).alloc (by simp) _⟩
theorem may_high (k n m : Int) (h1 : 6 < k) (w : World) : Calls Tryd.prog 32 #[AV ⟨k, n, m⟩] w fun e w' => e = .returned (.bool (decide (One ⟨k, n, m⟩))) ∧ Below w.heap.size w w' := by
  have HO := Lib.hid (show decide (One ⟨k, n, m⟩) = false from by rw [decide_eq_false_iff_not]; unfold One; dsimp only; omega)
  have h2 : (0 : Int) ≤ k := by omega
  have h3 : (7 : Int) ≤ k := by omega
  go_enter Tryd.func32, Tryd.ntmps32
  go_wp2
  go_ret
  exact ⟨by rw [HO.out]; exact ret1 rfl, ((Below.refl w.heap.size w).alloc (Nat.le_refl _) _).alloc (by simp) _⟩
set_option maxRecDepth 100000 in
set_option maxHeartbeats 1600000 in
theorem may_0 (n m : Int) (w : World) : Calls Tryd.prog 32 #[AV ⟨0, n, m⟩] w fun e w' => e = .returned (.bool (decide (One ⟨0, n, m⟩))) ∧ Below w.heap.size w w' := by
  go_enter Tryd.func32, Tryd.ntmps32
  go_wp2
  all_goals go_ret
  all_goals refine ⟨ret1 (congrArg Value.bool ?_), (((Below.refl w.heap.size w).alloc (Nat.le_refl _) _).alloc (by simp) _).alloc (by simp; try omega) _⟩
  all_goals first
    | (show decide _ = decide _; rw [decide_eq_decide]; unfold One; dsimp only; omega)
    | (show false = decide _; symm; rw [decide_eq_false_iff_not]; unfold One; dsimp only; omega)
set_option maxRecDepth 100000 in
set_option maxHeartbeats 1600000 in
theorem may_1 (n m : Int) (w : World) : Calls Tryd.prog 32 #[AV ⟨1, n, m⟩] w fun e w' => e = .returned (.bool (decide (One ⟨1, n, m⟩))) ∧ Below w.heap.size w w' := by
  go_enter Tryd.func32, Tryd.ntmps32
  go_wp2
  all_goals go_ret
  all_goals refine ⟨ret1 (congrArg Value.bool ?_), (((Below.refl w.heap.size w).alloc (Nat.le_refl _) _).alloc (by simp) _).alloc (by simp; try omega) _⟩
  all_goals first
    | (show decide _ = decide _; rw [decide_eq_decide]; unfold One; dsimp only; omega)
    | (show false = decide _; symm; rw [decide_eq_false_iff_not]; unfold One; dsimp only; omega)
set_option maxRecDepth 100000 in
set_option maxHeartbeats 1600000 in
theorem may_2 (n m : Int) (w : World) : Calls Tryd.prog 32 #[AV ⟨2, n, m⟩] w fun e w' => e = .returned (.bool (decide (One ⟨2, n, m⟩))) ∧ Below w.heap.size w w' := by
  go_enter Tryd.func32, Tryd.ntmps32
  go_wp2
  all_goals go_ret
  all_goals refine ⟨ret1 (congrArg Value.bool ?_), (((Below.refl w.heap.size w).alloc (Nat.le_refl _) _).alloc (by simp) _).alloc (by simp; try omega) _⟩
  all_goals first
    | (show decide _ = decide _; rw [decide_eq_decide]; unfold One; dsimp only; omega)
    | (show false = decide _; symm; rw [decide_eq_false_iff_not]; unfold One; dsimp only; omega)
set_option maxRecDepth 100000 in
set_option maxHeartbeats 1600000 in
theorem may_3 (n m : Int) (w : World) : Calls Tryd.prog 32 #[AV ⟨3, n, m⟩] w fun e w' => e = .returned (.bool (decide (One ⟨3, n, m⟩))) ∧ Below w.heap.size w w' := by
  go_enter Tryd.func32, Tryd.ntmps32
  go_wp2
  all_goals go_ret
  all_goals refine ⟨ret1 (congrArg Value.bool ?_), (((Below.refl w.heap.size w).alloc (Nat.le_refl _) _).alloc (by simp) _).alloc (by simp; try omega) _⟩
  all_goals first
    | (show decide _ = decide _; rw [decide_eq_decide]; unfold One; dsimp only; omega)
    | (show false = decide _; symm; rw [decide_eq_false_iff_not]; unfold One; dsimp only; omega)
set_option maxRecDepth 100000 in
set_option maxHeartbeats 1600000 in
theorem may_4 (n m : Int) (w : World) : Calls Tryd.prog 32 #[AV ⟨4, n, m⟩] w fun e w' => e = .returned (.bool (decide (One ⟨4, n, m⟩))) ∧ Below w.heap.size w w' := by
  go_enter Tryd.func32, Tryd.ntmps32
  go_wp2
  all_goals go_ret
  all_goals refine ⟨ret1 (congrArg Value.bool ?_), (((Below.refl w.heap.size w).alloc (Nat.le_refl _) _).alloc (by simp) _).alloc (by simp; try omega) _⟩
  all_goals first
    | (show decide _ = decide _; rw [decide_eq_decide]; unfold One; dsimp only; omega)
    | (show false = decide _; symm; rw [decide_eq_false_iff_not]; unfold One; dsimp only; omega)
set_option maxRecDepth 100000 in
set_option maxHeartbeats 1600000 in
theorem may_5 (n m : Int) (w : World) : Calls Tryd.prog 32 #[AV ⟨5, n, m⟩] w fun e w' => e = .returned (.bool (decide (One ⟨5, n, m⟩))) ∧ Below w.heap.size w w' := by
  go_enter Tryd.func32, Tryd.ntmps32
  go_wp2
  all_goals go_ret
  all_goals refine ⟨ret1 (congrArg Value.bool ?_), (((Below.refl w.heap.size w).alloc (Nat.le_refl _) _).alloc (by simp) _).alloc (by simp; try omega) _⟩
  all_goals first
    | (show decide _ = decide _; rw [decide_eq_decide]; unfold One; dsimp only; omega)
    | (show false = decide _; symm; rw [decide_eq_false_iff_not]; unfold One; dsimp only; omega)
set_option maxRecDepth 100000 in
set_option maxHeartbeats 1600000 in
theorem may_6 (n m : Int) (w : World) : Calls Tryd.prog 32 #[AV ⟨6, n, m⟩] w fun e w' => e = .returned (.bool (decide (One ⟨6, n, m⟩))) ∧ Below w.heap.size w w' := by
  go_enter Tryd.func32, Tryd.ntmps32
  go_wp2
  all_goals go_ret
  all_goals refine ⟨ret1 (congrArg Value.bool ?_), (((Below.refl w.heap.size w).alloc (Nat.le_refl _) _).alloc (by simp) _).alloc (by simp; try omega) _⟩
  all_goals first
    | (show decide _ = decide _; rw [decide_eq_decide]; unfold One; dsimp only; omega)
    | (show false = decide _; symm; rw [decide_eq_false_iff_not]; unfold One; dsimp only; omega)
theorem may_one (a : A3) (w : World) : Calls Tryd.prog 32 #[AV a] w fun e w' => e = .returned (.bool (decide (One a))) ∧ Below w.heap.size w w' := by
  obtain ⟨k, n, m⟩ := a
  by_cases h1 : k < 0
  · exact may_low k n m h1 w
  by_cases h2 : 6 < k
  · exact may_high k n m h2 w
  obtain rfl | rfl | rfl | rfl | rfl | rfl | rfl : k = 0 ∨ k = 1 ∨ k = 2 ∨ k = 3 ∨ k = 4 ∨ k = 5 ∨ k = 6 := by omega
  · exact may_0 n m w
  · exact may_1 n m w
  · exact may_2 n m w
  · exact may_3 n m w
  · exact may_4 n m w
  · exact may_5 n m w
  · exact may_6 n m w
end Go.Proofs.YtcijhfdccbgcpaaDoor.Ad
