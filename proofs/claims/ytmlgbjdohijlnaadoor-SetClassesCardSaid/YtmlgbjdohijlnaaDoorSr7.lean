/- Rows of 256 truths, held against each other. -/
import Derived.Test.YtmlgbjdohijlnaaDoorSr0
import Derived.DeepKeys
namespace Go.Proofs.YtmlgbjdohijlnaaDoor.St
open Go.RowKit
set_option linter.unusedVariables false
set_option linter.unusedSimpArgs false
theorem mapM_some {α β : Type} (g : α → Option β) (h : α → β) : ∀ is : List α, (∀ i ∈ is, g i = some (h i)) → is.mapM g = some (is.map h)
  | [], _ => rfl
  | i :: r, hh => by
    rw [List.mapM_cons, hh i (by simp), mapM_some g h r (fun j hj => hh j (by simp [hj]))]
    rfl
theorem cells29 : Tryd.prog.cellsOf 29 = 256 := by kernel_rfl
theorem cells4 : Tryd.prog.cellsOf 4 = 1 := by kernel_rfl
theorem bc_list (f : Nat → Bool) {i : Nat} (hi : i < 256) : ((bc f).toList.drop i).take 1 = [Value.bool (f i)] := by
  have h := bc_at f hi
  have hl : i < (bc f).toList.length := by rw [Array.length_toList, bc_size]; exact hi
  rw [List.drop_eq_getElem_cons hl, List.take_succ_cons, List.take_zero]
  congr 1
  have : (bc f).toList[i]? = some (.bool (f i)) := by rw [Array.getElem?_toList]; exact h
  rw [List.getElem?_eq_getElem hl] at this
  exact Option.some.inj this
theorem bc_lits (f : Nat → Bool) : Tryd.prog.keyLits 2 29 (bc f).toList = some ((List.range 256).map fun i => [Lit.bool (f i)]).flatten := by
  unfold Program.keyLits
  simp only [Tryd.underlying29, cells29, cells4, Array.length_toList, bc_size, if_true, Nat.mul_one]
  rw [mapM_some _ (fun i => [Lit.bool (f i)])]
  · rfl
  · intro i hi
    rw [bc_list f (List.mem_range.1 hi)]
    unfold Program.keyLits
    simp only [Tryd.underlying4]
theorem run_eq256 (f : Nat → Bool) (w : World) : (Op.equalIn 10000 29 (BV f) (BV f)).run Tryd.prog w = .ok true w := by
  have hE := run_equalIn_deep (P := Tryd.prog) 9998 2 29 (by kernel_rfl)
  have hF : (BV f).formed Tryd.prog 29 = true := by
    simp only [Value.formed, Tryd.underlying29, bc_size, cells29, beq_self_eq_true]
  obtain ⟨r, h1, h2⟩ := hE w 2 2 (BV f) (BV f) _ _ hF hF (bc_lits f) (bc_lits f)
  rw [h2.2 rfl] at h1
  exact h1
theorem idx_row (f : Nat → Bool) {a : Nat} (ha : a < 256) (w : World) : (Instr.index 29 (BV f) (.int .u8 (a : Int))).run Tryd.prog w = .ok (.bool (f a)) w := by
  have h1 := Tryd.isAgg4
  have h2 := Tryd.sizeOf4
  have h3 := bc_at f ha
  have h4 : (0 : Int) ≤ (a : Int) ∧ (a : Int) < 256 := by omega
  have h5 : (0 : Int) ≤ (a : Int) ∧ (a : Int) < ((256 : Nat) : Int) := by omega
  have h6 : a < (bc f).size := by rw [bc_size]; exact ha
  simp [Instr.index, Sem.run_bind, asIntOf, run_underlying Tryd.underlying29, h1, h2, h3, h4, h5, h6, part, Result.andThen]
  rw [if_pos ha]
  rw [Array.getElem?_eq_getElem h6] at h3
  rw [Option.some.inj h3]
end Go.Proofs.YtmlgbjdohijlnaaDoor.St
