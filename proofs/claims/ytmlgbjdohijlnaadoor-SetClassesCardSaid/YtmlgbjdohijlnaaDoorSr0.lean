/- Rows of 256 truths: laws on the memory. -/
import Derived.Test.YtmlgbjdohijlnaaDoorSt3
import Derived.Deep.WholeRow
import Derived.Laws.CopyOwn
namespace Go.Proofs.YtmlgbjdohijlnaaDoor.St
open Go.RowKit
set_option linter.unusedVariables false
set_option linter.unusedSimpArgs false
def bc (f : Nat → Bool) : Array Value := (Array.range 256).map fun j => Value.bool (f j)
abbrev BV (f : Nat → Bool) : Value := .agg (bc f)
abbrev BB (w : World) (b : Nat) (f : Nat → Bool) : Prop := w.heap[b]? = some (.cells (bc f) 29 (0, 0))
theorem bc_size (f : Nat → Bool) : (bc f).size = 256 := by simp [bc]
theorem bc_at (f : Nat → Bool) {i : Nat} (hi : i < 256) : (bc f)[i]? = some (.bool (f i)) := by
  simp [bc, hi]
theorem bc_congr {f g : Nat → Bool} (h : ∀ i, i < 256 → f i = g i) : bc f = bc g := by
  apply Array.ext
  · simp [bc_size]
  · intro i h1 h2
    have hi : i < 256 := by rw [bc_size] at h1; exact h1
    have e1 := bc_at f hi
    have e2 := bc_at g hi
    rw [Array.getElem?_eq_getElem h1] at e1
    rw [Array.getElem?_eq_getElem h2] at e2
    rw [Option.some.inj e1, Option.some.inj e2, h i hi]
theorem bc_zero : Array.replicate 256 (Value.bool false) = bc (fun _ => false) := by
  apply Array.ext
  · simp [bc_size]
  · intro i h1 h2; simp [bc]
theorem bc_one (f : Nat → Bool) : (bc f).all (·.oneCell') = true := by
  rw [Array.all_eq_true_iff_forall_mem]
  intro v hv
  obtain ⟨j, _, rfl⟩ := Array.mem_map.1 hv
  rfl
theorem bc_set (f : Nat → Bool) (k : Nat) (v : Bool) : (bc f).setIfInBounds k (.bool v) = bc (fun i => if i = k then v else f i) := by
  apply Array.ext_getElem?
  intro i
  by_cases hi : i < 256
  · rw [bc_at _ hi]
    by_cases hk : k = i
    · subst hk
      rw [Array.getElem?_setIfInBounds_self_of_lt (by rw [bc_size]; exact hi)]; simp
    · rw [Array.getElem?_setIfInBounds_ne hk, bc_at f hi, if_neg (fun e => hk e.symm)]
  · rw [Array.getElem?_eq_none (by rw [Array.size_setIfInBounds, bc_size]; omega), Array.getElem?_eq_none (by rw [bc_size]; omega)]
theorem bc_put {f g : Nat → Bool} {k : Nat} {v : Bool} (h : ∀ i, i < 256 → g i = if i = k then v else f i) : (bc f).setIfInBounds k (.bool v) = bc g := by
  rw [bc_set]; exact bc_congr fun i hi => (h i hi).symm
theorem BB.cell {w : World} {b : Nat} {f : Nat → Bool} (h : BB w b f) {i : Nat} (hi : i < 256) : w.cell? ⟨b, i, none⟩ = some (.bool (f i)) := by
  rw [Lib.cell_of_heap h]; exact bc_at f hi
theorem BB.put {w : World} {b : Nat} {f g : Nat → Bool} (h : BB w b f) {k : Nat} {v : Bool} (hg : ∀ i, i < 256 → g i = if i = k then v else f i) : BB (w.setCell ⟨b, k, none⟩ (.bool v)) b g := by
  unfold BB; rw [heap_set_at h, bc_put hg]
theorem BB.drew {w : World} {b : Nat} {f : Nat → Bool} (h : BB w b f) : BB w.drew b f := h
theorem bb_new (W : World) (f : Nat → Bool) : BB (W.alloc (.cells (bc f) 29)) W.heap.size f := heap_alloc_new _ _
theorem zero_at : ∀ w, (zeroValue 29).run Tryd.prog w = .ok (.agg (bc fun _ => false)) w := by
  have := (zero_of_info (P := Tryd.prog) (t := 29) (v := .agg (Array.replicate 256 (.bool false))) (n := 256) (by kernel_rfl)).1
  rwa [bc_zero] at this
theorem row_load {P : Program} {W : World} {g : Nat} {c : Array Value} {t : TypeId} {fr : Nat × Nat} (h : W.heap[g]? = some (.cells c t fr)) {n : Nat} (hn : c.size = n) : (loadCellsFrom ⟨g, 0, none⟩ 0 n #[]).run P W = .ok c W := by
  subst hn
  have := run_loadCells_list (P := P) W ⟨g, 0, none⟩ c.toList (fun j v hv => by
    have hadd : (⟨g, 0, none⟩ : Addr).add j = ⟨g, j, none⟩ := by unfold Addr.add; split <;> simp_all
    rw [hadd, cell_of_row _ _ j c t fr h]
    simpa using hv)
  simpa [loadCells] using this
theorem row_store {P : Program} {W : World} {g : Nat} {c c' : Array Value} {t : TypeId} (h : W.heap[g]? = some (.cells c t (0, 0))) (ho : c.size = c'.size) (h1 : c'.all (·.oneCell') = true) :
    (storeCells ⟨g, 0, none⟩ c'.toList 0).run P W = .ok () (W.setRow g c') :=
  run_storeCells_from (P := P) g t c'.toList 0 c W h (by simp; omega) (fun v hv => (Array.all_eq_true_iff_forall_mem.1 h1) v (by simpa using hv))
theorem heap_row_at {w : World} {b : Nat} {c : Array Value} {t : TypeId} {f : Nat × Nat} (h : w.heap[b]? = some (.cells c t f)) (c' : Array Value) : (w.setRow b c').heap[b]? = some (.cells c' t f) := by
  simp only [World.setRow, Array.getElem?_modify, if_true, h]; rfl
theorem heap_row_other {w : World} {b b' : Nat} {o : Obj} (h : w.heap[b']? = some o) (hb : b ≠ b') (c' : Array Value) : (w.setRow b c').heap[b']? = some o := by
  simp only [World.setRow, Array.getElem?_modify, h]
  rw [if_neg hb]
theorem BB.row {w : World} {b : Nat} {f : Nat → Bool} (h : BB w b f) (g : Nat → Bool) : BB (w.setRow b (bc g)) b g := heap_row_at h _
/-- The answer in a box. -/
theorem answer {fn : Func} {p : Tmp} (h : fn.results = #[.cell p 29]) {tmps : Array Value} {w : World} {g : Nat} {f : Nat → Bool} (hp : tmps.getD p undef = .pointer (some ⟨g, 0, none⟩)) (hg : BB w g f) : (results fn tmps).run Tryd.prog w = .ok (BV f) w :=
  results_cell_row h tmps w g _ (bc f) (0, 0) (.array 256 4) hp hg Tryd.underlying29 rfl (by rw [bc_size]; kernel_rfl)
theorem size_at : (Tryd.prog.info? 29).map (·.size) = some 256 := by kernel_rfl
/-- The tail of a function that hands a row back: the row is loaded, and laid into the answer's box. -/
theorem tail_row {id : Nat} {o1 o2 : Oper} {s d k : Nat} {Q : Exit → Act → World → Prop} {a : Act} {w : World} {src dst : Nat} {f g : Nat → Bool} (g1 : o1.guard = none) (g2 : o2.guard = none)
    (h1 : o1.op = .load 29 (.tmp s)) (h2 : o2.op = .store 29 (.tmp d) (.tmp k)) (hk : o1.dst = some k) (hk2 : o2.dst = none)
    (hs : a.eval (.tmp s) = .pointer (some ⟨src, 0, none⟩)) (hd : (a.put (some k) (BV f)).eval (.tmp d) = .pointer (some ⟨dst, 0, none⟩)) (hv : (a.put (some k) (BV f)).eval (.tmp k) = BV f)
    (hS : BB w src f) (hD : BB w dst g) (h : Q .normal (a.put (some k) (BV f)) (w.setRow dst (bc f))) : (Code.region id #[o1, o2] false).wp Tryd.prog Q a w := by
  refine wp_region_list ?_
  refine wpList_load_row g1 29 (.tmp s) h1 src hs _ (bc f) (0, 0) (.array 256 4) hS Tryd.underlying29 rfl (by rw [bc_size]; exact size_at) ?_
  rw [hk]
  refine wpList_store_row g2 29 (.tmp d) (.tmp k) h2 dst (bc f) hd hv _ (bc g) hD (by rw [bc_size]; exact size_at) (by rw [bc_size, bc_size]) (bc_one f) ?_
  rw [hk2]
  exact wpList_nil h
#print axioms tail_row
end Go.Proofs.YtmlgbjdohijlnaaDoor.St
