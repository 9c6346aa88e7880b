/- Patterns: the reader of one node: what lies in memory. -/
import Derived.Test.YtdjedjfanfbbcaaGreatDoorRxR1
import Derived.Deep.AppendLies
import Derived.Laws.EntriesVeiled
namespace Go.Proofs.YtdjedjfanfbbcaaGreatDoor.Rx
open Go.RowKit Go.Shelf
open Go.Proofs.YtdjedjfanfbbcaaGreatDoor.St (Wf word zeroW Tab SV SV_eq)
open Go.Proofs.YtdjedjfanfbbcaaGreatDoor.Ad (cutB atoiV)
set_option linter.unusedVariables false
set_option linter.unusedSimpArgs false
/-- The reader, a pointer to it, how deep, and a node. -/
structure ST (w0 : World) (b : Nat) (w1 : World) (v1 : Value) (left : Int) (n : Nd) (r : Rd) (v : Value) (w : World) : Prop where
  rw : RW w0 b r v w
  kr : Kr b w1 v1 w v
  p0 : w.heap[w1.heap.size]? = some (.cells #[PT b] 47 (0, 0))
  p1 : w.heap[w1.heap.size + 1]? = some (.cells #[E left] 3 (0, 0))
  p2 : NB w (w1.heap.size + 2) n
  kb : b < w1.heap.size
  h01 : w0.heap.size ≤ w1.heap.size
  own : ∀ k, w1.heap.size ≤ k → k < w1.heap.size + 3 → v.ownBlock ≠ some k
section
variable {w0 w1 w w' : World} {b : Nat} {v1 v v' : Value} {left : Int} {n : Nd} {r r' : Rd}
theorem ST.below (h : ST w0 b w1 v1 left n r v w) (hb : Below w.heap.size w w') : ST w0 b w1 v1 left n r v w' :=
  ⟨h.rw.below hb, h.kr.below hb, (hb.block _ (lt_heap' h.p0)).trans h.p0, (hb.block _ (lt_heap' h.p1)).trans h.p1, (hb.block _ (lt_heap' h.p2)).trans h.p2, h.kb, h.h01, h.own⟩
theorem ST.sz (h : ST w0 b w1 v1 left n r v w) : w1.heap.size + 3 ≤ w.heap.size := lt_heap' h.p2
/-- Behind a call that reads on. -/
theorem ST.step (h : ST w0 b w1 v1 left n r v w) (hr : RW w0 b r' v' w') (hk : Kr b w v w' v') : ST w0 b w1 v1 left n r' v' w' := by
  have hs := h.sz
  have hkb := h.kb
  have f0 := hk.far w1.heap.size (by omega) (by omega) (h.own _ (by omega) (by omega))
  have f1 := hk.far (w1.heap.size + 1) (by omega) (by omega) (h.own _ (by omega) (by omega))
  have f2 := hk.far (w1.heap.size + 2) (by omega) (by omega) (h.own _ (by omega) (by omega))
  refine ⟨hr, h.kr.trans hk, f0.1.trans h.p0, f1.1.trans h.p1, f2.1.trans h.p2, h.kb, h.h01, fun k h1 h2 => ?_⟩
  rcases (show k = w1.heap.size ∨ k = w1.heap.size + 1 ∨ k = w1.heap.size + 2 by omega) with rfl | rfl | rfl
  · exact f0.2
  · exact f1.2
  · exact f2.2
theorem ST.setRest (h : ST w0 b w1 v1 left n r v w) (x : List UInt8) : ST w0 b w1 v1 left n ⟨x, r.l, r.g, r.bad⟩ v (w.setCell ⟨b, 0, none⟩ (S x)) :=
  h.step (h.rw.setRest x) ((Kr.refl b w v).set 0 (S x))
theorem ST.setG (h : ST w0 b w1 v1 left n r v w) (x : Int) : ST w0 b w1 v1 left n ⟨r.rest, r.l, x, r.bad⟩ v (w.setCell ⟨b, 2, none⟩ (E x)) :=
  h.step (h.rw.setG x) ((Kr.refl b w v).set 2 (E x))
theorem ST.setBad (h : ST w0 b w1 v1 left n r v w) (x : Bool) : ST w0 b w1 v1 left n ⟨r.rest, r.l, r.g, x⟩ v (w.setCell ⟨b, 3, none⟩ (.bool x)) :=
  h.step (h.rw.setBad x) ((Kr.refl b w v).set 3 (.bool x))
theorem ST.node (h : ST w0 b w1 v1 left n r v w) {i : Nat} {u : Value} {m : Nd} (e : (NC n).setIfInBounds i u = NC m) : ST w0 b w1 v1 left m r v (w.setCell ⟨w1.heap.size + 2, i, none⟩ u) := by
  have hs3 := h.sz
  have ho := other_set (w1 := w1) h.rw h.kr (K := w1.heap.size + 2) (by have := h.kb; omega) (h.own (w1.heap.size + 2) (by omega) (by omega)) (by have := h.h01; omega) (by omega) i u
  refine ⟨ho.1, ho.2, setne h.p0 (by omega), setne h.p1 (by omega), ?_, h.kb, h.h01, h.own⟩
  have := Go.Joins.block_setCell h.p2 (i := i) u
  rw [e] at this
  exact this
theorem ST.facts (h : ST w0 b w1 v1 left n r v w) :
    (w.cell? ⟨w1.heap.size, 0, none⟩ = some (PT b) ∧ w.cell? ⟨w1.heap.size + 1, 0, none⟩ = some (E left)) ∧
    (w.cell? ⟨w1.heap.size + 1 + 1, 0, none⟩ = some (E n.k) ∧ w.cell? ⟨w1.heap.size + 1 + 1, 1, none⟩ = some (U (word n.s 0)) ∧ w.cell? ⟨w1.heap.size + 1 + 1, 2, none⟩ = some (U (word n.s 1)) ∧ w.cell? ⟨w1.heap.size + 1 + 1, 3, none⟩ = some (U (word n.s 2)) ∧ w.cell? ⟨w1.heap.size + 1 + 1, 4, none⟩ = some (U (word n.s 3)) ∧
      w.cell? ⟨w1.heap.size + 1 + 1, 5, none⟩ = some (E n.a) ∧ w.cell? ⟨w1.heap.size + 1 + 1, 6, none⟩ = some (E n.b) ∧ w.cell? ⟨w1.heap.size + 1 + 1, 7, none⟩ = some (E n.mn) ∧ w.cell? ⟨w1.heap.size + 1 + 1, 8, none⟩ = some (E n.mx) ∧ w.cell? ⟨w1.heap.size + 1 + 1, 9, none⟩ = some (E n.n)) ∧
    (∀ i, w.frozen? ⟨w1.heap.size + 1 + 1, i, none⟩ = false) :=
  ⟨⟨cell_of_one h.p0, cell_of_one h.p1⟩, ⟨(Lib.cell_of_heap h.p2 0).trans rfl, (Lib.cell_of_heap h.p2 1).trans rfl, (Lib.cell_of_heap h.p2 2).trans rfl, (Lib.cell_of_heap h.p2 3).trans rfl, (Lib.cell_of_heap h.p2 4).trans rfl, (Lib.cell_of_heap h.p2 5).trans rfl, (Lib.cell_of_heap h.p2 6).trans rfl, (Lib.cell_of_heap h.p2 7).trans rfl, (Lib.cell_of_heap h.p2 8).trans rfl, (Lib.cell_of_heap h.p2 9).trans rfl⟩, fun i => by have h2 := h.p2; simp [World.frozen?, h2]⟩
end
abbrev N0 : Nd := ⟨0, z4, 0, 0, 0, 0, 0⟩
abbrev C0 : Array Value := #[.int .i64 0, .int .u64 0, .int .u64 0, .int .u64 0, .int .u64 0, .int .i64 0, .int .i64 0, .int .i64 0, .int .i64 0, .int .i64 0]
/-- Where the reading of a node begins: the reader has been set already. -/
theorem st_from {w0 w1 w2 : World} {b : Nat} {r : Rd} {v : Value} (r1 : RW w0 b r v w2) (k1 : Kr b w1 v w2 v) (sz : w2.heap.size = w1.heap.size) (hlt : b < w1.heap.size) (hs : w0.heap.size ≤ w1.heap.size) (left : Int) (n : Nd) :
    ST w0 b w1 v left n r v (((w2.alloc (.cells #[PT b] 47)).alloc (.cells #[E left] 3)).alloc (.cells (NC n) 45)) := by
  have e0 := heap_alloc_new w2 (.cells #[PT b] 47)
  have e1 := heap_alloc_new (w2.alloc (.cells #[PT b] 47)) (.cells #[E left] 3)
  have e2 := heap_alloc_new ((w2.alloc (.cells #[PT b] 47)).alloc (.cells #[E left] 3)) (.cells (NC n) 45)
  have b3 := ((((Below.refl w2.heap.size w2).alloc (Nat.le_refl _) (.cells #[PT b] 47)).alloc (by simp) (.cells #[E left] 3)).alloc (by simp; omega) (.cells (NC n) 45))
  have s1 : (w2.alloc (.cells #[PT b] 47)).heap.size = w1.heap.size + 1 := by simp [sz]
  have s2 : ((w2.alloc (.cells #[PT b] 47)).alloc (.cells #[E left] 3)).heap.size = w1.heap.size + 2 := by simp [sz]
  rw [sz] at e0
  rw [s1] at e1
  rw [s2] at e2
  refine ⟨r1.below b3, k1.below b3, ?_, ?_, ?_, hlt, hs, ?_⟩
  · exact (Below.heap_alloc _ _ _ (by rw [s2]; omega)).trans ((Below.heap_alloc _ _ _ (by rw [s1]; omega)).trans e0)
  · exact (Below.heap_alloc _ _ _ (by rw [s2]; omega)).trans e1
  · exact e2
  · intro k h1 h2 q
    rcases own_forms r1.own with ⟨rfl, _⟩ | ⟨g, cap, rfl, _⟩
    · cases q
    · have h3 := (r1.own.lt g rfl).2
      simp only [Value.ownBlock, Option.some.injEq] at q
      omega
theorem ST.dr {w0 w1 w : World} {b : Nat} {v1 v : Value} {left : Int} {n : Nd} {r : Rd} (h : ST w0 b w1 v1 left n r v w) : ST w0 b w1 v1 left n r v w.drew := h.below (Below.refl _ _).drew
theorem st_start0 {w0 w1 : World} {b : Nat} {r : Rd} {v : Value} (h : RW w0 b r v w1) (left : Int) (x : List UInt8) (n : Nd) :
    ST w0 b w1 v left n ⟨x, r.l, r.g, r.bad⟩ v ((((w1.setCell ⟨b, 0, none⟩ (S x)).alloc (.cells #[PT b] 47)).alloc (.cells #[E left] 3)).alloc (.cells (NC n) 45)) :=
  st_from (h.setRest x) ((Kr.refl b w1 v).set 0 (S x)) (by simp) h.lt h.bel.size left n
theorem st_start {w0 w1 : World} {b : Nat} {r : Rd} {v : Value} (h : RW w0 b r v w1) (left : Int) (x : List UInt8) (n : Nd) :
    ST w0 b w1 v left n ⟨x, r.l, r.g, r.bad⟩ v ((((w1.setCell ⟨b, 0, none⟩ (S x)).alloc (.cells #[PT b] 47)).alloc (.cells #[E left] 3)).alloc (.cells (NC n) 45)).drew :=
  st_from (h.setRest x) ((Kr.refl b w1 v).set 0 (S x)) (by simp) h.lt h.bel.size left n |>.dr
/-- A second field of the reader has been set. -/
theorem st_bad {w0 w1 : World} {b : Nat} {r : Rd} {v : Value} (h : RW w0 b r v w1) (left : Int) (x : List UInt8) (n : Nd) (y : Bool) :
    ST w0 b w1 v left n ⟨x, r.l, r.g, y⟩ v (((((w1.setCell ⟨b, 0, none⟩ (S x)).alloc (.cells #[PT b] 47)).alloc (.cells #[E left] 3)).alloc (.cells (NC n) 45)).setCell ⟨b, 3, none⟩ (.bool y)).drew :=
  ((st_from (h.setRest x) ((Kr.refl b w1 v).set 0 (S x)) (by simp) h.lt h.bel.size left n).setBad y).dr
theorem st_g {w0 w1 : World} {b : Nat} {r : Rd} {v : Value} (h : RW w0 b r v w1) (left : Int) (x : List UInt8) (n : Nd) (y : Int) :
    ST w0 b w1 v left n ⟨x, r.l, y, r.bad⟩ v (((((w1.setCell ⟨b, 0, none⟩ (S x)).alloc (.cells #[PT b] 47)).alloc (.cells #[E left] 3)).alloc (.cells (NC n) 45)).setCell ⟨b, 2, none⟩ (E y)).drew :=
  ((st_from (h.setRest x) ((Kr.refl b w1 v).set 0 (S x)) (by simp) h.lt h.bel.size left n).setG y).dr
/-- A node pushed. -/
theorem rw_push {w0 w w' : World} {b gg cap : Nat} {r : Rd} {v : Value} {n : Nd} (h : RW w0 b r v w)
    (hown : w'.ownsRow w0.heap.size 45 10 (.slice (some ⟨gg, 0, none⟩) (r.l.length + 1) cap) (r.l.length + 1) (flat r.l ++ (NC n).toList)) (hgrow : w.grownBy w' v.ownBlock) (hg : v.ownBlock = some gg ∨ gg = w.heap.size) :
    RW w0 b ⟨r.rest, r.l ++ [n], r.g, r.bad⟩ (.slice (some ⟨gg, 0, none⟩) (r.l.length + 1) cap) (w'.setCell ⟨b, 1, none⟩ (.slice (some ⟨gg, 0, none⟩) (r.l.length + 1) cap)) ∧
      Kr b w v (w'.setCell ⟨b, 1, none⟩ (.slice (some ⟨gg, 0, none⟩) (r.l.length + 1) cap)) (.slice (some ⟨gg, 0, none⟩) (r.l.length + 1) cap) := by
  have hlt := h.lt
  have hgb : gg ≠ b := by
    rcases hg with hg | hg
    · intro q; exact h.ne (by rw [hg, q])
    · omega
  have e1 : (r.l ++ [n]).length = r.l.length + 1 := by simp
  have hown2 := hown
  rw [show (flat r.l ++ (NC n).toList) = flat (r.l ++ [n]) from by rw [flat_append, flat_one]] at hown2
  refine ⟨⟨?_, ?_, ?_, h.base, ?_⟩, ?_⟩
  · exact Go.Joins.block_setCell ((hgrow.block b hlt (Ne.symm h.ne)).trans h.rd) (i := 1) _
  · show World.ownsRow _ _ _ _ _ (r.l ++ [n]).length _
    rw [e1]
    exact ownsRow_setCell_other hown2 (by simp only [Value.ownBlock, ne_eq, Option.some.injEq]; exact hgb) _
  · simp only [Value.ownBlock, ne_eq, Option.some.injEq]; exact hgb
  · exact (h.bel.grown hgrow h.bel.size (own_ge h.own)).setCell h.base _
  · refine Kr.set ⟨hgrow.size, fun k h1 h2 h3 => ⟨hgrow.block k h1 (Ne.symm h3), ?_⟩⟩ 1 _
    simp only [Value.ownBlock, ne_eq, Option.some.injEq]
    rcases hg with hg | hg
    · intro q; exact h3 (by rw [hg, q])
    · omega
def Fz (n : Nat) := Code.region n
/-- What a region that draws its order holds. -/
def SX (w0 : World) (b : Nat) (w1 : World) (v1 : Value) (left : Int) (n : Nd) (w : World) : Prop := ∃ r v, ST w0 b w1 v1 left n r v w
theorem news_row {w : World} {n : Nd} : ∀ j u, (NC n).toList[j]? = some u → (w.alloc (.cells (NC n) 45)).cell? ((⟨w.heap.size, 0, none⟩ : Addr).add j) = some u := by
  intro j u hj
  rw [Addr.add_lit, Lib.cell_of_heap (heap_alloc_new _ _), Nat.zero_add]
  simpa using hj
theorem one_row (n : Nd) : ∀ u ∈ (NC n).toList, u.oneCell' = true := by
  intro u hu
  refine flat_cells [n] u ?_
  rw [flat_one]; exact hu
end Go.Proofs.YtdjedjfanfbbcaaGreatDoor.Rx
