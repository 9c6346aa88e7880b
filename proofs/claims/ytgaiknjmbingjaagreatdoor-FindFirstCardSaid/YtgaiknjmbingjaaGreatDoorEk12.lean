/- The texts RxR2 RxR3 RxNx RxNy RxNg RxNw RxN RxFo RxFw RxP MtM M6w. -/
import Derived.Test.YtgaiknjmbingjaaGreatDoorEk11
set_option linter.unusedVariables false
set_option linter.unusedSimpArgs false
set_option maxRecDepth 100000
namespace Go.Proofs.YtgaiknjmbingjaaGreatDoor.Rx
open Go.RowKit Go.Shelf
open St (Wf word zeroW Tab SV SV_eq)
open Ad (cutB atoiV)
structure ST (w0 : World) (b : Nat) (w1 : World) (v1 : Value) (left : Int) (n : Nd) (r : Rd) (v : Value) (w : World) : Prop where
 rw : RW w0 b r v w
 kr : Kr b w1 v1 w v
 p0 : w.heap[w1.heap.size]? = some (.cells #[PT b] 64 (0, 0))
 p1 : w.heap[w1.heap.size + 1]? = some (.cells #[E left] 3 (0, 0))
 p2 : NB w (w1.heap.size + 2) n
 kb : b < w1.heap.size
 h01 : w0.heap.size <= w1.heap.size
 own : ∀ k, w1.heap.size <= k -> k < w1.heap.size + 3 -> v.ownBlock ≠ some k
section
variable {w0 w1 w w' : World} {b : Nat} {v1 v v' : Value} {left : Int} {n : Nd} {r r' : Rd}
theorem ST.below (h : ST w0 b w1 v1 left n r v w) (hb : Below w.heap.size w w') : ST w0 b w1 v1 left n r v w' :=
 ⟨h.rw.below hb, h.kr.below hb, (hb.block _ (lt_heap' h.p0)).trans h.p0, (hb.block _ (lt_heap' h.p1)).trans h.p1, (hb.block _ (lt_heap' h.p2)).trans h.p2, h.kb, h.h01, h.own⟩
theorem ST.sz (h : ST w0 b w1 v1 left n r v w) : w1.heap.size + 3 <= w.heap.size := lt_heap' h.p2
theorem ST.step (h : ST w0 b w1 v1 left n r v w) (hr : RW w0 b r' v' w') (hk : Kr b w v w' v') : ST w0 b w1 v1 left n r' v' w' := by
 have hs := h.sz;have hkb := h.kb;have f0 := hk.far w1.heap.size (by omega) (by omega) (h.own _ (by omega) (by omega));have f1 := hk.far (w1.heap.size + 1) (by omega) (by omega) (h.own _ (by omega) (by omega));have f2 := hk.far (w1.heap.size + 2) (by omega) (by omega) (h.own _ (by omega) (by omega));refine ⟨hr, h.kr.trans hk, f0.1.trans h.p0, f1.1.trans h.p1, f2.1.trans h.p2, h.kb, h.h01, fun k h1 h2 => ?_⟩;rcases (show k = w1.heap.size \/ k = w1.heap.size + 1 \/ k = w1.heap.size + 2 by omega) with rfl | rfl | rfl
 · exact f0.2
 · exact f1.2
 · exact f2.2
theorem ST.setRest (h : ST w0 b w1 v1 left n r v w) (x : List UInt8) : ST w0 b w1 v1 left n ⟨x, r.l, r.g, r.bad⟩ v (w.setCell ⟨b, 0, none⟩ (S x)) :=
 h.step (h.rw.setRest x) ((Kr.refl b w v).set 0 (S x))
theorem ST.setG (h : ST w0 b w1 v1 left n r v w) (x : Int) : ST w0 b w1 v1 left n ⟨r.rest, r.l, x, r.bad⟩ v (w.setCell ⟨b, 2, none⟩ (E x)) :=
 h.step (h.rw.setG x) ((Kr.refl b w v).set 2 (E x))
theorem ST.setBad (h : ST w0 b w1 v1 left n r v w) (x : Bool) : ST w0 b w1 v1 left n ⟨r.rest, r.l, r.g, x⟩ v (w.setCell ⟨b, 3, none⟩ (.bool x)) :=
 h.step (h.rw.setBad x) ((Kr.refl b w v).set 3 (.bool x))
theorem ST.node (h : ST w0 b w1 v1 left n r v w) {i : Nat} {u : Value} {m : Nd} (e : (NC n).setIfInBounds i u = NC m) : ST w0 b w1 v1 left m r v (w.setCell ⟨w1.heap.size + 2, i, none⟩ u) := by
 have hs3 := h.sz;have ho := other_set (w1 := w1) h.rw h.kr (K := w1.heap.size + 2) (by have := h.kb; omega) (h.own (w1.heap.size + 2) (by omega) (by omega)) (by have := h.h01; omega) (by omega) i u;refine ⟨ho.1, ho.2, setne h.p0 (by omega), setne h.p1 (by omega), ?_, h.kb, h.h01, h.own⟩;have := Go.Joins.block_setCell h.p2 (i := i) u;rw [e] at this;exact this
theorem ST.facts (h : ST w0 b w1 v1 left n r v w) :
  (w.cell? ⟨w1.heap.size, 0, none⟩ = some (PT b) /\ w.cell? ⟨w1.heap.size + 1, 0, none⟩ = some (E left)) /\
  (w.cell? ⟨w1.heap.size + 1 + 1, 0, none⟩ = some (E n.k) /\ w.cell? ⟨w1.heap.size + 1 + 1, 1, none⟩ = some (U (word n.s 0)) /\ w.cell? ⟨w1.heap.size + 1 + 1, 2, none⟩ = some (U (word n.s 1)) /\ w.cell? ⟨w1.heap.size + 1 + 1, 3, none⟩ = some (U (word n.s 2)) /\ w.cell? ⟨w1.heap.size + 1 + 1, 4, none⟩ = some (U (word n.s 3)) /\
   w.cell? ⟨w1.heap.size + 1 + 1, 5, none⟩ = some (E n.a) /\ w.cell? ⟨w1.heap.size + 1 + 1, 6, none⟩ = some (E n.b) /\ w.cell? ⟨w1.heap.size + 1 + 1, 7, none⟩ = some (E n.mn) /\ w.cell? ⟨w1.heap.size + 1 + 1, 8, none⟩ = some (E n.mx) /\ w.cell? ⟨w1.heap.size + 1 + 1, 9, none⟩ = some (E n.n)) /\
  (∀ i, w.frozen? ⟨w1.heap.size + 1 + 1, i, none⟩ = false) :=
 ⟨⟨cell_of_one h.p0, cell_of_one h.p1⟩, ⟨(Lib.cell_of_heap h.p2 0).trans rfl, (Lib.cell_of_heap h.p2 1).trans rfl, (Lib.cell_of_heap h.p2 2).trans rfl, (Lib.cell_of_heap h.p2 3).trans rfl, (Lib.cell_of_heap h.p2 4).trans rfl, (Lib.cell_of_heap h.p2 5).trans rfl, (Lib.cell_of_heap h.p2 6).trans rfl, (Lib.cell_of_heap h.p2 7).trans rfl, (Lib.cell_of_heap h.p2 8).trans rfl, (Lib.cell_of_heap h.p2 9).trans rfl⟩, fun i => by have h2 := h.p2; simp [World.frozen?, h2]⟩
end
abbrev N0 : Nd := ⟨0, z4, 0, 0, 0, 0, 0⟩
theorem st_from {w0 w1 w2 : World} {b : Nat} {r : Rd} {v : Value} (r1 : RW w0 b r v w2) (k1 : Kr b w1 v w2 v) (sz : w2.heap.size = w1.heap.size) (hlt : b < w1.heap.size) (hs : w0.heap.size <= w1.heap.size) (left : Int) (n : Nd) :
  ST w0 b w1 v left n r v (((w2.alloc (.cells #[PT b] 64)).alloc (.cells #[E left] 3)).alloc (.cells (NC n) 46)) := by
 have e0 := heap_alloc_new w2 (.cells #[PT b] 64);have e1 := heap_alloc_new (w2.alloc (.cells #[PT b] 64)) (.cells #[E left] 3);have e2 := heap_alloc_new ((w2.alloc (.cells #[PT b] 64)).alloc (.cells #[E left] 3)) (.cells (NC n) 46);have b3 := ((((Below.refl w2.heap.size w2).alloc (Nat.le_refl _) (.cells #[PT b] 64)).alloc (by simp) (.cells #[E left] 3)).alloc (by simp; omega) (.cells (NC n) 46));(have s1 : (w2.alloc (.cells #[PT b] 64)).heap.size = w1.heap.size + 1 := by simp [sz]);(have s2 : ((w2.alloc (.cells #[PT b] 64)).alloc (.cells #[E left] 3)).heap.size = w1.heap.size + 2 := by simp [sz]);rw [sz] at e0;rw [s1] at e1;rw [s2] at e2;refine ⟨r1.below b3, k1.below b3, ?_, ?_, ?_, hlt, hs, ?_⟩
 · exact (Below.heap_alloc _ _ _ (by rw [s2]; omega)).trans ((Below.heap_alloc _ _ _ (by rw [s1]; omega)).trans e0)
 · exact (Below.heap_alloc _ _ _ (by rw [s2]; omega)).trans e1
 · exact e2
 ·
  intro k h1 h2 q;rcases own_forms r1.own with ⟨rfl, _⟩ | ⟨g, cap, rfl, _⟩
  · cases q
  · have h3 := (r1.own.lt g rfl).2;simp only [Value.ownBlock, Option.some.injEq] at q;omega
theorem ST.dr {w0 w1 w : World} {b : Nat} {v1 v : Value} {left : Int} {n : Nd} {r : Rd} (h : ST w0 b w1 v1 left n r v w) : ST w0 b w1 v1 left n r v w.drew := h.below (Below.refl _ _).drew
theorem st_start {w0 w1 : World} {b : Nat} {r : Rd} {v : Value} (h : RW w0 b r v w1) (left : Int) (x : List UInt8) (n : Nd) :
  ST w0 b w1 v left n ⟨x, r.l, r.g, r.bad⟩ v ((((w1.setCell ⟨b, 0, none⟩ (S x)).alloc (.cells #[PT b] 64)).alloc (.cells #[E left] 3)).alloc (.cells (NC n) 46)).drew :=
 st_from (h.setRest x) ((Kr.refl b w1 v).set 0 (S x)) (by simp) h.lt h.bel.size left n |>.dr
theorem rw_push {w0 w w' : World} {b gg cap : Nat} {r : Rd} {v : Value} {n : Nd} (h : RW w0 b r v w)
  (hown : w'.ownsRow w0.heap.size 46 10 (.slice (some ⟨gg, 0, none⟩) (r.l.length + 1) cap) (r.l.length + 1) (flat r.l ++ (NC n).toList)) (hgrow : w.grownBy w' v.ownBlock) (hg : v.ownBlock = some gg \/ gg = w.heap.size) :
  RW w0 b ⟨r.rest, r.l ++ [n], r.g, r.bad⟩ (.slice (some ⟨gg, 0, none⟩) (r.l.length + 1) cap) (w'.setCell ⟨b, 1, none⟩ (.slice (some ⟨gg, 0, none⟩) (r.l.length + 1) cap)) /\
   Kr b w v (w'.setCell ⟨b, 1, none⟩ (.slice (some ⟨gg, 0, none⟩) (r.l.length + 1) cap)) (.slice (some ⟨gg, 0, none⟩) (r.l.length + 1) cap) := by
 have hlt := h.lt;have hgb : gg ≠ b := by
  rcases hg with hg | hg
  · intro q; exact h.ne (by rw [hg, q])
  · omega
 (have e1 : (r.l ++ [n]).length = r.l.length + 1 := by simp);have hown2 := hown;rw [show (flat r.l ++ (NC n).toList) = flat (r.l ++ [n]) from by rw [flat_append, flat_one]] at hown2;refine ⟨⟨?_, ?_, ?_, h.base, ?_⟩, ?_⟩
 · exact Go.Joins.block_setCell ((hgrow.block b hlt (Ne.symm h.ne)).trans h.rd) (i := 1) _
 · show World.ownsRow _ _ _ _ _ (r.l ++ [n]).length _;rw [e1];exact ownsRow_setCell_other hown2 (by simp only [Value.ownBlock, ne_eq, Option.some.injEq]; exact hgb) _
 · simp only [Value.ownBlock, ne_eq, Option.some.injEq]; exact hgb
 · exact (h.bel.grown hgrow h.bel.size (own_ge h.own)).setCell h.base _
 ·
  refine Kr.set ⟨hgrow.size, fun k h1 h2 h3 => ⟨hgrow.block k h1 (Ne.symm h3), ?_⟩⟩ 1 _;simp only [Value.ownBlock, ne_eq, Option.some.injEq];rcases hg with hg | hg
  · intro q; exact h3 (by rw [hg, q])
  · omega
theorem news_row {w : World} {n : Nd} : ∀ j u, (NC n).toList[j]? = some u -> (w.alloc (.cells (NC n) 46)).cell? ((⟨w.heap.size, 0, none⟩ : Addr).add j) = some u := by
 intro j u hj;rw [Addr.add_lit, Lib.cell_of_heap (heap_alloc_new _ _), Nat.zero_add];simpa using hj
theorem one_row (n : Nd) : ∀ u ∈ (NC n).toList, u.oneCell' = true := by
 intro u hu;refine flat_cells [n] u ?_;rw [flat_one]; exact hu
open St (Wf word zeroW Tab SV SV_eq wf_two wf_orL wf_ofL wf_zero orL ofL)
def NodeAns (w0 : World) (b left : Nat) (r : Rd) (v : Value) (w : World) (e : Ending) (w' : World) : Prop :=
 ∃ v', e = .returned (E ((nodeP left r).2 : Nat)) /\ RW w0 b (nodeP left r).1 v' w' /\ Kr b w v w' v'
structure Rin (r : Rd) : Prop where
 len : r.rest.length + r.l.length <= 100000
 g0 : 0 <= r.g
 g1 : r.g + r.rest.length <= 100000
theorem own_slice {w : World} {B e n z : Nat} {v : Value} {xs : List Value} (h : w.ownsRow B e z v n xs) : ∃ ao cap, v = .slice ao n cap := by
 rcases own_forms h with ⟨rfl, h0⟩ | ⟨g, cap, rfl, _⟩
 · exact ⟨none, 0, by rw [h0]⟩
 · exact ⟨_, _, rfl⟩
def SQ (w1 : World) (b : Nat) (n : Nd) (w : World) : Prop := w.heap[w1.heap.size]? = some (.cells #[PT b] 64 (0, 0)) /\ NB w (w1.heap.size + 2) n
theorem sq_of {w0 w1 w : World} {b : Nat} {v1 v : Value} {lf : Int} {n : Nd} {r : Rd} (h : ST w0 b w1 v1 lf n r v w) : SQ w1 b n w := ⟨h.p0, h.p2⟩
theorem sq_cells {w1 w : World} {b : Nat} {n : Nd} (h : SQ w1 b n w) :
  (w.cell? ⟨w1.heap.size + 1 + 1, 0, none⟩ = some (E n.k) /\ w.cell? ⟨w1.heap.size + 1 + 1, 1, none⟩ = some (U (word n.s 0)) /\ w.cell? ⟨w1.heap.size + 1 + 1, 2, none⟩ = some (U (word n.s 1)) /\ w.cell? ⟨w1.heap.size + 1 + 1, 3, none⟩ = some (U (word n.s 2)) /\ w.cell? ⟨w1.heap.size + 1 + 1, 4, none⟩ = some (U (word n.s 3)) /\
   w.cell? ⟨w1.heap.size + 1 + 1, 5, none⟩ = some (E n.a) /\ w.cell? ⟨w1.heap.size + 1 + 1, 6, none⟩ = some (E n.b) /\ w.cell? ⟨w1.heap.size + 1 + 1, 7, none⟩ = some (E n.mn) /\ w.cell? ⟨w1.heap.size + 1 + 1, 8, none⟩ = some (E n.mx) /\ w.cell? ⟨w1.heap.size + 1 + 1, 9, none⟩ = some (E n.n)) /\
  w.cell? ⟨w1.heap.size, 0, none⟩ = some (PT b) :=
 ⟨⟨(Lib.cell_of_heap h.2 0).trans rfl, (Lib.cell_of_heap h.2 1).trans rfl, (Lib.cell_of_heap h.2 2).trans rfl, (Lib.cell_of_heap h.2 3).trans rfl, (Lib.cell_of_heap h.2 4).trans rfl, (Lib.cell_of_heap h.2 5).trans rfl, (Lib.cell_of_heap h.2 6).trans rfl, (Lib.cell_of_heap h.2 7).trans rfl, (Lib.cell_of_heap h.2 8).trans rfl, (Lib.cell_of_heap h.2 9).trans rfl⟩, cell_of_one h.1⟩
theorem sq_grown {w0 w1 w w' : World} {b : Nat} {v1 v : Value} {lf : Int} {n : Nd} {r : Rd} (h : ST w0 b w1 v1 lf n r v w) (hg : w.grownBy w' v.ownBlock) : SQ w1 b n w' :=
 ⟨(hg.block _ (lt_heap' h.p0) (Ne.symm (h.own _ (by omega) (by omega)))).trans h.p0, (hg.block _ (lt_heap' h.p2) (Ne.symm (h.own _ (by omega) (by omega)))).trans h.p2⟩
theorem fz_grown {w0 w1 w w' : World} {b : Nat} {v1 v : Value} {lf : Int} {n : Nd} {r : Rd} (h : ST w0 b w1 v1 lf n r v w) (hg : w.grownBy w' v.ownBlock) (i : Nat) : w'.frozen? ⟨b, i, none⟩ = false := by
 have e := (hg.block _ h.rw.lt (Ne.symm h.rw.ne)).trans h.rw.rd;simp [World.frozen?, e]
theorem wf_pairs : ∀ (x : List UInt8) (s : List Nat) (bad : Bool), Wf s -> Wf (pairsP x s bad).1
 | [], s, bad, h => h
 | [_], s, bad, h => h
 | c :: d :: r, s, bad, h => by
  unfold pairsP;exact wf_pairs r _ _ (wf_orL (wf_two h (wf_ofL _)))
theorem wf_set (r : Rd) : Wf (setP r).2 := wf_pairs _ _ _ wf_zero
theorem cell_grown {w0 w1 w w' : World} {b : Nat} {v1 v : Value} {lf : Int} {n : Nd} {r : Rd} (h : ST w0 b w1 v1 lf n r v w) (hg : w.grownBy w' v.ownBlock) : w'.cell? ⟨b, 1, none⟩ = some v := by
 have e := (hg.block _ h.rw.lt (Ne.symm h.rw.ne)).trans h.rw.rd;exact (Lib.cell_of_heap e 1).trans rfl
def SR (w1 : World) (b : Nat) (n : Nd) (x : List UInt8) (w : World) : Prop := SQ w1 b n w /\ w.cell? ⟨b, 0, none⟩ = some (S x)
theorem cut_le (c : UInt8) (x : List UInt8) : (cutB c x).2.1.length <= x.length := by
 rcases ibyte c x with ⟨_, h2⟩ | ⟨k, _, _, h2⟩ <;> rw [h2] <;> simp
structure Le (r r' : Rd) : Prop where
 len : r'.rest.length + r'.l.length <= r.rest.length + r.l.length
 g0 : r.g <= r'.g
 g1 : r'.g + r'.rest.length <= r.g + r.rest.length
theorem Le.trans {a b c : Rd} (h : Le a b) (k : Le b c) : Le a c := ⟨Nat.le_trans k.len h.len, Int.le_trans h.g0 k.g0, Int.le_trans k.g1 h.g1⟩
theorem Le.rin {a b : Rd} (h : Le a b) (k : Rin a) : Rin b := ⟨Nat.le_trans h.len k.len, Int.le_trans k.g0 h.g0, Int.le_trans h.g1 k.g1⟩
theorem Le.refl (a : Rd) : Le a a := ⟨Nat.le_refl _, Int.le_refl _, Int.le_refl _⟩
theorem le_num (c : UInt8) (r : Rd) : Le r (numP c r).1 := by
 have := cut_le c r.rest;unfold numP untilP;exact ⟨by dsimp only; omega, Int.le_refl _, by dsimp only; omega⟩
theorem le_set (r : Rd) : Le r (setP r).1 := by
 have := cut_le 93 r.rest;unfold setP untilP;exact ⟨by dsimp only; omega, Int.le_refl _, by dsimp only; omega⟩
theorem close_nil (l : List Nd) (g : Int) (bad : Bool) : closeP ⟨[], l, g, bad⟩ = ⟨[], l, g, true⟩ := rfl
theorem close_cons (c : UInt8) (t : List UInt8) (l : List Nd) (g : Int) (bad : Bool) : closeP ⟨c :: t, l, g, bad⟩ = if c = 41 then ⟨t, l, g, bad⟩ else ⟨c :: t, l, g, true⟩ := rfl
theorem le_any (x : List UInt8) (l : List Nd) (g : Int) (b b' : Bool) : Le ⟨x, l, g, b⟩ ⟨x, l, g, b'⟩ := ⟨Nat.le_refl _, Int.le_refl _, Int.le_refl _⟩
theorem le_tail (c : UInt8) (x : List UInt8) (l : List Nd) (g : Int) (b b' : Bool) : Le ⟨c :: x, l, g, b⟩ ⟨x, l, g, b'⟩ := ⟨by simp, Int.le_refl _, by simp; omega⟩
theorem le_close (r : Rd) : Le r (closeP r) := by
 obtain ⟨rest, l, g, bad⟩ := r;cases rest with
 | nil => rw [close_nil]; exact le_any _ _ _ _ _
 | cons c t =>
  rw [close_cons];split
  · exact le_tail _ _ _ _ _ _
  · exact le_any _ _ _ _ _
theorem ref_nil (l : List Nd) (g : Int) (bad : Bool) : refP ⟨[], l, g, bad⟩ = (⟨[], l, g, true⟩, 0) := rfl
theorem ref_cons (c : UInt8) (t : List UInt8) (l : List Nd) (g : Int) (bad : Bool) : refP ⟨c :: t, l, g, bad⟩ = (⟨t, l, g, false⟩, (c.toNat : Int) - 48) := rfl
theorem le_ref (r : Rd) : Le r (refP r).1 := by
 obtain ⟨rest, l, g, bad⟩ := r;cases rest with
 | nil => rw [ref_nil]; exact le_any _ _ _ _ _
 | cons c t => rw [ref_cons]; exact le_tail _ _ _ _ _ _
theorem le_push {c : UInt8} {t : List UInt8} {l : List Nd} {g : Int} {bad bad' : Bool} {r : Rd} (h : Le ⟨t, l, g, bad⟩ r) (n : Nd) : Le ⟨c :: t, l, g, bad'⟩ (pushP r n).1 := by
 obtain ⟨h1, h2, h3⟩ := h;dsimp only at h1 h2 h3;unfold pushP;exact ⟨by simp; omega, h2, by simp; omega⟩
theorem le_push1 {c : UInt8} {t : List UInt8} {l : List Nd} {g : Int} {bad bad' : Bool} {r : Rd} (h : Le ⟨t, l, g + 1, bad⟩ r) (n : Nd) : Le ⟨c :: t, l, g, bad'⟩ (pushP r n).1 := by
 obtain ⟨h1, h2, h3⟩ := h;dsimp only at h1 h2 h3;unfold pushP;exact ⟨by simp; omega, by show g <= r.g; omega, by simp; omega⟩
theorem le_node : ∀ (left : Nat) (r : Rd), Le r (nodeP left r).1
 | 0, r => ⟨Nat.le_refl _, Int.le_refl _, Int.le_refl _⟩
 | left + 1, ⟨rest, l, g, bad⟩ => by
  unfold nodeP;split
  · exact ⟨Nat.le_refl _, Int.le_refl _, Int.le_refl _⟩
  cases rest with
  | nil => exact ⟨Nat.le_refl _, Int.le_refl _, Int.le_refl _⟩
  | cons c t =>
   dsimp only;split
   · exact le_push (Le.refl _) _
   split
   · exact le_push (le_set _) _
   split
   · exact le_push (Le.refl _) _
   split
   · exact le_push (Le.refl _) _
   split
   · exact le_push ((le_node left _).trans (le_node left _)) _
   split
   · exact le_push ((le_num 44 _).trans ((le_num 59 _).trans (le_node left _))) _
   split
   · exact le_push1 ((le_node left _).trans (le_close _)) _
   split
   · exact le_push (le_ref _) _
   · exact le_push (bad := true) (Le.refl _) _
open Tr
open St (Wf bytesL bytesN zeroW mem_zero wf_zero ext_mem mem)
open St (Wf word zeroW Tab wf_two wf_orL wf_ofL wf_zero orL ofL)
theorem l_close (r : Rd) : (closeP r).l = r.l := by
 obtain ⟨rest, l, g, bad⟩ := r;unfold closeP;cases rest with
 | nil => rfl
 | cons c t => dsimp only; split <;> rfl
theorem l_ref (r : Rd) : (refP r).1.l = r.l := by
 obtain ⟨rest, l, g, bad⟩ := r;unfold refP;cases rest <;> rfl
theorem wf_push {r : Rd} (h : ∀ n ∈ r.l, Wf n.s) {m : Nd} (hm : Wf m.s) : ∀ n ∈ (pushP r m).1.l, Wf n.s := by
 intro n hn;unfold pushP at hn;rcases List.mem_append.1 hn with q | q
 · exact h n q
 · obtain rfl := List.mem_singleton.1 q;exact hm
theorem wf_node : ∀ (left : Nat) (r : Rd), (∀ n ∈ r.l, Wf n.s) -> ∀ n ∈ (nodeP left r).1.l, Wf n.s
 | 0, r, h => h
 | left + 1, ⟨rest, l, g, bad⟩, h => by
  have hz : Wf z4 := wf_zero;unfold nodeP;split
  · exact h
  cases rest with
  | nil => exact h
  | cons c t =>
   dsimp only;split
   · exact wf_push h hz
   split
   · exact wf_push h (wf_set _)
   split
   · exact wf_push h hz
   split
   · exact wf_push h hz
   split
   · exact wf_push (by exact wf_node left _ (wf_node left _ h)) hz
   split
   · exact wf_push (by exact wf_node left _ h) hz
   split
   · exact wf_push (by rw [l_close]; exact wf_node left _ h) hz
   split
   · exact wf_push (by rw [l_ref]; exact h) hz
   · exact wf_push h hz
def ParseR (w : World) (s : List UInt8) (e : Ending) (w' : World) : Prop :=
 Below w.heap.size w w' /\ ((parseL s = none /\ e = .returned (.tuple #[.slice none 0 0, E 40])) \/ ∃ l v, parseL s = some l /\ e = .returned (.tuple #[v, E 0]) /\ w'.ownsRow w.heap.size 46 10 v l.length (flat l))
end Go.Proofs.YtgaiknjmbingjaaGreatDoor.Rx
namespace Go.Proofs.YtgaiknjmbingjaaGreatDoor.Mt
open Go.RowKit Go.Shelf
open Rx
open Rx.Tr
open St (Wf word zeroW)
theorem at_inj {l : List Nd} : ∀ (x y : Tr) (o p : Nat), At l x o -> At l y p -> o + x.size = p + y.size -> x = y /\ o = p := by
  intro x
  induction x with
  | e | set s | beg | fin | ref n =>
    intro y o p hx hy h;have py := size_pos y;have r1 := at_root hx;have r2 := at_root hy;rw [show p + y.size - 1 = o + Tr.size _ - 1 from by rw [<- h]] at r2;rw [r1] at r2;have r3 := Option.some.inj r2;cases y <;> simp_all [root, size]
  | cat x1 x2 ih1 ih2 | alt x1 x2 ih1 ih2 =>
    intro y o p hx hy h;have px1 := size_pos x1;have px2 := size_pos x2;have r1 := at_root hx;have r2 := at_root hy;rw [show p + y.size - 1 = o + Tr.size _ - 1 from by rw [<- h]] at r2;rw [r1] at r2;have r3 := Option.some.inj r2;cases y with
    | cat y1 y2 | alt y1 y2 =>
      first
        | (simp only [root, Nd.mk.injEq] at r3; exfalso; have := r3.1; revert this; decide)
        | (have py1 := size_pos y1
           have py2 := size_pos y2;simp only [root, Nd.mk.injEq] at r3;simp only [size] at h;have e1 := ih2 y2 (o + x1.size) (p + y1.size) (at_right hx (by simp only [nodes, List.append_assoc]; rfl)) (at_right hy (by simp only [nodes, List.append_assoc]; rfl)) (by omega);have e2 := ih1 y1 o p (at_left hx (by simp only [nodes, List.append_assoc]; rfl)) (at_left hy (by simp only [nodes, List.append_assoc]; rfl)) (by omega);obtain ⟨rfl, _⟩ := e1;obtain ⟨rfl, rfl⟩ := e2;exact ⟨rfl, rfl⟩)
    | e | set s | beg | fin | ref n | times mn mx y1 | grp n y1 => simp [root] at r3
  | times mn mx x1 ih | grp n x1 ih =>
    intro y o p hx hy h;have px1 := size_pos x1;have r1 := at_root hx;have r2 := at_root hy;rw [show p + y.size - 1 = o + Tr.size _ - 1 from by rw [<- h]] at r2;rw [r1] at r2;have r3 := Option.some.inj r2;cases y with
    | times mn' mx' y1 | grp n' y1 =>
      first
        | (simp only [root, Nd.mk.injEq] at r3; exfalso; have := r3.1; revert this; decide)
        | (have py1 := size_pos y1
           simp only [root, Nd.mk.injEq] at r3;simp only [size] at h;have e2 := ih y1 o p (at_left hx (by simp only [nodes]; rfl)) (at_left hy (by simp only [nodes]; rfl)) (by omega);obtain ⟨rfl, rfl⟩ := e2;simp [r3])
    | e | set s | beg | fin | ref n | cat y1 y2 | alt y1 y2 => simp [root] at r3
structure Par where
  w0 : World
  T : List UInt8
  t : Tr
  v : Value
  bm : Nat
  b1 : Nat
  b2 : Nat
abbrev Par.l (X : Par) : List Nd := X.t.nodes 0
abbrev Par.N (X : Par) : Nat := X.T.length
def Par.refs (X : Par) : Bool := decide (0 < refsT X.t)
structure Par.Ok (X : Par) : Prop where
  good : Rx.Good X.t
  sets : SetsOk X.t
  nodes : Ns X.w0 X.v X.l
  len : X.N <= 100000
  m : X.w0.heap.size <= X.bm
  m1 : X.w0.heap.size <= X.b1
  m2 : X.w0.heap.size <= X.b2
  n12 : X.b1 ≠ X.b2
def LeftOk (N : Nat) (r : Option Caps) (c : Caps) (b : Bool) : Prop := CapsOk N c /\ match r with
  | some a => b = true /\ c = a
  | none => b = false
abbrev LV (c : Caps) (b : Bool) : Value := .agg #[capV (gr c 0), capV (gr c 1), capV (gr c 2), capV (gr c 3), capV (gr c 4), capV (gr c 5), capV (gr c 6), capV (gr c 7), capV (gr c 8), capV (gr c 9), .bool b]
structure MM (X : Par) (pr : Nat -> Prop) (w : World) : Prop where
  bel : Below X.w0.heap.size X.w0 w
  hb : w.heap[X.bm]? = some (.cells #[X.v, S X.T, .bool X.refs, .map (some X.b1), .map (some X.b2)] 99 (0, 0))
  e1 : ∃ es clk, w.heap[X.b1]? = some (.map es clk) /\ ∀ e ∈ es.toList, ∃ x o i g, At X.l x o /\ e.key = PK (o + x.size - 1) i /\ e.val = SL g (X.N + 1) /\ RB w g (X.N + 1) (endsP X.T x i) /\ ¬ pr g
  e2 : ∃ es clk, w.heap[X.b2]? = some (.map es clk) /\ ∀ e ∈ es.toList, ∃ x o i j c c' b, At X.l x o /\ CapsOk X.N c /\ e.key = TK (o + x.size - 1) i j c /\ e.val = LV c' b /\ LeftOk X.N (fitP X.T x i j c) c' b
  lt : ∀ k, pr k -> k < w.heap.size
structure Km (X : Par) (w w' : World) : Prop where
  size : w.heap.size <= w'.heap.size
  keep : ∀ k, k < w.heap.size -> k ≠ X.b1 -> k ≠ X.b2 -> w'.heap[k]? = w.heap[k]?
theorem Km.refl (X : Par) (w : World) : Km X w w := ⟨Nat.le_refl _, fun _ _ _ _ => rfl⟩
theorem Km.trans {X : Par} {w1 w2 w3 : World} (h : Km X w1 w2) (k : Km X w2 w3) : Km X w1 w3 :=
  ⟨Nat.le_trans h.size k.size, fun i h1 h2 h3 => (k.keep i (Nat.lt_of_lt_of_le h1 h.size) h2 h3).trans (h.keep i h1 h2 h3)⟩
theorem Km.of_below {X : Par} {w w' : World} (hb : Below w.heap.size w w') : Km X w w' := ⟨hb.size, fun k h1 _ _ => hb.block k h1⟩
theorem Km.below {X : Par} {w1 w2 w3 : World} (h : Km X w1 w2) (hb : Below w2.heap.size w2 w3) : Km X w1 w3 := h.trans (Km.of_below hb)
section
variable {X : Par} {pr pr' : Nat -> Prop} {w w' : World}
theorem MM.below (h : MM X pr w) (hb : Below w.heap.size w w') : MM X pr w' := by
  obtain ⟨es1, c1, h1, k1⟩ := h.e1;obtain ⟨es2, c2, h2, k2⟩ := h.e2;refine ⟨h.bel.trans (hb.mono h.bel.size), (hb.block _ (lt_heap' h.hb)).trans h.hb, ⟨es1, c1, (hb.block _ (lt_heap' h1)).trans h1, fun e he => ?_⟩, ⟨es2, c2, (hb.block _ (lt_heap' h2)).trans h2, k2⟩, fun k hk => Nat.lt_of_lt_of_le (h.lt k hk) hb.size⟩;obtain ⟨x, o, i, g, a1, a2, a3, a4, a5⟩ := k1 e he;exact ⟨x, o, i, g, a1, a2, a3, (hb.block _ a4.lt).trans a4, a5⟩
theorem MM.hide (h : MM X pr w) (hn : ∀ k, pr' k -> pr k \/ w.heap.size <= k) (hb : Below w.heap.size w w') (hl : ∀ k, pr' k -> k < w'.heap.size) : MM X pr' w' := by
  have h' := h.below hb;obtain ⟨es1, c1, h1, k1⟩ := h.e1;refine ⟨h'.bel, h'.hb, ⟨es1, c1, (hb.block _ (lt_heap' h1)).trans h1, fun e he => ?_⟩, h'.e2, hl⟩;obtain ⟨x, o, i, g, a1, a2, a3, a4, a5⟩ := k1 e he;refine ⟨x, o, i, g, a1, a2, a3, (hb.block _ a4.lt).trans a4, fun q => ?_⟩;rcases hn g q with q | q
  · exact a5 q
  · have := a4.lt;omega
theorem MM.mono (h : MM X pr w) (hn : ∀ k, pr' k -> pr k) : MM X pr' w := by
  obtain ⟨es1, c1, h1, k1⟩ := h.e1;refine ⟨h.bel, h.hb, ⟨es1, c1, h1, fun e he => ?_⟩, h.e2, fun k hk => h.lt k (hn k hk)⟩;obtain ⟨x, o, i, g, a1, a2, a3, a4, a5⟩ := k1 e he;exact ⟨x, o, i, g, a1, a2, a3, a4, fun q => a5 (hn g q)⟩
theorem MM.own (h : MM X pr w) {B : Nat} (hB : pr B) (h0 : X.w0.heap.size <= B) (hm : B ≠ X.bm) (h1 : B ≠ X.b1) (h2 : B ≠ X.b2) (hs : w.heap.size <= w'.heap.size) (hk : ∀ k, k < w.heap.size -> k ≠ B -> w'.heap[k]? = w.heap[k]?) (hbl : Below X.w0.heap.size X.w0 w') : MM X pr w' := by
  obtain ⟨es1, c1, a1, k1⟩ := h.e1;obtain ⟨es2, c2, a2, k2⟩ := h.e2;refine ⟨hbl, (hk _ (lt_heap' h.hb) hm.symm).trans h.hb, ⟨es1, c1, (hk _ (lt_heap' a1) h1.symm).trans a1, fun e he => ?_⟩, ⟨es2, c2, (hk _ (lt_heap' a2) h2.symm).trans a2, k2⟩, fun k q => Nat.lt_of_lt_of_le (h.lt k q) hs⟩;obtain ⟨x, o, i, g, b1, b2, b3, b4, b5⟩ := k1 e he;exact ⟨x, o, i, g, b1, b2, b3, (hk _ b4.lt (fun q => b5 (by rw [q]; exact hB))).trans b4, b5⟩
theorem MM.cell (h : MM X pr w) {B : Nat} (hB : pr B) (h0 : X.w0.heap.size <= B) (hm : B ≠ X.bm) (h1 : B ≠ X.b1) (h2 : B ≠ X.b2) (i : Nat) (u : Value) : MM X pr (w.setCell ⟨B, i, none⟩ u) :=
  h.own hB h0 hm h1 h2 (by simp) (fun k _ hk => Below.heap_setCell w ⟨B, i, none⟩ u k hk) (h.bel.setCell h0 _)
theorem MM.facts (h : MM X pr w) :
    (w.cell? ⟨X.bm, 0, none⟩ = some X.v /\ w.cell? ⟨X.bm, 1, none⟩ = some (S X.T) /\ w.cell? ⟨X.bm, 2, none⟩ = some (.bool X.refs) /\ w.cell? ⟨X.bm, 3, none⟩ = some (.map (some X.b1)) /\ w.cell? ⟨X.bm, 4, none⟩ = some (.map (some X.b2))) :=
  ⟨(Lib.cell_of_heap h.hb 0).trans rfl, (Lib.cell_of_heap h.hb 1).trans rfl, (Lib.cell_of_heap h.hb 2).trans rfl, (Lib.cell_of_heap h.hb 3).trans rfl, (Lib.cell_of_heap h.hb 4).trans rfl⟩
theorem MM.apart (h : MM X pr w) {B n : Nat} {f : Nat -> Bool} (hr : RB w B n f) : B ≠ X.bm /\ B ≠ X.b1 /\ B ≠ X.b2 := by
  obtain ⟨es1, c1, a1, k1⟩ := h.e1;obtain ⟨es2, c2, a2, k2⟩ := h.e2;refine ⟨?_, ?_, ?_⟩
  · rintro rfl;have := h.hb.symm.trans hr;simp only [Option.some.injEq, Obj.cells.injEq] at this;exact absurd this.2.1 (by decide)
  · rintro rfl;have := a1.symm.trans hr;simp at this
  · rintro rfl;have := a2.symm.trans hr;simp at this
theorem MM.put1 (h : MM X pr w) (hX : X.Ok) {x : Tr} {o i g : Nat} (ha : At X.l x o) (hr : RB w g (X.N + 1) (endsP X.T x i)) (hg : ¬ pr g) :
    ∃ w', (Instr.mapUpdate 96 (.map (some X.b1)) (PK (o + x.size - 1) i) (SL g (X.N + 1))).run Tryz.prog w = .ok () w' /\ MM X pr w' /\ Km X w w' /\ RB w' g (X.N + 1) (endsP X.T x i) := by
  obtain ⟨es1, c1, a1, k1⟩ := h.e1;obtain ⟨es2, c2, a2, k2⟩ := h.e2;have hK : KeysIn placeKeys es1 := fun e he => by
    obtain ⟨x, o, i, g, _, b2, _⟩ := k1 e he;exact ⟨(o + x.size - 1, i), trivial, b2⟩
  obtain ⟨es', clk', hrun, hes⟩ := put_run placeKeys Tryz.underlying96 (k := (o + x.size - 1, i)) trivial hK (SL g (X.N + 1)) w X.b1 c1 a1;have hset : ∀ k, k ≠ X.b1 -> (ChangeMaps.setBlock w X.b1 (.map es' clk')).heap[k]? = w.heap[k]? := fun k hk => by
    simp only [ChangeMaps.setBlock, Array.getElem?_setIfInBounds_ne (Ne.symm hk)]
  have hsame : (ChangeMaps.setBlock w X.b1 (.map es' clk')).heap[X.b1]? = some (.map es' clk') := by
    simp only [ChangeMaps.setBlock, Array.getElem?_setIfInBounds_self_of_lt (lt_heap' a1)]
  (have hsz : (ChangeMaps.setBlock w X.b1 (.map es' clk')).heap.size = w.heap.size := by simp [ChangeMaps.setBlock]);have hap := h.apart hr;have hbl : Below X.w0.heap.size X.w0 (ChangeMaps.setBlock w X.b1 (.map es' clk')) := h.bel.trans ⟨rfl, rfl, rfl, by rw [hsz]; exact Nat.le_refl _, fun k hk => hset k (by have := hX.m1; omega)⟩;refine ⟨_, hrun, ⟨hbl, (hset _ ?_).trans h.hb, ⟨es', clk', hsame, fun e he => ?_⟩, ⟨es2, c2, (hset _ hX.n12.symm).trans a2, k2⟩, fun k hk => by rw [hsz]; exact h.lt k hk⟩, ⟨by rw [hsz]; exact Nat.le_refl _, fun k _ hk _ => hset k hk⟩, (hset g hap.2.1).trans hr⟩
  · intro q;have := h.hb.symm.trans (q ▸ a1);simp at this
  · rcases hes e he with he | ⟨e1, e2⟩
    · obtain ⟨x', o', i', g', b1, b2, b3, b4, b5⟩ := k1 e he;exact ⟨x', o', i', g', b1, b2, b3, (hset g' (h.apart b4).2.1).trans b4, b5⟩
    · exact ⟨x, o, i, g, ha, e1, e2, (hset g hap.2.1).trans hr, hg⟩
theorem MM.look1 (h : MM X pr w) {x : Tr} {o : Nat} (ha : At X.l x o) (hx : 0 < x.size) (i : Nat) :
    ∃ v b, (∀ w' : World, w'.heap[X.b1]? = w.heap[X.b1]? -> (Instr.lookup 96 (.map (some X.b1)) (PK (o + x.size - 1) i) true).run Tryz.prog w' = .ok (.tuple #[v, .bool b]) w') /\
      ((b = false /\ v = .slice none 0 0) \/ (b = true /\ ∃ g, v = SL g (X.N + 1) /\ RB w g (X.N + 1) (endsP X.T x i) /\ ¬ pr g)) := by
  obtain ⟨es1, c1, a1, k1⟩ := h.e1;have hK : KeysIn placeKeys es1 := fun e he => by
    obtain ⟨x, o, i, g, _, b2, _⟩ := k1 e he;exact ⟨(o + x.size - 1, i), trivial, b2⟩
  obtain ⟨v, b, h1, h2⟩ := look_run placeKeys Tryz.underlying96 (z := .slice none 0 0) (fun w => by kernel_rfl) (k := (o + x.size - 1, i)) trivial hK;refine ⟨v, b, fun w' hw => h1 w' X.b1 c1 (hw.trans a1), ?_⟩;rcases h2 with h2 | ⟨rfl, e, he, hk, rfl⟩
  · exact Or.inl h2
  · right;obtain ⟨x', o', i', g', b1, b2, b3, b4, b5⟩ := k1 e he;have hp := size_pos x';obtain ⟨q1, rfl⟩ := pk_inj.1 (b2.symm.trans hk);obtain ⟨rfl, rfl⟩ := at_inj x' x o' o b1 ha (by omega);exact ⟨rfl, g', b3, b4, b5⟩
theorem MM.look2 (h : MM X pr w) (hX : X.Ok) {x : Tr} {o : Nat} (ha : At X.l x o) (hx : 0 < x.size) (i j : Nat) {c : Caps} (hc : CapsOk X.N c) :
    ∃ v b, (∀ w' : World, w'.heap[X.b2]? = w.heap[X.b2]? -> (Instr.lookup 97 (.map (some X.b2)) (TK (o + x.size - 1) i j c) true).run Tryz.prog w' = .ok (.tuple #[v, .bool b]) w') /\
      ((b = false /\ ∃ z, v = .agg #[z, z, z, z, z, z, z, z, z, z, .bool false] /\ z = .complex .f64 0 0) \/ (b = true /\ ∃ c' b', v = LV c' b' /\ LeftOk X.N (fitP X.T x i j c) c' b')) := by
  obtain ⟨es2, c2, a2, k2⟩ := h.e2;(have hN : X.N <= 999999999 := by have := hX.len; omega);have hK : KeysIn (tryKeys X.N hN) es2 := fun e he => by
    obtain ⟨x, o, i, j, c, c', b, _, b1, b2, _⟩ := k2 e he;exact ⟨(o + x.size - 1, i, j, c), b1, b2⟩
  obtain ⟨v, b, h1, h2⟩ := look_run (tryKeys X.N hN) Tryz.underlying97 (z := .agg #[.complex .f64 0 0, .complex .f64 0 0, .complex .f64 0 0, .complex .f64 0 0, .complex .f64 0 0, .complex .f64 0 0, .complex .f64 0 0, .complex .f64 0 0, .complex .f64 0 0, .complex .f64 0 0, .bool false]) (fun w => by kernel_rfl) (k := (o + x.size - 1, i, j, c)) hc hK;refine ⟨v, b, fun w' hw => h1 w' X.b2 c2 (hw.trans a2), ?_⟩;rcases h2 with h2 | ⟨rfl, e, he, hk, rfl⟩
  · exact Or.inl ⟨h2.1, _, h2.2, rfl⟩
  · right;obtain ⟨x', o', i', j', c', d', b', b1, b2, b3, b4, b5⟩ := k2 e he;have hp := size_pos x';obtain ⟨q1, rfl, rfl, rfl⟩ := (tk_inj hN b2 hc).1 (b3.symm.trans hk);obtain ⟨rfl, rfl⟩ := at_inj x' x o' o b1 ha (by omega);exact ⟨rfl, d', b', b4, b5⟩
theorem MM.put2 (h : MM X pr w) (hX : X.Ok) {x : Tr} {o i j : Nat} {c c' : Caps} {b : Bool} (ha : At X.l x o) (hc : CapsOk X.N c) (hl : LeftOk X.N (fitP X.T x i j c) c' b) :
    ∃ w', (Instr.mapUpdate 97 (.map (some X.b2)) (TK (o + x.size - 1) i j c) (LV c' b)).run Tryz.prog w = .ok () w' /\ MM X pr w' /\ Km X w w' := by
  obtain ⟨es1, c1, a1, k1⟩ := h.e1;obtain ⟨es2, c2, a2, k2⟩ := h.e2;(have hN : X.N <= 999999999 := by have := hX.len; omega);have hK : KeysIn (tryKeys X.N hN) es2 := fun e he => by
    obtain ⟨x, o, i, j, c, c', b, _, b1, b2, _⟩ := k2 e he;exact ⟨(o + x.size - 1, i, j, c), b1, b2⟩
  obtain ⟨es', clk', hrun, hes⟩ := put_run (tryKeys X.N hN) Tryz.underlying97 (k := (o + x.size - 1, i, j, c)) hc hK (LV c' b) w X.b2 c2 a2;have hset : ∀ k, k ≠ X.b2 -> (ChangeMaps.setBlock w X.b2 (.map es' clk')).heap[k]? = w.heap[k]? := fun k hk => by
    simp only [ChangeMaps.setBlock, Array.getElem?_setIfInBounds_ne (Ne.symm hk)]
  have hsame : (ChangeMaps.setBlock w X.b2 (.map es' clk')).heap[X.b2]? = some (.map es' clk') := by
    simp only [ChangeMaps.setBlock, Array.getElem?_setIfInBounds_self_of_lt (lt_heap' a2)]
  (have hsz : (ChangeMaps.setBlock w X.b2 (.map es' clk')).heap.size = w.heap.size := by simp [ChangeMaps.setBlock]);have hbl : Below X.w0.heap.size X.w0 (ChangeMaps.setBlock w X.b2 (.map es' clk')) := h.bel.trans ⟨rfl, rfl, rfl, by rw [hsz]; exact Nat.le_refl _, fun k hk => hset k (by have := hX.m2; omega)⟩;refine ⟨_, hrun, ⟨hbl, (hset _ ?_).trans h.hb, ⟨es1, c1, (hset _ hX.n12).trans a1, fun e he => ?_⟩, ⟨es', clk', hsame, fun e he => ?_⟩, fun k hk => by rw [hsz]; exact h.lt k hk⟩, ⟨by rw [hsz]; exact Nat.le_refl _, fun k _ _ hk => hset k hk⟩⟩
  · intro q;have := h.hb.symm.trans (q ▸ a2);simp at this
  · obtain ⟨x', o', i', g', b1, b2, b3, b4, b5⟩ := k1 e he;exact ⟨x', o', i', g', b1, b2, b3, (hset g' (h.apart b4).2.2).trans b4, b5⟩
  · rcases hes e he with he | ⟨e1, e2⟩
    · exact k2 e he
    · exact ⟨x, o, i, j, c, c', b, ha, hc, e1, e2, hl⟩
theorem MM.node (h : MM X pr w) (hX : X.Ok) {x : Tr} {o : Nat} (ha : At X.l x o) : ∃ nb no cap, X.v = .slice (some ⟨nb, no, none⟩) X.l.length cap /\ o + x.size - 1 < X.l.length /\ NCell w nb (no + (o + x.size - 1) * 10) (x.root o) := by
  have hr := at_root ha;have hlt : o + x.size - 1 < X.l.length := (List.getElem?_eq_some_iff.1 hr).1;obtain ⟨ao, cap, hv, _⟩ := hX.nodes;have hN := (hX.nodes.below h.bel);rw [hv] at hN;obtain ⟨b, o', e, hc⟩ := hN.at hlt;subst e;rw [List.getElem?_eq_getElem hlt] at hr;rw [Option.some.inj hr] at hc;exact ⟨b, o', cap, hv, hlt, hc⟩
end
open St (Wf word mem SV SV_eq)
def FT (T : List UInt8) (t : Tr) (x i j : Nat) : Bool := decide (i <= j) && gP T (sT t x) i j
theorem FT_off (T : List UInt8) (t : Tr) (x i j : Nat) (h : j < i) : FT T t x i j = false := by
 unfold FT;rw [decide_eq_false (by omega)];rfl
theorem FT_on {T : List UInt8} {t : Tr} {x i j : Nat} (h : i <= j) : FT T t x i j = gP T (sT t x) i j := by
 unfold FT;rw [decide_eq_true h];rfl
theorem FT_root {T : List UInt8} {t x : Tr} {o i j : Nat} (hx : InT t x o) (h : i <= j) : FT T t (o + x.size - 1) i j = gP T x i j := by
 rw [FT_on h, in_root hx]
theorem stC_congr {a b : Nat -> Nat -> Bool} {mn mx : Int} {j most : Nat} (h : ∀ p k, p <= k -> k <= j -> a p k = b p k) : ∀ (u p : Nat), p <= j -> stC a mn mx j most u p = stC b mn mx j most u p
 | 0, p, hp => by
  unfold stC;rw [h j j (Nat.le_refl _) (Nat.le_refl _)]
 | u + 1, p, hp => by
  unfold stC;rw [h j j (Nat.le_refl _) (Nat.le_refl _)];by_cases e : p = j
  · rw [if_pos e, if_pos e]
  ·
   rw [if_neg e, if_neg e, Bool.eq_iff_iff, List.any_eq_true, List.any_eq_true];constructor
   · rintro ⟨k, h1, h2⟩;have hk := List.mem_range.1 h1;refine ⟨k, h1, ?_⟩;simp only [Bool.and_eq_true, decide_eq_true_eq] at h2 ⊢;obtain ⟨⟨⟨h3, h4⟩, h5⟩, h6⟩ := h2;exact ⟨⟨⟨h3, h4⟩, by rw [<- h p k (by omega) (by omega)]; exact h5⟩, by rw [<- stC_congr h u k (by omega)]; exact h6⟩
   · rintro ⟨k, h1, h2⟩;have hk := List.mem_range.1 h1;refine ⟨k, h1, ?_⟩;simp only [Bool.and_eq_true, decide_eq_true_eq] at h2 ⊢;obtain ⟨⟨⟨h3, h4⟩, h5⟩, h6⟩ := h2;exact ⟨⟨⟨h3, h4⟩, by rw [h p k (by omega) (by omega)]; exact h5⟩, by rw [stC_congr h u k (by omega)]; exact h6⟩
structure DM (t : Tr) (T : List UInt8) (lv gv : Value) (w : World) : Prop where
 ns : Ns w lv (t.nodes 0)
 g : (0 < refsT t /\ ∃ ao c, gv = .slice ao 0 c) \/ (refsT t = 0 /\ R3 w gv t.size t.size (T.length + 1) (FT T t))
def DAns (w : World) (N : Nat) (r : Option Caps) (e : Ending) (w' : World) : Prop := ∃ c' b, e = .returned (.tuple #[CV c', .bool b]) /\ LeftOk N r c' b /\ Below w.heap.size w w'
def DFit (t : Tr) (T : List UInt8) (lv gv : Value) (x : Tr) (ia : Nat) : Prop := ∀ (i j : Nat) (c : Caps) (w : World), i <= j -> j <= T.length -> CapsOk T.length c -> DM t T lv gv w ->
 Calls Tryz.prog 81 #[lv, gv, E (ia : Nat), S T, E (i : Nat), E (j : Nat), CV c] w (DAns w T.length (fitP T x i j c))
theorem DM.below {t : Tr} {T : List UInt8} {lv gv : Value} {w w' : World} (h : DM t T lv gv w) (hb : Below w.heap.size w w') : DM t T lv gv w' :=
 ⟨h.ns.below hb, h.g.imp id fun h => ⟨h.1, h.2.below hb⟩⟩
theorem DM.r3 {t : Tr} {T : List UInt8} {lv gv : Value} {w : World} (h : DM t T lv gv w) (hr : refsT t = 0) : R3 w gv t.size t.size (T.length + 1) (FT T t) := by
 rcases h.g with ⟨q, _⟩ | ⟨_, q⟩
 · omega
 · exact q
theorem DM.node {t : Tr} {T : List UInt8} {lv gv : Value} {w : World} (h : DM t T lv gv w) {x : Tr} {o : Nat} (ha : At (t.nodes 0) x o) : ∃ nb no cap, lv = .slice (some ⟨nb, no, none⟩) (t.nodes 0).length cap /\ o + x.size - 1 < (t.nodes 0).length /\ NCell w nb (no + (o + x.size - 1) * 10) (x.root o) := by
 have hr := at_root ha;have hlt : o + x.size - 1 < (t.nodes 0).length := (List.getElem?_eq_some_iff.1 hr).1;have hN := h.ns;obtain ⟨ao, cap, hv, _⟩ := h.ns;rw [hv] at hN;obtain ⟨b, o', e, hc⟩ := hN.at hlt;subst e;rw [List.getElem?_eq_getElem hlt] at hr;rw [Option.some.inj hr] at hc;exact ⟨b, o', cap, hv, hlt, hc⟩
theorem res_caps6 {fn : Func} {p u : Tmp} (h : fn.results = #[.cell p 30, .tmp u]) {tmps : Array Value} {w : World} {g : Nat} {c : Caps} {v : Value} (hp : tmps.getD p undef = PT g) (hg : w.heap[g]? = some (.cells (CC c) 30 (0, 0))) (hu : tmps.getD u undef = v) :
  (results fn tmps).run Tryz.prog w = .ok (.tuple #[CV c, v]) w := by
 rw [results_cell_tmp h, hp, hu];have := run_loadVar_row (P := Tryz.prog) w g 30 30 (CC c) (0, 0) _ hg Tryz.underlying30 rfl (by kernel_rfl);rw [show (asAddr (PT g)).run Tryz.prog w = .ok ⟨g, 0, none⟩ w from rfl];simp only [Result.andThen];rw [this]
theorem ld6 (x : Nat) {ops : Array Oper} {rest : List Oper} {o : Oper} {a a' : Act} {w : World} {Q : Exit -> Act -> World -> Prop} {g : Nat} {c : Caps} (F : w.heap[g]? = some (.cells (CC c) 30 (0, 0))) (h : wpList Tryz.prog ops Q rest a' w) (hgd : o.guard = none := by rfl) (ho : o.op = .load 30 (.tmp x) := by rfl) (hx : a.eval (.tmp x) = .pointer (some ⟨g, 0, none⟩) := by rfl)
  (ha : a.put o.dst (CV c) = a' := by simp only [Act.put, List.setIfInBounds_toArray, List.set_cons_zero, List.set_cons_succ] <;> rfl) : wpList Tryz.prog ops Q (o :: rest) a w := by
 subst ha;exact wpList_load_row hgd 30 (.tmp x) ho g hx _ (CC c) (0, 0) _ F Tryz.underlying30 rfl (by kernel_rfl) h
theorem st6 (x y : Nat) (c : Caps) {ops : Array Oper} {rest : List Oper} {o : Oper} {a a' : Act} {w : World} {Q : Exit -> Act -> World -> Prop} {g : Nat} {old : Array Value} (F : w.heap[g]? = some (.cells old 30 (0, 0))) (h : wpList Tryz.prog ops Q rest a' (w.setRow g (CC c))) (hold : old.size = (CC c).size := by rfl) (hgd : o.guard = none := by rfl) (ho : o.op = .store 30 (.tmp x) (.tmp y) := by rfl) (hx : a.eval (.tmp x) = .pointer (some ⟨g, 0, none⟩) := by rfl) (hy : a.eval (.tmp y) = .agg (CC c) := by rfl)
  (ha : a.put o.dst undef = a' := by simp only [Act.put, List.setIfInBounds_toArray, List.set_cons_zero, List.set_cons_succ] <;> rfl) : wpList Tryz.prog ops Q (o :: rest) a w := by
 subst ha;exact wpList_store_row hgd 30 (.tmp x) (.tmp y) ho g (CC c) hx hy _ old F (by kernel_rfl) hold (cc_one c) h
theorem xl6 (x : Nat) {o : Oper} {a : Act} {w : World} {g : Nat} {c : Caps} (F : w.heap[g]? = some (.cells (CC c) 30 (0, 0))) (ho : o.op = .load 30 (.tmp x) := by rfl) (hx : a.eval (.tmp x) = .pointer (some ⟨g, 0, none⟩) := by rfl) : (execOp a.eval o).run Tryz.prog w = .ok (.value (CV c)) w :=
 exec_load_row 30 (.tmp x) ho g hx _ (CC c) _ _ F Tryz.underlying30 rfl (by kernel_rfl)
theorem ss6 (x y : Nat) (c : Caps) {w : World} {ops : Array Oper} {o : Oper} {a : Act} {K : Act -> World -> Prop} {Q : Exit -> Act -> World -> Prop} {E : Prop} {g : Nat} {old : Array Value} (F : w.heap[g]? = some (.cells old 30 (0, 0))) (h : K (a.put o.dst undef) (w.setRow g (CC c))) (hold : old.size = (CC c).size := by rfl) (hgd : o.guard = none := by rfl) (ho : o.op = .store 30 (.tmp x) (.tmp y) := by rfl) (hx : a.eval (.tmp x) = .pointer (some ⟨g, 0, none⟩) := by rfl) (hy : a.eval (.tmp y) = .agg (CC c) := by rfl) : if Region.wanted o (yielded ops a.tmps) = true then Oper.wp Tryz.prog o a w K Q else E :=
 step_store_row hgd 30 (.tmp x) (.tmp y) ho g (CC c) hx hy _ old F (by kernel_rfl) hold (cc_one c) h
theorem box_laid6 (wr : World) (a : Caps) : (wr.alloc (.cells CZ 30)).setRow wr.heap.size (CC a) = wr.alloc (.cells (CC a) 30) := World.setRow_alloc_new wr CZ (CC a) 30
theorem cap_cell6 {w : World} {g : Nat} {c : Caps} {n : Nat} (h : w.heap[g]? = some (.cells (CC c) 30 (0, 0))) (hn : n < 10) : w.cell? ⟨g, n, none⟩ = some (capV (gr c n)) := by
 rw [Lib.cell_of_heap h n]
 match n, hn with
 | 0, _ => rfl
 | 1, _ => rfl
 | 2, _ => rfl
 | 3, _ => rfl
 | 4, _ => rfl
 | 5, _ => rfl
 | 6, _ => rfl
 | 7, _ => rfl
 | 8, _ => rfl
 | 9, _ => rfl
structure DS (t : Tr) (T : List UInt8) (lv gv : Value) (w : World) (c : Caps) (nd : Nd) (wr : World) : Prop where
 dm0 : DM t T lv gv w
 bx : wr.heap[w.heap.size]? = some (.cells (CC c) 30 (0, 0))
 rs : wr.heap[w.heap.size + 1]? = some (.cells CZ 30 (0, 0))
 nb : wr.heap[w.heap.size + 1 + 1]? = some (.cells (NC nd) 60 (0, 0))
 bel : Below w.heap.size w wr
section
variable {t : Tr} {T : List UInt8} {lv gv : Value} {w wr w' : World} {c : Caps} {nd : Nd}
theorem DS.dm (h : DS t T lv gv w c nd wr) : DM t T lv gv wr := h.dm0.below h.bel
theorem DS.below (h : DS t T lv gv w c nd wr) (hb : Below wr.heap.size wr w') : DS t T lv gv w c nd w' :=
 ⟨h.dm0, (hb.block _ (lt_heap' h.bx)).trans h.bx, (hb.block _ (lt_heap' h.rs)).trans h.rs, (hb.block _ (lt_heap' h.nb)).trans h.nb, h.bel.trans (hb.mono h.bel.size)⟩
theorem ds_start (h : DM t T lv gv w) (c : Caps) (nd : Nd) : DS t T lv gv w c nd (((w.alloc (.cells (CC c) 30)).alloc (.cells CZ 30)).alloc (.cells (NC nd) 60)) := by
 have b1 := (Below.refl w.heap.size w).alloc (Nat.le_refl _) (.cells (CC c) 30);have b2 := b1.alloc (by simp) (.cells CZ 30);have b3 := b2.alloc (by simp; omega) (.cells (NC nd) 60);have e2 := heap_alloc2_old w (.cells (CC c) 30) (.cells CZ 30);have e3 := heap_alloc2_new w (.cells (CC c) 30) (.cells CZ 30);have e4 := heap_alloc_new ((w.alloc (.cells (CC c) 30)).alloc (.cells CZ 30)) (.cells (NC nd) 60);rw [show ((w.alloc (.cells (CC c) 30)).alloc (.cells CZ 30)).heap.size = w.heap.size + 1 + 1 by simp] at e4;exact ⟨h, (Below.heap_alloc _ _ _ (by simp; omega)).trans e2, (Below.heap_alloc _ _ _ (by simp)).trans e3, e4, b3⟩
theorem DS.ret (h : DS t T lv gv w c nd wr) (a : Caps) : (wr.setRow (w.heap.size + 1) (CC a)).heap[w.heap.size + 1]? = some (.cells (CC a) 30 (0, 0)) /\ Below w.heap.size w (wr.setRow (w.heap.size + 1) (CC a)) :=
 ⟨setRow_heap _ _ _ _ _ _ h.rs, below_setRow h.bel (by omega) (CC a)⟩
theorem DS.box (h : DS t T lv gv w c nd wr) (a : Caps) : DS t T lv gv w c nd (wr.alloc (.cells (CC a) 30)) /\ (wr.alloc (.cells (CC a) 30)).heap[wr.heap.size]? = some (.cells (CC a) 30 (0, 0)) :=
 ⟨h.below ((Below.refl _ _).alloc (Nat.le_refl _) _), heap_alloc_new _ _⟩
theorem DS.cells (h : DS t T lv gv w c nd wr) :
  wr.cell? ⟨w.heap.size + 1 + 1, 0, none⟩ = some (E nd.k) /\ wr.cell? ⟨w.heap.size + 1 + 1, 1, none⟩ = some (U (word nd.s 0)) /\ wr.cell? ⟨w.heap.size + 1 + 1, 2, none⟩ = some (U (word nd.s 1)) /\ wr.cell? ⟨w.heap.size + 1 + 1, 3, none⟩ = some (U (word nd.s 2)) /\ wr.cell? ⟨w.heap.size + 1 + 1, 4, none⟩ = some (U (word nd.s 3)) /\
   wr.cell? ⟨w.heap.size + 1 + 1, 5, none⟩ = some (E nd.a) /\ wr.cell? ⟨w.heap.size + 1 + 1, 6, none⟩ = some (E nd.b) /\ wr.cell? ⟨w.heap.size + 1 + 1, 7, none⟩ = some (E nd.mn) /\ wr.cell? ⟨w.heap.size + 1 + 1, 8, none⟩ = some (E nd.mx) /\ wr.cell? ⟨w.heap.size + 1 + 1, 9, none⟩ = some (E nd.n) := by
 have := node_cellsR h.nb;simpa using this
end
section
variable {t : Tr} {T : List UInt8} {lv gv : Value} {w wr w' : World} {c : Caps} {nd : Nd}
theorem DS.putc (h : DS t T lv gv w c nd wr) {g : Nat} {a : Caps} (hb : wr.heap[g]? = some (.cells (CC a) 30 (0, 0))) (ha : a.length = 10) (hg : w.heap.size + 1 + 1 + 1 <= g) {n : Nat} (hn : n < 10) (x : Cap) :
  DS t T lv gv w c nd (wr.setCell ⟨g, n, none⟩ (capV x)) /\ (wr.setCell ⟨g, n, none⟩ (capV x)).heap[g]? = some (.cells (CC (a.set n x)) 30 (0, 0)) := by
 (have hk : ∀ k, k ≠ g -> (wr.setCell ⟨g, n, none⟩ (capV x)).heap[k]? = wr.heap[k]? := fun k hk => Below.heap_setCell wr ⟨g, n, none⟩ _ k hk);refine ⟨⟨h.dm0, (hk _ (by omega)).trans h.bx, (hk _ (by omega)).trans h.rs, (hk _ (by omega)).trans h.nb, h.bel.setCell (by show w.heap.size <= g; omega) _⟩, ?_⟩;have := Go.Joins.block_setCell hb (i := n) (capV x);rw [cc_set ha hn] at this;exact this
theorem DS.big (h : DS t T lv gv w c nd wr) : w.heap.size + 1 + 1 + 1 <= wr.heap.size := lt_heap' h.nb
end
theorem row_ret {w wr : World} {n g : Nat} {cs : Array Value} {t : TypeId} (h : wr.heap[g]? = some (.cells cs t (0, 0))) (hb : Below n w wr) (hg : n <= g) (a : Array Value) : (wr.setRow g a).heap[g]? = some (.cells a t (0, 0)) /\ Below n w (wr.setRow g a) :=
 ⟨setRow_heap _ _ _ _ _ _ h, below_setRow hb hg a⟩
def DW (w : World) (c : Caps) (nd : Nd) (w' : World) : Prop :=
 w'.heap[w.heap.size]? = some (.cells (CC c) 30 (0, 0)) /\ NCell w' (w.heap.size + 1 + 1) 0 nd
theorem DS.dw {t : Tr} {T : List UInt8} {lv gv : Value} {w wr : World} {c : Caps} {nd : Nd} (h : DS t T lv gv w c nd wr) : DW w c nd wr := ⟨h.bx, node_cellsR h.nb⟩
theorem DS.dw_ret {t : Tr} {T : List UInt8} {lv gv : Value} {w wr : World} {c : Caps} {nd : Nd} (h : DS t T lv gv w c nd wr) (a : Caps) : DW w c nd (wr.setRow (w.heap.size + 1) (CC a)) :=
 ⟨(setRow_other _ _ _ _ (by omega)).trans h.bx, node_cellsR ((setRow_other _ _ _ _ (by omega)).trans h.nb)⟩
end Go.Proofs.YtgaiknjmbingjaaGreatDoor.Mt
