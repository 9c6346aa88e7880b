/- The texts RxNum RxR0 SlB. -/
import Derived.Lib.SmallJoins
import Derived.RangeFuncBox
import Derived.Maps.AppendAt
import Derived.Test.YtlicoffnjphphaaGreatDoorQk02
import Derived.Test.YtlicoffnjphphaaGreatDoorQk06
import Derived.Test.YtlicoffnjphphaaGreatDoorQk07
import Derived.Test.YtlicoffnjphphaaGreatDoorQk08
set_option linter.unusedVariables false
set_option linter.unusedSimpArgs false
set_option maxHeartbeats 2000000
set_option maxRecDepth 100000
namespace Go.Proofs.YtlicoffnjphphaaGreatDoor.Rx
open Go.RowKit Go.Shelf
open Go.Proofs.YtlicoffnjphphaaGreatDoor.St (Wf word zeroW)
open Tr
abbrev BA (l : List Bool) : Array Value := (l.map Value.bool).toArray
abbrev CLO (H : Nat) : Array Value := #[PT H, PT (H + 5), PT (H + 1), PT (H + 3), PT (H + 4), PT (H + 2)]
abbrev FV (H : Nat) : Value := .func (.func 79) #[] (CLO H)
/-- The cells that the walk through a tree writes. -/
structure NW (w0 : World) (v : Value) (s : NSt) (w : World) : Prop where
 l : w.heap[w0.heap.size]? = some (.cells #[v] 22 (0, 0))
 g : w.heap[w0.heap.size + 1]? = some (.cells #[E s.g] 3 (0, 0))
 r : w.heap[w0.heap.size + 2]? = some (.cells #[.bool s.r] 4 (0, 0))
 ok : w.heap[w0.heap.size + 3]? = some (.cells #[.bool s.ok] 4 (0, 0))
 e : w.heap[w0.heap.size + 4]? = some (.cells (BA s.e) 118 (0, 0))
 f : w.heap[w0.heap.size + 5]? = some (.cells #[FV w0.heap.size] 131 (0, 0))
 len : s.e.length = 10
 bel : Below w0.heap.size w0 w
/-- What a walk through a tree keeps. -/
structure Kp (w0 w w' : World) : Prop where
 size : w.heap.size ≤ w'.heap.size
 far : ∀ k, w0.heap.size + 5 ≤ k → k < w.heap.size → w'.heap[k]? = w.heap[k]?
theorem Kp.refl (w0 w : World) : Kp w0 w w := ⟨Nat.le_refl _, fun _ _ _ => rfl⟩
theorem Kp.trans {w0 a b c : World} (h : Kp w0 a b) (k : Kp w0 b c) : Kp w0 a c := ⟨Nat.le_trans h.size k.size, fun i h1 h2 => (k.far i h1 (Nat.lt_of_lt_of_le h2 h.size)).trans (h.far i h1 h2)⟩
theorem Kp.alloc {w0 a b : World} (h : Kp w0 a b) (o : Obj) : Kp w0 a (b.alloc o) := ⟨by have := h.size; simp; omega, fun i h1 h2 => (Below.heap_alloc _ _ _ (Nat.lt_of_lt_of_le h2 h.size)).trans (h.far i h1 h2)⟩
theorem Kp.set {w0 a b : World} (h : Kp w0 a b) {k : Nat} (hk : k < w0.heap.size + 5) (i : Nat) (u : Value) : Kp w0 a (b.setCell ⟨k, i, none⟩ u) :=
 ⟨by have := h.size; simpa using this, fun j h1 h2 => (Below.heap_setCell b ⟨k, i, none⟩ u j (by show j ≠ k; omega)).trans (h.far j h1 h2)⟩
theorem NW.cells {w0 w : World} {v : Value} {s : NSt} (h : NW w0 v s w) :
  (w.cell? ⟨w0.heap.size, 0, none⟩ = some v ∧ w.cell? ⟨w0.heap.size + 1, 0, none⟩ = some (E s.g) ∧ w.cell? ⟨w0.heap.size + 2, 0, none⟩ = some (.bool s.r) ∧ w.cell? ⟨w0.heap.size + 3, 0, none⟩ = some (.bool s.ok) ∧ w.cell? ⟨w0.heap.size + 5, 0, none⟩ = some (FV w0.heap.size)) ∧
  (w.frozen? ⟨w0.heap.size + 1, 0, none⟩ = false ∧ w.frozen? ⟨w0.heap.size + 2, 0, none⟩ = false ∧ w.frozen? ⟨w0.heap.size + 3, 0, none⟩ = false) :=
 ⟨⟨cell_of_one h.l, cell_of_one h.g, cell_of_one h.r, cell_of_one h.ok, cell_of_one h.f⟩, free_of_one h.g, free_of_one h.r, free_of_one h.ok⟩
theorem NW.ended {w0 w : World} {v : Value} {s : NSt} (h : NW w0 v s w) {u : Nat} (hu : u < 10) : w.cell? ⟨w0.heap.size + 4, u, none⟩ = some (.bool ((s.e[u]?).getD false)) ∧ w.frozen? ⟨w0.heap.size + 4, u, none⟩ = false := by
 have he := h.e;have hl := h.len;refine ⟨?_, by simp [World.frozen?, he]⟩;rw [Lib.cell_of_heap he];(have hu' : u < s.e.length := by omega);simp [List.getElem?_eq_getElem hu']
theorem NW.sz {w0 w : World} {v : Value} {s : NSt} (h : NW w0 v s w) : w0.heap.size + 6 ≤ w.heap.size := lt_heap' h.f
theorem NW.alloc {w0 w : World} {v : Value} {s : NSt} (h : NW w0 v s w) (o : Obj) : NW w0 v s (w.alloc o) := by
 have hs := h.sz;(have e : ∀ {k o'}, w.heap[k]? = some o' → (w.alloc o).heap[k]? = some o' := fun hk => (Below.heap_alloc _ _ _ (lt_heap' hk)).trans hk);exact ⟨e h.l, e h.g, e h.r, e h.ok, e h.e, e h.f, h.len, h.bel.alloc (by omega) _⟩
theorem setne {w : World} {a b i : Nat} {u : Value} {o : Obj} (h : w.heap[a]? = some o) (hne : a ≠ b) : (w.setCell ⟨b, i, none⟩ u).heap[a]? = some o := (Below.heap_setCell w ⟨b, i, none⟩ u a hne).trans h
theorem NW.setG {w0 w : World} {v : Value} {s : NSt} (h : NW w0 v s w) (x : Int) : NW w0 v ⟨x, s.e, s.r, s.ok⟩ (w.setCell ⟨w0.heap.size + 1, 0, none⟩ (E x)) :=
 ⟨setne h.l (by omega), one_setCell h.g, setne h.r (by omega), setne h.ok (by omega), setne h.e (by omega), setne h.f (by omega), h.len, h.bel.setCell (by simp) _⟩
theorem NW.setR {w0 w : World} {v : Value} {s : NSt} (h : NW w0 v s w) (x : Bool) : NW w0 v ⟨s.g, s.e, x, s.ok⟩ (w.setCell ⟨w0.heap.size + 2, 0, none⟩ (.bool x)) :=
 ⟨setne h.l (by omega), setne h.g (by omega), one_setCell h.r, setne h.ok (by omega), setne h.e (by omega), setne h.f (by omega), h.len, h.bel.setCell (by simp) _⟩
theorem NW.setO {w0 w : World} {v : Value} {s : NSt} (h : NW w0 v s w) (x : Bool) : NW w0 v ⟨s.g, s.e, s.r, x⟩ (w.setCell ⟨w0.heap.size + 3, 0, none⟩ (.bool x)) :=
 ⟨setne h.l (by omega), setne h.g (by omega), setne h.r (by omega), one_setCell h.ok, setne h.e (by omega), setne h.f (by omega), h.len, h.bel.setCell (by simp) _⟩
theorem NW.setE {w0 w : World} {v : Value} {s : NSt} (h : NW w0 v s w) (u : Nat) : NW w0 v ⟨s.g, s.e.set u true, s.r, s.ok⟩ (w.setCell ⟨w0.heap.size + 4, u, none⟩ (.bool true)) :=
 ⟨setne h.l (by omega), setne h.g (by omega), setne h.r (by omega), setne h.ok (by omega), by
  have := Go.Joins.block_setCell h.e (i := u) (.bool true);rw [this]
  congr 2
  apply Array.ext';simp, setne h.f (by omega), by simpa using h.len, h.bel.setCell (by simp) _⟩
/-- A block with a node, beside the cells. -/
structure NN (w0 : World) (v : Value) (s : NSt) (K : Nat) (n : Nd) (w : World) : Prop where
 nw : NW w0 v s w
 nb : NB w K n
 far : w0.heap.size + 6 ≤ K
theorem NN.new {w0 w : World} {v : Value} {s : NSt} (h : NW w0 v s w) (n : Nd) : NN w0 v s w.heap.size n (w.alloc (.cells (NC n) 55)) := ⟨h.alloc _, heap_alloc_new _ _, h.sz⟩
theorem NN.node {w0 w : World} {v : Value} {s : NSt} {K : Nat} {n : Nd} (h : NN w0 v s K n w) : NH w0 w K n := NB.held h.nb h.nw.bel
theorem NN.step {w0 w w' : World} {v : Value} {s s' : NSt} {K : Nat} {n : Nd} (h : NN w0 v s K n w) (hn : NW w0 v s' w') (hk : Kp w0 w w') : NN w0 v s' K n w' := ⟨hn, (hk.far K (by have := h.far; omega) (lt_heap' h.nb)).trans h.nb, h.far⟩
theorem NN.setG {w0 w : World} {v : Value} {s : NSt} {K : Nat} {n : Nd} (h : NN w0 v s K n w) (x : Int) : NN w0 v ⟨x, s.e, s.r, s.ok⟩ K n (w.setCell ⟨w0.heap.size + 1, 0, none⟩ (E x)) := ⟨h.nw.setG x, setne h.nb (by have := h.far; omega), h.far⟩
theorem NN.setR {w0 w : World} {v : Value} {s : NSt} {K : Nat} {n : Nd} (h : NN w0 v s K n w) (x : Bool) : NN w0 v ⟨s.g, s.e, x, s.ok⟩ K n (w.setCell ⟨w0.heap.size + 2, 0, none⟩ (.bool x)) := ⟨h.nw.setR x, setne h.nb (by have := h.far; omega), h.far⟩
theorem NN.setO {w0 w : World} {v : Value} {s : NSt} {K : Nat} {n : Nd} (h : NN w0 v s K n w) (x : Bool) : NN w0 v ⟨s.g, s.e, s.r, x⟩ K n (w.setCell ⟨w0.heap.size + 3, 0, none⟩ (.bool x)) := ⟨h.nw.setO x, setne h.nb (by have := h.far; omega), h.far⟩
theorem NN.setE {w0 w : World} {v : Value} {s : NSt} {K : Nat} {n : Nd} (h : NN w0 v s K n w) (u : Nat) : NN w0 v ⟨s.g, s.e.set u true, s.r, s.ok⟩ K n (w.setCell ⟨w0.heap.size + 4, u, none⟩ (.bool true)) := ⟨h.nw.setE u, setne h.nb (by have := h.far; omega), h.far⟩
/-- What a walk through a part does. -/
abbrev Wlk (w0 : World) (v : Value) (i : Nat) (f : NSt → NSt) (s : NSt) (w : World) : Prop :=
 Calls Tryz.prog 79 #[E (i : Nat), PT w0.heap.size, PT (w0.heap.size + 5), PT (w0.heap.size + 1), PT (w0.heap.size + 3), PT (w0.heap.size + 4), PT (w0.heap.size + 2)] w fun e w' => e = .returned (.tuple #[]) ∧ NW w0 v (f s) w' ∧ Kp w0 w w'
theorem num_leaf (w0 w : World) (b0 o0 L c i : Nat) (s : NSt) (hi : (i : Int) < (L : Int)) (n : Nd) (h4 : (n.k == 4) = false) (h5 : (n.k == 5) = false) (h6 : (n.k == 6) = false) (h7 : (n.k == 7) = false) (h8 : (n.k == 8) = false) (hN : NW w0 (.slice (some ⟨b0, o0, none⟩) L c) s w) (hq : NCell w b0 (o0 + i * 10) n) :
  Wlk w0 (.slice (some ⟨b0, o0, none⟩) L c) i (fun s => s) s w := by
 (have hi0 : (0 : Int) ≤ (i : Int) := by omega);have HN0 := Lib.hid hN;clear hN;obtain ⟨⟨c0, c1, c2, c3, c5⟩, cf1, cf2, cf3⟩ := HN0.out.cells;obtain ⟨q0, q1, q2, q3, q4, q5, q6, q7, q8, q9⟩ := hq;have HN1 := Lib.hid (NN.new HN0.out n);have HK1 := Lib.hid ((Kp.refl w0 w).alloc (.cells (NC n) 55));obtain ⟨⟨d0, d1, d2, d3, d5⟩, df1, df2, df3⟩ := HN1.out.nw.cells; obtain ⟨r0, r1, r2, r3, r4, r5, r6, r7, r8, r9, _⟩ := HN1.out.node;go_enter Tryz.func79, Tryz.ntmps79;go_wp2;go_end0;exact ⟨rfl, HN1.out.nw, HK1.out⟩
theorem num_4 (w0 w : World) (b0 o0 L c i : Nat) (s : NSt) (hi : (i : Int) < (L : Int)) (z : List Nat) (a b : Nat) (mn mx m : Int) (fa fb : NSt → NSt) (HXa : Hid (∀ w, NW w0 (.slice (some ⟨b0, o0, none⟩) L c) (s) w → Wlk w0 (.slice (some ⟨b0, o0, none⟩) L c) a fa (s) w)) (HXb : Hid (∀ w, NW w0 (.slice (some ⟨b0, o0, none⟩) L c) (fa s) w → Wlk w0 (.slice (some ⟨b0, o0, none⟩) L c) b fb (fa s) w)) (hN : NW w0 (.slice (some ⟨b0, o0, none⟩) L c) s w) (hq : NCell w b0 (o0 + i * 10) ⟨4, z, (a : Nat), (b : Nat), mn, mx, m⟩) :
  Wlk w0 (.slice (some ⟨b0, o0, none⟩) L c) i (fun s => fb (fa s)) s w := by
 (have hi0 : (0 : Int) ≤ (i : Int) := by omega);have HN0 := Lib.hid hN;clear hN;obtain ⟨⟨c0, c1, c2, c3, c5⟩, cf1, cf2, cf3⟩ := HN0.out.cells;obtain ⟨q0, q1, q2, q3, q4, q5, q6, q7, q8, q9⟩ := hq;have HN1 := Lib.hid (NN.new HN0.out ⟨4, z, (a : Nat), (b : Nat), mn, mx, m⟩);have HK1 := Lib.hid ((Kp.refl w0 w).alloc (.cells (NC ⟨4, z, (a : Nat), (b : Nat), mn, mx, m⟩) 55));obtain ⟨⟨d0, d1, d2, d3, d5⟩, df1, df2, df3⟩ := HN1.out.nw.cells; obtain ⟨r0, r1, r2, r3, r4, r5, r6, r7, r8, r9, _⟩ := HN1.out.node;go_enter Tryz.func79, Tryz.ntmps79;go_wp2_with (first
  | (go_at_call 79; refine (HXa.out _ HN1.out.nw).mono ?_; rintro e w2 ⟨rfl, hn, hk⟩; have HN2 := Lib.hid (HN1.out.step hn hk); have HK2 := Lib.hid (HK1.out.trans hk); clear hn hk HXa; obtain ⟨⟨e0, e1, e2, e3, e5⟩, ef1, ef2, ef3⟩ := HN2.out.nw.cells; obtain ⟨t0, t1, t2, t3, t4, t5, t6, t7, t8, t9, _⟩ := HN2.out.node)
  | (go_at_call 79; refine (HXb.out _ HN2.out.nw).mono ?_; rintro e w3 ⟨rfl, hn, hk⟩; have HN3 := Lib.hid (HN2.out.step hn hk); have HK3 := Lib.hid (HK2.out.trans hk); clear hn hk HXb; obtain ⟨⟨f0, f1, f2, f3, f5⟩, ff1, ff2, ff3⟩ := HN3.out.nw.cells; obtain ⟨u0, u1, u2, u3, u4, u5, u6, u7, u8, u9, _⟩ := HN3.out.node))
 (all_goals go_end0);exact ⟨rfl, HN3.out.nw, HK3.out⟩
theorem num_5 (w0 w : World) (b0 o0 L c i : Nat) (s : NSt) (hi : (i : Int) < (L : Int)) (z : List Nat) (a b : Nat) (mn mx m : Int) (fa fb : NSt → NSt) (HXa : Hid (∀ w, NW w0 (.slice (some ⟨b0, o0, none⟩) L c) (s) w → Wlk w0 (.slice (some ⟨b0, o0, none⟩) L c) a fa (s) w)) (HXb : Hid (∀ w, NW w0 (.slice (some ⟨b0, o0, none⟩) L c) (fa s) w → Wlk w0 (.slice (some ⟨b0, o0, none⟩) L c) b fb (fa s) w)) (hN : NW w0 (.slice (some ⟨b0, o0, none⟩) L c) s w) (hq : NCell w b0 (o0 + i * 10) ⟨5, z, (a : Nat), (b : Nat), mn, mx, m⟩) :
  Wlk w0 (.slice (some ⟨b0, o0, none⟩) L c) i (fun s => fb (fa s)) s w := by
 (have hi0 : (0 : Int) ≤ (i : Int) := by omega);have HN0 := Lib.hid hN;clear hN;obtain ⟨⟨c0, c1, c2, c3, c5⟩, cf1, cf2, cf3⟩ := HN0.out.cells;obtain ⟨q0, q1, q2, q3, q4, q5, q6, q7, q8, q9⟩ := hq;have HN1 := Lib.hid (NN.new HN0.out ⟨5, z, (a : Nat), (b : Nat), mn, mx, m⟩);have HK1 := Lib.hid ((Kp.refl w0 w).alloc (.cells (NC ⟨5, z, (a : Nat), (b : Nat), mn, mx, m⟩) 55));obtain ⟨⟨d0, d1, d2, d3, d5⟩, df1, df2, df3⟩ := HN1.out.nw.cells; obtain ⟨r0, r1, r2, r3, r4, r5, r6, r7, r8, r9, _⟩ := HN1.out.node;go_enter Tryz.func79, Tryz.ntmps79;go_wp2_with (first
  | (go_at_call 79; refine (HXa.out _ HN1.out.nw).mono ?_; rintro e w2 ⟨rfl, hn, hk⟩; have HN2 := Lib.hid (HN1.out.step hn hk); have HK2 := Lib.hid (HK1.out.trans hk); clear hn hk HXa; obtain ⟨⟨e0, e1, e2, e3, e5⟩, ef1, ef2, ef3⟩ := HN2.out.nw.cells; obtain ⟨t0, t1, t2, t3, t4, t5, t6, t7, t8, t9, _⟩ := HN2.out.node)
  | (go_at_call 79; refine (HXb.out _ HN2.out.nw).mono ?_; rintro e w3 ⟨rfl, hn, hk⟩; have HN3 := Lib.hid (HN2.out.step hn hk); have HK3 := Lib.hid (HK2.out.trans hk); clear hn hk HXb; obtain ⟨⟨f0, f1, f2, f3, f5⟩, ff1, ff2, ff3⟩ := HN3.out.nw.cells; obtain ⟨u0, u1, u2, u3, u4, u5, u6, u7, u8, u9, _⟩ := HN3.out.node))
 (all_goals go_end0);exact ⟨rfl, HN3.out.nw, HK3.out⟩
theorem num_6 (w0 w : World) (b0 o0 L c i : Nat) (s : NSt) (hi : (i : Int) < (L : Int)) (z : List Nat) (a : Nat) (b mn mx m : Int) (fa : NSt → NSt) (HXa : Hid (∀ w, NW w0 (.slice (some ⟨b0, o0, none⟩) L c) (s) w → Wlk w0 (.slice (some ⟨b0, o0, none⟩) L c) a fa (s) w)) (hN : NW w0 (.slice (some ⟨b0, o0, none⟩) L c) s w) (hq : NCell w b0 (o0 + i * 10) ⟨6, z, (a : Nat), b, mn, mx, m⟩) :
  Wlk w0 (.slice (some ⟨b0, o0, none⟩) L c) i (fun s => fa s) s w := by
 (have hi0 : (0 : Int) ≤ (i : Int) := by omega);have HN0 := Lib.hid hN;clear hN;obtain ⟨⟨c0, c1, c2, c3, c5⟩, cf1, cf2, cf3⟩ := HN0.out.cells;obtain ⟨q0, q1, q2, q3, q4, q5, q6, q7, q8, q9⟩ := hq;have HN1 := Lib.hid (NN.new HN0.out ⟨6, z, (a : Nat), b, mn, mx, m⟩);have HK1 := Lib.hid ((Kp.refl w0 w).alloc (.cells (NC ⟨6, z, (a : Nat), b, mn, mx, m⟩) 55));obtain ⟨⟨d0, d1, d2, d3, d5⟩, df1, df2, df3⟩ := HN1.out.nw.cells; obtain ⟨r0, r1, r2, r3, r4, r5, r6, r7, r8, r9, _⟩ := HN1.out.node;go_enter Tryz.func79, Tryz.ntmps79;go_wp2_with (go_at_call 79; refine (HXa.out _ HN1.out.nw).mono ?_; rintro e w2 ⟨rfl, hn, hk⟩; have HN2 := Lib.hid (HN1.out.step hn hk); have HK2 := Lib.hid (HK1.out.trans hk); clear hn hk HXa; obtain ⟨⟨e0, e1, e2, e3, e5⟩, ef1, ef2, ef3⟩ := HN2.out.nw.cells; obtain ⟨t0, t1, t2, t3, t4, t5, t6, t7, t8, t9, _⟩ := HN2.out.node);go_end0;exact ⟨rfl, HN2.out.nw, HK2.out⟩
theorem num_7f (w0 w : World) (b0 o0 L c i : Nat) (s : NSt) (hi : (i : Int) < (L : Int)) (z : List Nat) (a m : Nat) (b mn mx : Int) (fa : NSt → NSt) (hm10 : m < 10) (hg0 : 0 ≤ s.g) (hg1 : s.g ≤ 1000) (hok : s.ok = false) (HXa : Hid (∀ w, NW w0 (.slice (some ⟨b0, o0, none⟩) L c) (⟨s.g + 1, s.e, s.r, false⟩) w → Wlk w0 (.slice (some ⟨b0, o0, none⟩) L c) a fa (⟨s.g + 1, s.e, s.r, false⟩) w)) (hN : NW w0 (.slice (some ⟨b0, o0, none⟩) L c) s w) (hq : NCell w b0 (o0 + i * 10) ⟨7, z, (a : Nat), b, mn, mx, (m : Nat)⟩) :
  Wlk w0 (.slice (some ⟨b0, o0, none⟩) L c) i (fun s => ⟨(fa ⟨s.g + 1, s.e, s.r, false⟩).g, (fa ⟨s.g + 1, s.e, s.r, false⟩).e.set m true, (fa ⟨s.g + 1, s.e, s.r, false⟩).r, (fa ⟨s.g + 1, s.e, s.r, false⟩).ok⟩) s w := by
 (have hi0 : (0 : Int) ≤ (i : Int) := by omega);have HN0 := Lib.hid hN;clear hN;obtain ⟨⟨c0, c1, c2, c3, c5⟩, cf1, cf2, cf3⟩ := HN0.out.cells;obtain ⟨q0, q1, q2, q3, q4, q5, q6, q7, q8, q9⟩ := hq;(have hw1 : IntKind.i64.wrap (s.g + 1) = s.g + 1 := by rw [IntKind.wrap_i64]; omega);(have hm0 : (0 : Int) ≤ (m : Int) := by omega);(have hm10' : (m : Int) < 10 := by omega);have HN1 := Lib.hid (NN.new HN0.out ⟨7, z, (a : Nat), b, mn, mx, (m : Nat)⟩);have HK1 := Lib.hid ((Kp.refl w0 w).alloc (.cells (NC ⟨7, z, (a : Nat), b, mn, mx, (m : Nat)⟩) 55));obtain ⟨⟨d0, d1, d2, d3, d5⟩, df1, df2, df3⟩ := HN1.out.nw.cells; obtain ⟨r0, r1, r2, r3, r4, r5, r6, r7, r8, r9, _⟩ := HN1.out.node;have HN2 := Lib.hid (HN1.out.setG (s.g + 1));have HK2 := Lib.hid (HK1.out.set (k := w0.heap.size + 1) (by omega) 0 (E (s.g + 1)));obtain ⟨⟨e0, e1, e2, e3, e5⟩, ef1, ef2, ef3⟩ := HN2.out.nw.cells; obtain ⟨t0, t1, t2, t3, t4, t5, t6, t7, t8, t9, _⟩ := HN2.out.node;have HN3 := Lib.hid (HN2.out.setO false);have HK3 := Lib.hid (HK2.out.set (k := w0.heap.size + 3) (by omega) 0 (.bool false));obtain ⟨⟨f0, f1, f2, f3, f5⟩, ff1, ff2, ff3⟩ := HN3.out.nw.cells; obtain ⟨u0, u1, u2, u3, u4, u5, u6, u7, u8, u9, _⟩ := HN3.out.node;dsimp only at e0 e1 e2 e3 e5 f0 f1 f2 f3 f5;rw [hok] at c3 d3 e3;clear hok;go_enter Tryz.func79, Tryz.ntmps79;go_wp2_with (go_at_call 79; refine (HXa.out _ HN3.out.nw).mono ?_; rintro e w4 ⟨rfl, hn, hk⟩; have HN4 := Lib.hid (HN3.out.step hn hk); have HK4 := Lib.hid (HK3.out.trans hk); clear hn hk HXa; obtain ⟨⟨g0, g1, g2, g3, g5⟩, gf1, gf2, gf3⟩ := HN4.out.nw.cells; obtain ⟨v0, v1, v2, v3, v4, v5, v6, v7, v8, v9, _⟩ := HN4.out.node; obtain ⟨gc, gf⟩ := HN4.out.nw.ended hm10);go_end0;exact ⟨rfl, (HN4.out.setE m).nw, HK4.out.set (by omega) _ _⟩
theorem num_7t (w0 w : World) (b0 o0 L c i : Nat) (s : NSt) (hi : (i : Int) < (L : Int)) (z : List Nat) (a m : Nat) (b mn mx : Int) (fa : NSt → NSt) (hm10 : m < 10) (hg0 : 0 ≤ s.g) (hg1 : s.g ≤ 1000) (hok : s.ok = true) (hm : ((m : Int) == s.g + 1) = true) (HXa : Hid (∀ w, NW w0 (.slice (some ⟨b0, o0, none⟩) L c) (⟨s.g + 1, s.e, s.r, true⟩) w → Wlk w0 (.slice (some ⟨b0, o0, none⟩) L c) a fa (⟨s.g + 1, s.e, s.r, true⟩) w)) (hN : NW w0 (.slice (some ⟨b0, o0, none⟩) L c) s w) (hq : NCell w b0 (o0 + i * 10) ⟨7, z, (a : Nat), b, mn, mx, (m : Nat)⟩) :
  Wlk w0 (.slice (some ⟨b0, o0, none⟩) L c) i (fun s => ⟨(fa ⟨s.g + 1, s.e, s.r, true⟩).g, (fa ⟨s.g + 1, s.e, s.r, true⟩).e.set m true, (fa ⟨s.g + 1, s.e, s.r, true⟩).r, (fa ⟨s.g + 1, s.e, s.r, true⟩).ok⟩) s w := by
 (have hi0 : (0 : Int) ≤ (i : Int) := by omega);have HN0 := Lib.hid hN;clear hN;obtain ⟨⟨c0, c1, c2, c3, c5⟩, cf1, cf2, cf3⟩ := HN0.out.cells;obtain ⟨q0, q1, q2, q3, q4, q5, q6, q7, q8, q9⟩ := hq;(have hw1 : IntKind.i64.wrap (s.g + 1) = s.g + 1 := by rw [IntKind.wrap_i64]; omega);(have hm0 : (0 : Int) ≤ (m : Int) := by omega);(have hm10' : (m : Int) < 10 := by omega);have HN1 := Lib.hid (NN.new HN0.out ⟨7, z, (a : Nat), b, mn, mx, (m : Nat)⟩);have HK1 := Lib.hid ((Kp.refl w0 w).alloc (.cells (NC ⟨7, z, (a : Nat), b, mn, mx, (m : Nat)⟩) 55));obtain ⟨⟨d0, d1, d2, d3, d5⟩, df1, df2, df3⟩ := HN1.out.nw.cells; obtain ⟨r0, r1, r2, r3, r4, r5, r6, r7, r8, r9, _⟩ := HN1.out.node;have HN2 := Lib.hid (HN1.out.setG (s.g + 1));have HK2 := Lib.hid (HK1.out.set (k := w0.heap.size + 1) (by omega) 0 (E (s.g + 1)));obtain ⟨⟨e0, e1, e2, e3, e5⟩, ef1, ef2, ef3⟩ := HN2.out.nw.cells; obtain ⟨t0, t1, t2, t3, t4, t5, t6, t7, t8, t9, _⟩ := HN2.out.node;have HN3 := Lib.hid (HN2.out.setO true);have HK3 := Lib.hid (HK2.out.set (k := w0.heap.size + 3) (by omega) 0 (.bool true));obtain ⟨⟨f0, f1, f2, f3, f5⟩, ff1, ff2, ff3⟩ := HN3.out.nw.cells; obtain ⟨u0, u1, u2, u3, u4, u5, u6, u7, u8, u9, _⟩ := HN3.out.node;dsimp only at e0 e1 e2 e3 e5 f0 f1 f2 f3 f5;rw [hok] at c3 d3 e3;clear hok;go_enter Tryz.func79, Tryz.ntmps79;go_wp2_with (go_at_call 79; refine (HXa.out _ HN3.out.nw).mono ?_; rintro e w4 ⟨rfl, hn, hk⟩; have HN4 := Lib.hid (HN3.out.step hn hk); have HK4 := Lib.hid (HK3.out.trans hk); clear hn hk HXa; obtain ⟨⟨g0, g1, g2, g3, g5⟩, gf1, gf2, gf3⟩ := HN4.out.nw.cells; obtain ⟨v0, v1, v2, v3, v4, v5, v6, v7, v8, v9, _⟩ := HN4.out.node; obtain ⟨gc, gf⟩ := HN4.out.nw.ended hm10);go_end0;exact ⟨rfl, (HN4.out.setE m).nw, HK4.out.set (by omega) _ _⟩
theorem num_7n (w0 w : World) (b0 o0 L c i : Nat) (s : NSt) (hi : (i : Int) < (L : Int)) (z : List Nat) (a m : Nat) (b mn mx : Int) (fa : NSt → NSt) (hm10 : m < 10) (hg0 : 0 ≤ s.g) (hg1 : s.g ≤ 1000) (hok : s.ok = true) (hm : ((m : Int) == s.g + 1) = false) (HXa : Hid (∀ w, NW w0 (.slice (some ⟨b0, o0, none⟩) L c) (⟨s.g + 1, s.e, s.r, false⟩) w → Wlk w0 (.slice (some ⟨b0, o0, none⟩) L c) a fa (⟨s.g + 1, s.e, s.r, false⟩) w)) (hN : NW w0 (.slice (some ⟨b0, o0, none⟩) L c) s w) (hq : NCell w b0 (o0 + i * 10) ⟨7, z, (a : Nat), b, mn, mx, (m : Nat)⟩) :
  Wlk w0 (.slice (some ⟨b0, o0, none⟩) L c) i (fun s => ⟨(fa ⟨s.g + 1, s.e, s.r, false⟩).g, (fa ⟨s.g + 1, s.e, s.r, false⟩).e.set m true, (fa ⟨s.g + 1, s.e, s.r, false⟩).r, (fa ⟨s.g + 1, s.e, s.r, false⟩).ok⟩) s w := by
 (have hi0 : (0 : Int) ≤ (i : Int) := by omega);have HN0 := Lib.hid hN;clear hN;obtain ⟨⟨c0, c1, c2, c3, c5⟩, cf1, cf2, cf3⟩ := HN0.out.cells;obtain ⟨q0, q1, q2, q3, q4, q5, q6, q7, q8, q9⟩ := hq;(have hw1 : IntKind.i64.wrap (s.g + 1) = s.g + 1 := by rw [IntKind.wrap_i64]; omega);(have hm0 : (0 : Int) ≤ (m : Int) := by omega);(have hm10' : (m : Int) < 10 := by omega);have HN1 := Lib.hid (NN.new HN0.out ⟨7, z, (a : Nat), b, mn, mx, (m : Nat)⟩);have HK1 := Lib.hid ((Kp.refl w0 w).alloc (.cells (NC ⟨7, z, (a : Nat), b, mn, mx, (m : Nat)⟩) 55));obtain ⟨⟨d0, d1, d2, d3, d5⟩, df1, df2, df3⟩ := HN1.out.nw.cells; obtain ⟨r0, r1, r2, r3, r4, r5, r6, r7, r8, r9, _⟩ := HN1.out.node;have HN2 := Lib.hid (HN1.out.setG (s.g + 1));have HK2 := Lib.hid (HK1.out.set (k := w0.heap.size + 1) (by omega) 0 (E (s.g + 1)));obtain ⟨⟨e0, e1, e2, e3, e5⟩, ef1, ef2, ef3⟩ := HN2.out.nw.cells; obtain ⟨t0, t1, t2, t3, t4, t5, t6, t7, t8, t9, _⟩ := HN2.out.node;have HN3 := Lib.hid (HN2.out.setO false);have HK3 := Lib.hid (HK2.out.set (k := w0.heap.size + 3) (by omega) 0 (.bool false));obtain ⟨⟨f0, f1, f2, f3, f5⟩, ff1, ff2, ff3⟩ := HN3.out.nw.cells; obtain ⟨u0, u1, u2, u3, u4, u5, u6, u7, u8, u9, _⟩ := HN3.out.node;dsimp only at e0 e1 e2 e3 e5 f0 f1 f2 f3 f5;rw [hok] at c3 d3 e3;clear hok;go_enter Tryz.func79, Tryz.ntmps79;go_wp2_with (go_at_call 79; refine (HXa.out _ HN3.out.nw).mono ?_; rintro e w4 ⟨rfl, hn, hk⟩; have HN4 := Lib.hid (HN3.out.step hn hk); have HK4 := Lib.hid (HK3.out.trans hk); clear hn hk HXa; obtain ⟨⟨g0, g1, g2, g3, g5⟩, gf1, gf2, gf3⟩ := HN4.out.nw.cells; obtain ⟨v0, v1, v2, v3, v4, v5, v6, v7, v8, v9, _⟩ := HN4.out.node; obtain ⟨gc, gf⟩ := HN4.out.nw.ended hm10);go_end0;exact ⟨rfl, (HN4.out.setE m).nw, HK4.out.set (by omega) _ _⟩
theorem num_8f (w0 w : World) (b0 o0 L c i : Nat) (s : NSt) (hi : (i : Int) < (L : Int)) (z : List Nat) (m : Nat) (a b mn mx : Int) (hm10 : m < 10) (hok : s.ok = false) (hN : NW w0 (.slice (some ⟨b0, o0, none⟩) L c) s w) (hq : NCell w b0 (o0 + i * 10) ⟨8, z, a, b, mn, mx, (m : Nat)⟩) :
  Wlk w0 (.slice (some ⟨b0, o0, none⟩) L c) i (fun s => ⟨s.g, s.e, true, false⟩) s w := by
 (have hi0 : (0 : Int) ≤ (i : Int) := by omega);have HN0 := Lib.hid hN;clear hN;obtain ⟨⟨c0, c1, c2, c3, c5⟩, cf1, cf2, cf3⟩ := HN0.out.cells;obtain ⟨q0, q1, q2, q3, q4, q5, q6, q7, q8, q9⟩ := hq;(have hm0 : (0 : Int) ≤ (m : Int) := by omega);(have hm10' : (m : Int) < 10 := by omega);have HN1 := Lib.hid (NN.new HN0.out ⟨8, z, a, b, mn, mx, (m : Nat)⟩);have HK1 := Lib.hid ((Kp.refl w0 w).alloc (.cells (NC ⟨8, z, a, b, mn, mx, (m : Nat)⟩) 55));obtain ⟨⟨d0, d1, d2, d3, d5⟩, df1, df2, df3⟩ := HN1.out.nw.cells; obtain ⟨r0, r1, r2, r3, r4, r5, r6, r7, r8, r9, _⟩ := HN1.out.node;have HN2 := Lib.hid (HN1.out.setR true);have HK2 := Lib.hid (HK1.out.set (k := w0.heap.size + 2) (by omega) 0 (.bool true));obtain ⟨⟨e0, e1, e2, e3, e5⟩, ef1, ef2, ef3⟩ := HN2.out.nw.cells; obtain ⟨t0, t1, t2, t3, t4, t5, t6, t7, t8, t9, _⟩ := HN2.out.node;obtain ⟨gc, gf⟩ := HN2.out.nw.ended hm10;dsimp only at e0 e1 e2 e3 e5 gc;rw [hok] at c3 d3 e3;generalize hx : (s.e[m]?).getD false = x at gc;have HN3 := Lib.hid (HN2.out.setO false);have HK3 := Lib.hid (HK2.out.set (k := w0.heap.size + 3) (by omega) 0 (.bool false));clear hok;go_enter Tryz.func79, Tryz.ntmps79;go_wp2;go_end0;exact ⟨rfl, HN3.out.nw, HK3.out⟩
theorem num_8t (w0 w : World) (b0 o0 L c i : Nat) (s : NSt) (hi : (i : Int) < (L : Int)) (z : List Nat) (m : Nat) (a b mn mx : Int) (hm10 : m < 10) (hok : s.ok = true) (hN : NW w0 (.slice (some ⟨b0, o0, none⟩) L c) s w) (hq : NCell w b0 (o0 + i * 10) ⟨8, z, a, b, mn, mx, (m : Nat)⟩) :
  Wlk w0 (.slice (some ⟨b0, o0, none⟩) L c) i (fun s => ⟨s.g, s.e, true, ((s.e[m]?).getD false)⟩) s w := by
 (have hi0 : (0 : Int) ≤ (i : Int) := by omega);have HN0 := Lib.hid hN;clear hN;obtain ⟨⟨c0, c1, c2, c3, c5⟩, cf1, cf2, cf3⟩ := HN0.out.cells;obtain ⟨q0, q1, q2, q3, q4, q5, q6, q7, q8, q9⟩ := hq;(have hm0 : (0 : Int) ≤ (m : Int) := by omega);(have hm10' : (m : Int) < 10 := by omega);have HN1 := Lib.hid (NN.new HN0.out ⟨8, z, a, b, mn, mx, (m : Nat)⟩);have HK1 := Lib.hid ((Kp.refl w0 w).alloc (.cells (NC ⟨8, z, a, b, mn, mx, (m : Nat)⟩) 55));obtain ⟨⟨d0, d1, d2, d3, d5⟩, df1, df2, df3⟩ := HN1.out.nw.cells; obtain ⟨r0, r1, r2, r3, r4, r5, r6, r7, r8, r9, _⟩ := HN1.out.node;have HN2 := Lib.hid (HN1.out.setR true);have HK2 := Lib.hid (HK1.out.set (k := w0.heap.size + 2) (by omega) 0 (.bool true));obtain ⟨⟨e0, e1, e2, e3, e5⟩, ef1, ef2, ef3⟩ := HN2.out.nw.cells; obtain ⟨t0, t1, t2, t3, t4, t5, t6, t7, t8, t9, _⟩ := HN2.out.node;obtain ⟨gc, gf⟩ := HN2.out.nw.ended hm10;dsimp only at e0 e1 e2 e3 e5 gc;rw [hok] at c3 d3 e3;generalize hx : (s.e[m]?).getD false = x at gc;have HN3 := Lib.hid (HN2.out.setO x);have HK3 := Lib.hid (HK2.out.set (k := w0.heap.size + 3) (by omega) 0 (.bool x));clear hok;go_enter Tryz.func79, Tryz.ntmps79;go_wp2;go_end0;exact ⟨rfl, by subst hx; exact HN3.out.nw, HK3.out⟩
open Go.Proofs.YtlicoffnjphphaaGreatDoor.St (Wf word zeroW Tab)
open Go.Proofs.YtlicoffnjphphaaGreatDoor.Ad (cutB atoiV)
abbrev RV (r : Rd) (v : Value) : Array Value := #[S r.rest, v, E r.g, .bool r.bad]
structure RW (w0 : World) (b : Nat) (r : Rd) (v : Value) (w : World) : Prop where
 rd : w.heap[b]? = some (.cells (RV r v) 88 (0, 0))
 own : w.ownsRow w0.heap.size 55 10 v r.l.length (flat r.l)
 ne : v.ownBlock ≠ some b
 base : w0.heap.size ≤ b
 bel : Below w0.heap.size w0 w
/-- What is kept but for the reader and its nodes. -/
structure Kr (b : Nat) (w : World) (v : Value) (w' : World) (v' : Value) : Prop where
 size : w.heap.size ≤ w'.heap.size
 far : ∀ k, k < w.heap.size → k ≠ b → v.ownBlock ≠ some k → w'.heap[k]? = w.heap[k]? ∧ v'.ownBlock ≠ some k
theorem Kr.refl (b : Nat) (w : World) (v : Value) : Kr b w v w v := ⟨Nat.le_refl _, fun _ _ _ h => ⟨rfl, h⟩⟩
theorem Kr.trans {b : Nat} {w1 w2 w3 : World} {v1 v2 v3 : Value} (h : Kr b w1 v1 w2 v2) (k : Kr b w2 v2 w3 v3) : Kr b w1 v1 w3 v3 :=
 ⟨Nat.le_trans h.size k.size, fun i h1 h2 h3 => by
  obtain ⟨e1, e2⟩ := h.far i h1 h2 h3;obtain ⟨e3, e4⟩ := k.far i (Nat.lt_of_lt_of_le h1 h.size) h2 e2;exact ⟨e3.trans e1, e4⟩⟩
theorem Kr.below {b : Nat} {w1 w2 w3 : World} {v1 v2 : Value} (h : Kr b w1 v1 w2 v2) (hb : Below w2.heap.size w2 w3) : Kr b w1 v1 w3 v2 :=
 h.trans ⟨hb.size, fun i h1 _ h3 => ⟨hb.block i h1, h3⟩⟩
theorem Kr.set {b : Nat} {w1 w2 : World} {v1 v2 : Value} (h : Kr b w1 v1 w2 v2) (i : Nat) (u : Value) : Kr b w1 v1 (w2.setCell ⟨b, i, none⟩ u) v2 :=
 h.trans ⟨by simp, fun k h1 h2 h3 => ⟨Below.heap_setCell w2 ⟨b, i, none⟩ u k h2, h3⟩⟩
theorem RW.lt {w0 w : World} {b : Nat} {r : Rd} {v : Value} (h : RW w0 b r v w) : b < w.heap.size := lt_heap' h.rd
theorem RW.below {w0 w w' : World} {b : Nat} {r : Rd} {v : Value} (h : RW w0 b r v w) (hb : Below w.heap.size w w') : RW w0 b r v w' :=
 ⟨(hb.block b h.lt).trans h.rd, own_below h.own hb, h.ne, h.base, h.bel.trans (hb.mono h.bel.size)⟩
theorem RW.lay {w0 w : World} {b : Nat} {r : Rd} {v : Value} (h : RW w0 b r v w) (hL : Lay w0) : Lay w := hL.below h.bel
theorem RW.cells {w0 w : World} {b : Nat} {r : Rd} {v : Value} (h : RW w0 b r v w) :
  (w.cell? ⟨b, 0, none⟩ = some (S r.rest) ∧ w.cell? ⟨b, 1, none⟩ = some v ∧ w.cell? ⟨b, 2, none⟩ = some (E r.g) ∧ w.cell? ⟨b, 3, none⟩ = some (.bool r.bad)) ∧
  (w.frozen? ⟨b, 0, none⟩ = false ∧ w.frozen? ⟨b, 1, none⟩ = false ∧ w.frozen? ⟨b, 2, none⟩ = false ∧ w.frozen? ⟨b, 3, none⟩ = false) := by
 have h1 := h.rd;exact ⟨⟨(Lib.cell_of_heap h1 0).trans rfl, (Lib.cell_of_heap h1 1).trans rfl, (Lib.cell_of_heap h1 2).trans rfl, (Lib.cell_of_heap h1 3).trans rfl⟩, by simp [World.frozen?, h1], by simp [World.frozen?, h1], by simp [World.frozen?, h1], by simp [World.frozen?, h1]⟩
theorem RW.setRest {w0 w : World} {b : Nat} {r : Rd} {v : Value} (h : RW w0 b r v w) (x : List UInt8) : RW w0 b ⟨x, r.l, r.g, r.bad⟩ v (w.setCell ⟨b, 0, none⟩ (S x)) :=
 ⟨Go.Joins.block_setCell h.rd (i := 0) (S x), ownsRow_setCell_other h.own h.ne _, h.ne, h.base, h.bel.setCell h.base _⟩
theorem RW.setG {w0 w : World} {b : Nat} {r : Rd} {v : Value} (h : RW w0 b r v w) (x : Int) : RW w0 b ⟨r.rest, r.l, x, r.bad⟩ v (w.setCell ⟨b, 2, none⟩ (E x)) :=
 ⟨Go.Joins.block_setCell h.rd (i := 2) (E x), ownsRow_setCell_other h.own h.ne _, h.ne, h.base, h.bel.setCell h.base _⟩
theorem RW.setBad {w0 w : World} {b : Nat} {r : Rd} {v : Value} (h : RW w0 b r v w) (x : Bool) : RW w0 b ⟨r.rest, r.l, r.g, x⟩ v (w.setCell ⟨b, 3, none⟩ (.bool x)) :=
 ⟨Go.Joins.block_setCell h.rd (i := 3) (.bool x), ownsRow_setCell_other h.own h.ne _, h.ne, h.base, h.bel.setCell h.base _⟩
abbrev Rel (w0 : World) (b : Nat) (w : World) (v : Value) (r : Rd) (w' : World) : Prop := RW w0 b r v w' ∧ Kr b w v w' v
theorem until_any (w0 : World) (b : Nat) (r : Rd) (v : Value) (c : UInt8) (w : World) (h : RW w0 b r v w) (hl : r.rest.length ≤ 100000) :
  Calls Tryz.prog 80 #[PT b, S [c]] w fun e w' => e = .returned (S (untilP c r).2) ∧ Rel w0 b w v (untilP c r).1 w' := by
 obtain ⟨rest, l, g, bad⟩ := r;dsimp only at hl;have HC := Lib.hid (cut_any rest c w hl);obtain ⟨x, y, is, hcut⟩ : ∃ x y is, cutB c rest = (x, y, is) := ⟨_, _, _, rfl⟩;have HO := Lib.hid (show untilP c ⟨rest, l, g, bad⟩ = (⟨y, l, g, bad || !is⟩, x) from by unfold untilP; dsimp only; rw [hcut]);have HX := Lib.hid hcut;clear hcut;have HR0 := Lib.hid h;obtain ⟨⟨c0, c1, c2, c3⟩, f0, f1, f2, f3⟩ := HR0.out.cells;dsimp only at c0 c1 c2 c3;clear h;cases bad <;> cases is <;> (
 · go_enter Tryz.func80, Tryz.ntmps80;go_wp2_with (go_at_call 102; refine HC.out.mono ?_; rintro e w1 ⟨he, hb⟩; unfold CutR at he; rw [HX.out] at he; subst he; have HR1 := Lib.hid (HR0.out.below hb); have HK1 := Lib.hid ((Kr.refl b w v).below hb); clear hb; obtain ⟨⟨d0, d1, d2, d3⟩, g0, g1, g2, g3⟩ := HR1.out.cells; dsimp only at d0 d1 d2 d3);go_ret;refine ⟨by rw [HO.out]; rfl, ?_⟩;rw [HO.out];exact ⟨(HR1.out.setBad _).setRest _, (HK1.out.set _ _).set _ _⟩)
theorem until_rest (c : UInt8) (r : Rd) : (untilP c r).1.rest.length ≤ r.rest.length ∧ (untilP c r).2.length ≤ r.rest.length := by
 unfold untilP;rcases ibyte c r.rest with ⟨_, h2⟩ | ⟨k, _, _, h2⟩ <;> rw [h2] <;> simp;omega
theorem number_any (w0 : World) (b : Nat) (r : Rd) (v : Value) (c : UInt8) (w : World) (h : RW w0 b r v w) (hL : Lay w0) (hl : r.rest.length ≤ 100000) :
  Calls Tryz.prog 60 #[PT b, S [c]] w fun e w' => e = .returned (E (numP c r).2) ∧ Rel w0 b w v (numP c r).1 w' := by
 have HU := Lib.hid (until_any w0 b r v c w h hl);have hlen := until_rest c r;have HLL := Lib.hid hL;obtain ⟨y, l, g, bad, x, hu⟩ : ∃ y l g bad x, untilP c r = (⟨y, l, g, bad⟩, x) := ⟨_, _, _, _, _, rfl⟩;have hlg : l = r.l ∧ g = r.g := by
  have := congrArg Prod.fst hu;unfold untilP at this;simp only [Rd.mk.injEq] at this;exact ⟨this.2.1.symm, this.2.2.1.symm⟩
 rw [hu] at HU hlen;dsimp only at hlen;have HO := Lib.hid (show numP c r = (⟨y, l, g, bad || !atoiK x⟩, atoiV x) from by unfold numP; rw [hu]; rw [hlg.1, hlg.2]);clear hu h hL hlg;(have hx : x.length ≤ 100000 := by omega);have HA := Lib.hid (fun (W : World) (hW : Lay W) => atoi_any x W hW hx);cases bad <;> cases hk : atoiK x <;> (
 ·
  rw [hk] at HA HO;unfold ErrIs at HA;simp only [Bool.false_eq_true, if_false, if_true] at HA;clear hk;go_enter Tryz.func60, Tryz.ntmps60;go_wp2_with (first
   | (go_at_call 80; refine HU.out.mono ?_; rintro e w1 ⟨rfl, hr, hkr⟩; have HR1 := Lib.hid hr; have HK1 := Lib.hid hkr; clear hr hkr)
   | (go_at_call 84; refine (HA.out _ (HR1.out.lay HLL.out)).mono ?_; rintro e w2 ⟨ev, hev, rfl, hb⟩; (first | subst hev | (obtain ⟨te, pe, rfl⟩ := hev)); have HR2 := Lib.hid (HR1.out.below hb); have HK2 := Lib.hid (HK1.out.below hb); clear hb; obtain ⟨⟨d0, d1, d2, d3⟩, g0, g1, g2, g3⟩ := HR2.out.cells; dsimp only at d0 d1 d2 d3))
  go_ret;refine ⟨by rw [HO.out]; rfl, ?_⟩;rw [HO.out];exact ⟨HR2.out.setBad _, HK2.out.set _ _⟩)
end Go.Proofs.YtlicoffnjphphaaGreatDoor.Rx
namespace Go.Proofs.YtlicoffnjphphaaGreatDoor.St
open Go.RowKit Go.Shelf
attribute [local go_sem] Oper.semAt_some
theorem all_stops (n : Nat) (hn : 2 ≤ n) (B : Nat) (ws : List Nat) (w : World) (Kp : World → World → Prop) (hw : Wf ws) (hB : B < w.heap.size) (hg : 0 < w.heap.size) (hS : SB w B ws)
  (hT : ∀ W, Below w.heap.size w W → Tab W) (hKT : ∀ W W', Kp W W' → Tab W → Tab W') :
  SeqStopsK Fence.wide n Tryz.prog 109 #[.pointer (some ⟨B, 0, none⟩)] (fun x : UInt8 => #[.int .u8 (x.toNat : Int)]) Kp (fun xs => xs = bytesL ws) (fun _ => True) 256 w := fun l J Jx W hW hJ hJx hY h0 => by
 have hSW : SB W B ws := (hW.block B hB).trans hS;have hTW := hT W hW;have c0 := hSW.cell hw (i := 0) (by omega);have c1 := hSW.cell hw (i := 1) (by omega);have c2 := hSW.cell hw (i := 2) (by omega);have c3 := hSW.cell hw (i := 3) (by omega);clear hS hSW;refine callsIn_of_wp Tryz.func109 rfl trivial ?_ rfl;simp only [Tryz.ntmps109, List.size_toArray, List.length_cons, List.length_nil, Nat.reduceAdd, Nat.reduceSub, Array.replicate_succ, Array.replicate_zero, List.push_toArray, List.append_toArray, List.nil_append, List.cons_append];gi_wp2
 gi_loopw [3, 4, 6] (fun _ _ i wr => ∃ k : Nat, k ≤ 4 ∧ i = .int .i64 (k : Int) ∧ Tab wr ∧ ∃ pre : List UInt8, pre.map UInt8.toNat ++ tl ws k (4 - k) = bytesN ws ∧ J pre wr) (fun _ _ i _ => 4 - (intOf i).toNat)
 (case atStart => exact ⟨0, Nat.zero_le _, rfl, hTW, [], tl_four ws, h0⟩);case round =>
  obtain ⟨k, hk, rfl, hTr, pre, hpre, hJr⟩ := hrel;by_cases hlt : k < 4
  ·
   (have hI : (k : Int) < 4 := by omega);(have hi := fun w => idx_word ws hlt w);have HP := Lib.hid hpre;clear hpre;gi_wp2
   gi_loopw [4] (fun v wv => ∃ x : Nat, v = .int .u64 (x : Int) ∧ x < 2 ^ 64 ∧ Tab wv ∧ ∃ pre : List UInt8, pre.map UInt8.toNat ++ ((bl x).map (k * 64 + ·) ++ tl ws (k + 1) (4 - (k + 1))) = bytesN ws ∧ J pre wv) (fun v _ => (bl (intOf v).toNat).length)
   (case atStart => exact ⟨word ws k, rfl, word_lt hw k, hTr, pre, by rw [← HP.out, show 4 - k = (4 - (k + 1)) + 1 from by omega, tl], hJr⟩);case round =>
    clear HP hTr hJr pre;obtain ⟨x, rfl, hx, hTv, pre, hpre, hJv⟩ := hrel;have HP := Lib.hid hpre;clear hpre;by_cases hx0 : x = 0
    · subst hx0;gi_wp2;go_roundw;(case rel => exact ⟨k + 1, by omega, by go_num, hTv, pre, by rw [← HP.out, bl_zero]; rfl, hJv⟩);case measure => simp [intOf]; omega
    ·
     obtain ⟨hstep, hc⟩ := bl_step hx hx0;have HST := Lib.hid hstep;have hlen : pre.length < 256 := by
      have := bytesN_len ws;have e := congrArg List.length HP.out;rw [hstep] at e;simp at e;omega
     (have hne : ((x : Int) != 0) = true := by simp; omega);(have htz := fun w => tz_any x hx hx0 w);clear hstep;generalize hcz : Lib.ctz 64 x = c at *;have hcz' := Lib.hid hcz;clear hcz;obtain ⟨fn, tmps, assign, body, hy, hR⟩ := hY pre (UInt8.ofNat (k * 64 + c)) _ hJv hlen;have hu := ofNat_toNat (n := k * 64 + c) (by omega);generalize UInt8.ofNat (k * 64 + c) = d at *;rw [show ((d.toNat : Nat) : Int) = (k : Int) * 64 + (c : Int) from by omega] at hy;have HU := Lib.hid hu;clear hu;gi_wp2;refine ⟨trivial, fun h => (by cases h), ?_⟩;refine (callsIn_wide.2 (htz _ hTv)).mono ?_;rintro e w' ⟨rfl, rfl⟩;gi_wp2;refine ⟨fun h => (by cases h), hR.mono ?_⟩;clear hy hR;rintro e W' (⟨rfl, hJ', hk'⟩ | ⟨rfl, hJx'⟩)
     ·
      gi_wp2;have hand : bits BinOp.and IntKind.u64 (x : Int) ((x : Int) - 1) = ((x &&& (x - 1) : Nat) : Int) := by
       rw [show ((x : Int) - 1) = ((x - 1 : Nat) : Int) from by omega];exact u64_and_nat _ _ hx (by omega)
      go_roundw;case rel =>
       refine ⟨x &&& (x - 1), by rw [hand], clear_lt hx, hKT _ _ hk' hTv, pre ++ [d], ?_, hJ'⟩;rw [← HP.out, HST.out]; simp [HU.out]
      case measure =>
       rw [hand];simp only [intOf, Int.toNat_natCast];rw [HST.out]; simp
     · gi_wp2;refine bodyPost_ret (results_none rfl _ _ _) rfl ?_;exact ⟨⟨_, rfl⟩, .inr ⟨_, trivial, hJx'⟩⟩
  · (have hk4 : k = 4 := by omega);subst hk4;have HP := Lib.hid hpre;clear hpre;gi_wp2;go_end0;exact ⟨⟨_, rfl⟩, .inl ⟨_, bytesL_of (by have := HP.out; simpa [tl] using this), hJr⟩⟩
attribute [local go_sem] Oper.semAt_some
theorem infoU8 : (Tryz.prog.info? 5).map (fun i => (i.zero, i.size, i.bytes)) = some (some (.int .u8 0), 1, 1) := by kernel_rfl
abbrev u8v (x : UInt8) : Value := .int .u8 (x.toNat : Int)
theorem append_any (B : Nat) (ws : List Nat) (w : World) (hw : Wf ws) (hB : B < w.heap.size) (hg : 0 < w.heap.size) (hS : SB w B ws) (hT : Tab w) :
  CallsIn Fence.wide 5 Tryz.prog 108 #[.slice none 0 0, .func (.func 109) #[] #[.pointer (some ⟨B, 0, none⟩)]] w fun e W' => ∃ v, e = .returned v ∧ W'.ownsRow w.heap.size 5 1 v (bytesL ws).length ((bytesL ws).map u8v) ∧ Below w.heap.size w W' := by
 obtain ⟨i0, hi, hz0, hz1, hz2⟩ := info_parts infoU8;refine callsIn_of_wp_marks Tryz.func108 rfl trivial ?_ rfl;simp only [Tryz.ntmps108, List.size_toArray, List.length_cons, List.length_nil, Nat.reduceAdd, Nat.reduceSub, Array.replicate_succ, Array.replicate_zero, List.push_toArray, List.append_toArray, List.nil_append, List.cons_append];have HS := Lib.hid hS;have HT := Lib.hid hT;clear hS hT;gi_wp2;have bO := Boxed.new w 107 (.slice none 0 0);have hB0 : Below w.heap.size w (w.alloc (.cells #[.slice none 0 0] 107)) := (Below.refl _ w).alloc (Nat.le_refl _) _;refine wpIn_rangeFunc_ownG rfl (by omega) (gf := 109) (lb := #[.pointer (some ⟨B, 0, none⟩)]) rfl trivial (enters_of Tryz.func109 (by kernel_rfl) rfl)
  (all_stops 4 (by omega) B ws _ (Below w.heap.size) hw (by simp; omega) (by simp <;> omega) ((hB0.block B hB).trans HS.out) (fun W hW => (HT.out.below hB0 hg).below hW (by simp <;> omega)) (fun W W' hK hT => hT.below hK hg)) belowK_t (belowK_b (by simp)) (Below.refl _ _) (fun _ => rfl)
  (fun (pre : List UInt8) W => (∃ v, Boxed W w.heap.size 107 v ∧ W.ownsRow w.heap.size 5 1 v pre.length (pre.map u8v) ∧ True) ∧ Below w.heap.size w W)
  (fun _ _ _ => False)
  (OwnFrom.and (Own.from (holdsRow_own w.heap.size w.heap.size 107 5 1 (fun (pre : List UInt8) => pre.length) (fun (pre : List UInt8) => pre.map u8v) (fun (pre : List UInt8) v => True)) _) (ownFrom_below (Nat.le_refl _) (by simp)))
  (fun _ _ _ _ _ hs _ _ => hs)
  ⟨⟨_, bO, World.ownsRow_nil _ _ _ _, trivial⟩, hB0⟩
  (fun (x : UInt8) => { tmps := #[.slice none 0 0, .func (.func 109) #[] #[.pointer (some ⟨B, 0, none⟩)], .pointer (some ⟨w.heap.size, 0, none⟩), undef, .slice none 0 0, u8v x, .func (.func 109) #[] #[.pointer (some ⟨B, 0, none⟩)], u8v x, undef, undef, undef, undef, undef], defers := [] }) ?assign ?body ?done ?stop
 case assign =>
  intro l x W K hK;gi_wp2;exact hK
 case body =>
  rintro l pre x W ⟨⟨v, hv, hrow, _⟩, hB⟩ hlt;have hc := hv.cell
  gi_wp2_with (gi_at_builtin; refine wpListIn_append_own _ rfl _ _ 107 rfl w.heap.size 5 i0 (.int .u8 0) 1 1 Tryz.underlying107 hi hz0 hz1 hz2 rfl (by decide) _ _ _ rfl (hrow.alloc _) ⟨W.heap.size, 0, none⟩ 1 1 [u8v x] rfl rfl (cell_one_new _ _ _) (by simp [Value.oneCell', u8v]) (Nat.le_trans hlt (by decide)) (by omega) (by have := hB.size; simp; omega) ?_; intro v' w1 hown' hgrow _; obtain ⟨g', cap', rfl⟩ := ownsRow_succ hown'; obtain ⟨hv1, hv2, hr2, hk2, hb2⟩ := hv.appended (by decide) hrow hB.size (Nat.le_refl _) hown' hgrow; have hc1 := hv1.cell; have hf1 := hv1.frozen)
  exact ⟨hk2.from _, hb2, ⟨_, hv2, by simpa using hr2, trivial⟩, hB.trans hb2⟩
 case done =>
  rintro D ys W hD rfl ⟨⟨v, hv, hrow, _⟩, hB⟩ hK;have hc := hv.cell;gi_wp2;refine ⟨by simp, .inl ⟨_, _, rfl, run_takeDeferred hK, ?_⟩⟩;exact ⟨_, results_tmp rfl _ _ _, v, rfl, ownsRow_putObj hrow _ hK rfl, hB.trans (belowK_b (w := w) (Nat.le_refl _) W D _ _ (by simp at hD; omega) hK rfl rfl)⟩
 case stop =>
  rintro D c pre W _ _ h _;exact h.elim
theorem own_string {w : World} {base : Nat} {v : Value} {ws : List Nat} (h : w.ownsRow base 5 1 v (bytesL ws).length ((bytesL ws).map u8v)) :
  (convert 107 9 v).run Tryz.prog w = .ok (.string ⟨(bytesL ws).toArray⟩) w := by
 obtain ⟨_, ⟨rfl, h0⟩ | ⟨g, cap, cur, rfl, _, hg, hc, _, hs, ht⟩⟩ := h
 · have hn : bytesL ws = [] := List.length_eq_zero_iff.1 h0;have := run_convert_bytes_nil (P := Tryz.prog) (w := w) 107 5 Tryz.underlying107 Tryz.underlying5 0 0 9 Tryz.underlying9;rw [this, hn]; rfl
 · refine run_convert_bytes_back (P := Tryz.prog) w 107 9 5 ⟨g, 0, none⟩ cap (bytesL ws) Tryz.underlying107 Tryz.underlying5 Tryz.underlying9 ?_;intro j hj;have h1 := congrArg (·[j]?) ht;simp only [Nat.mul_one, List.getElem?_take, hj, if_true, List.getElem?_map, Array.getElem?_toList] at h1;rw [List.getElem?_eq_getElem hj] at h1;rw [show (Addr.add ⟨g, 0, none⟩ j) = ⟨g, j, none⟩ from by simp [Addr.add]; exact Eq.symm, Lib.cell_of_heap hg];exact h1
theorem collect_any (B : Nat) (ws : List Nat) (w : World) (hw : Wf ws) (hB : B < w.heap.size) (hg : 0 < w.heap.size) (hS : SB w B ws) (hT : Tab w) :
  Calls Tryz.prog 90 #[.func (.func 109) #[] #[.pointer (some ⟨B, 0, none⟩)]] w fun e W' => ∃ v, e = .returned v ∧ W'.ownsRow w.heap.size 5 1 v (bytesL ws).length ((bytesL ws).map u8v) ∧ Below w.heap.size w W' := by
 have HA := callsIn_wide.1 (append_any B ws w hw hB hg hS hT);clear hS hT;go_enter Tryz.func90, Tryz.ntmps90;go_wp2_with (go_at_call 108; refine HA.mono ?_; rintro e w' ⟨v, rfl, ho, hb⟩);go_ret;exact ⟨_, rfl, ho, hb⟩
theorem bytes_any (ws : List Nat) (w : World) (hw : Wf ws) (hg : 0 < w.heap.size) (hT : Tab w) :
  Calls Tryz.prog 65 #[SV ws] w fun e w' => e = .returned (.string ⟨(bytesL ws).toArray⟩) ∧ Below w.heap.size w w' := by
 have g0 := word_get hw (i := 0) (by omega);have g1 := word_get hw (i := 1) (by omega);have g2 := word_get hw (i := 2) (by omega);have g3 := word_get hw (i := 3) (by omega);have HSV := Lib.hid (SV_eq hw);have HT := Lib.hid hT;clear hT;go_enter Tryz.func65, Tryz.ntmps65;go_wp2_with (first
  | (go_at_call 91; rw [← HSV.out]; refine (all_any ws _ hw).mono ?_; rintro e w' ⟨rfl, rfl⟩)
  | (go_at_call 90; refine (collect_any _ ws _ hw (by simp) (by simp <;> omega) (two_new w _ _).2 (HT.out.below (((Below.refl w.heap.size w).alloc (Nat.le_refl _) _).alloc (by simp) _) hg)).mono ?_; rintro e w1 ⟨v, rfl, ho, hb⟩; have hcv := own_string ho))
 go_ret;exact ⟨rfl, (((Below.refl w.heap.size w).alloc (Nat.le_refl _) _).alloc (by simp) _).trans (hb.mono (by simp; omega))⟩
attribute [local go_sem] Oper.semAt_some
theorem ls2 {w : World} {b : Nat} {s v : List Nat} {t : TypeId} {f : Nat × Nat} (h : w.heap[b]? = some (.cells #[.int .u64 (word s 0 : Int), .int .u64 (word s 1 : Int), .int .u64 (word s 2 : Int), .int .u64 (word s 3 : Int), .int .u64 (word v 0 : Int), .int .u64 (word v 1 : Int), .int .u64 (word v 2 : Int), .int .u64 (word v 3 : Int)] t f)) : Ls w b [s, v] := by
 intro k hk j hj;rw [Lib.cell_of_heap h]
 match k, hk, j, hj with
 | 0, _, 0, _ => rfl
 | 0, _, 1, _ => rfl
 | 0, _, 2, _ => rfl
 | 0, _, 3, _ => rfl
 | 1, _, 0, _ => rfl
 | 1, _, 1, _ => rfl
 | 1, _, 2, _ => rfl
 | 1, _, 3, _ => rfl
theorem wf_two {a b : List Nat} (ha : Wf a) (hb : Wf b) : ∀ v ∈ [a, b], Wf v := by
 intro v hv; simp at hv; rcases hv with rfl | rfl; exact ha; exact hb
open Go.RowKit
end Go.Proofs.YtlicoffnjphphaaGreatDoor.St
