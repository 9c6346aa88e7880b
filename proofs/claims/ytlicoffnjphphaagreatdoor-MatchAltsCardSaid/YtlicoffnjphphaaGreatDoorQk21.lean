/- The texts MtW MtL MtN MtO. -/
import Derived.Test.YtlicoffnjphphaaGreatDoorQk06
import Derived.Test.YtlicoffnjphphaaGreatDoorQk20
set_option linter.unusedVariables false
set_option linter.unusedSimpArgs false
set_option maxHeartbeats 3200000
set_option maxRecDepth 100000
namespace Go.Proofs.YtlicoffnjphphaaGreatDoor.Mt
open Go.RowKit Go.Shelf
open Go.Proofs.YtlicoffnjphphaaGreatDoor.Rx
open Go.Proofs.YtlicoffnjphphaaGreatDoor.Rx.Tr
open Go.Proofs.YtlicoffnjphphaaGreatDoor.St (Wf word mem SV SV_eq)
/-- What a try answers. -/
def FitAns (X : Par) (pr : Nat → Prop) (w : World) (r : Option Caps) (e : Ending) (w' : World) : Prop :=
 ∃ c' b, e = .returned (.tuple #[CV c', .bool b]) ∧ LeftOk X.N r c' b ∧ MM X pr w' ∧ Km X w w'
def FitOk (X : Par) (x : Tr) (ia : Nat) : Prop := ∀ (pr : Nat → Prop) (i j : Nat) (c : Caps) (w : World), i ≤ j → j ≤ X.N → CapsOk X.N c → MM X pr w →
 Calls Tryz.prog 47 #[PT X.bm, E (ia : Nat), E (i : Nat), E (j : Nat), CV c] w (FitAns X pr w (fitP X.T x i j c))
def LookOk (X : Par) (x : Tr) (ia : Nat) : Prop := ∀ (pr : Nat → Prop) (i j : Nat) (c : Caps) (w : World), i ≤ j → j ≤ X.N → CapsOk X.N c → MM X pr w →
 Calls Tryz.prog 69 #[PT X.bm, E (ia : Nat), E (i : Nat), E (j : Nat), CV c] w (FitAns X pr w (fitP X.T x i j c))
/-- The memory while a try is made: what groups have, and the answer's place. -/
structure TF (X : Par) (pr : Nat → Prop) (w : World) (c : Caps) (wr : World) : Prop where
 mm : MM X (Pv pr [w.heap.size + 1]) wr
 bx : wr.heap[w.heap.size]? = some (.cells (CC c) 27 (0, 0))
 rs : wr.heap[w.heap.size + 1]? = some (.cells CZ 27 (0, 0))
 km : Km X w wr
 base : X.w0.heap.size ≤ w.heap.size
theorem two_start {X : Par} {pr : Nat → Prop} {w : World} (hM : MM X pr w) (A B : Obj) : MM X (Pv pr [w.heap.size + 1]) ((w.alloc A).alloc B) ∧ Below w.heap.size w ((w.alloc A).alloc B) := by
 have hb := ((Below.refl w.heap.size w).alloc (Nat.le_refl _) A).alloc (by simp) B;(have hs : ((w.alloc A).alloc B).heap.size = w.heap.size + 2 := by simp);refine ⟨hM.hide ?_ hb ?_, hb⟩
 ·
  rintro k (q | q)
  · exact Or.inl q
  · simp only [List.mem_cons, List.not_mem_nil, or_false] at q;exact Or.inr (by omega)
 ·
  rintro k (q | q)
  · have := hM.lt k q; omega
  · simp only [List.mem_cons, List.not_mem_nil, or_false] at q;omega
theorem tf_start {X : Par} {pr : Nat → Prop} {w : World} (hM : MM X pr w) (c : Caps) : TF X pr w c ((w.alloc (.cells (CC c) 27)).alloc (.cells CZ 27)) := by
 obtain ⟨h1, h2⟩ := two_start hM (.cells (CC c) 27) (.cells CZ 27);exact ⟨h1, heap_alloc2_old _ _ _, heap_alloc2_new _ _ _, Km.of_below h2, hM.bel.size⟩
section
variable {X : Par} {pr : Nat → Prop} {w wr w' : World} {c : Caps}
theorem mm_keep {X : Par} {pr : Nat → Prop} {w w' : World} (h : MM X pr w) (hk : Km X w w') {k : Nat} {c : Array Value} {t : TypeId} {fr : Nat × Nat} (hc : w.heap[k]? = some (.cells c t fr)) : w'.heap[k]? = some (.cells c t fr) := by
 obtain ⟨es1, c1, a1, _⟩ := h.e1;obtain ⟨es2, c2, a2, _⟩ := h.e2;exact (hk.keep k (lt_heap' hc) (cells_map hc a1) (cells_map hc a2)).trans hc
theorem TF.call (h : TF X pr w c wr) (hm : MM X (Pv pr [w.heap.size + 1]) w') (hk : Km X wr w') : TF X pr w c w' :=
 ⟨hm, mm_keep h.mm hk h.bx, mm_keep h.mm hk h.rs, h.km.trans hk, h.base⟩
theorem TF.below (h : TF X pr w c wr) (hb : Below wr.heap.size wr w') : TF X pr w c w' := h.call (h.mm.below hb) (Km.of_below hb)
theorem cells_apart (h : MM X pr w) {B : Nat} {cs : Array Value} (hr : w.heap[B]? = some (.cells cs 27 (0, 0))) : B ≠ X.bm ∧ B ≠ X.b1 ∧ B ≠ X.b2 := by
 obtain ⟨es1, c1, a1, k1⟩ := h.e1;obtain ⟨es2, c2, a2, k2⟩ := h.e2;refine ⟨?_, cells_map hr a1, cells_map hr a2⟩;rintro rfl;have := h.hb.symm.trans hr;simp only [Option.some.injEq, Obj.cells.injEq] at this;exact absurd this.2.1 (by decide)
/-- The answer is laid. -/
theorem TF.ret (h : TF X pr w c wr) (a : Caps) : (wr.setRow (w.heap.size + 1) (CC a)).heap[w.heap.size + 1]? = some (.cells (CC a) 27 (0, 0)) ∧ MM X pr (wr.setRow (w.heap.size + 1) (CC a)) ∧ Km X w (wr.setRow (w.heap.size + 1) (CC a)) := by
 have ha := cells_apart h.mm h.rs;have hb := below_setRow (B := X.w0.heap.size) h.mm.bel (g := w.heap.size + 1) (by have := h.base; omega) (CC a);(have hk : ∀ k, k < wr.heap.size → k ≠ w.heap.size + 1 → (wr.setRow (w.heap.size + 1) (CC a)).heap[k]? = wr.heap[k]? := fun k _ hk => setRow_other _ _ _ _ hk);refine ⟨setRow_heap _ _ _ _ _ _ h.rs, (h.mm.own (B := w.heap.size + 1) (Or.inr (by simp)) (by have := h.base; omega) ha.1 ha.2.1 ha.2.2 (by simp) hk hb).mono fun k hk => Or.inl hk, ⟨by simpa using h.km.size, fun k h1 h2 h3 => (hk k (Nat.lt_of_lt_of_le h1 h.km.size) (by omega)).trans (h.km.keep k h1 h2 h3)⟩⟩
end
/-- The cells of what a try left. -/
abbrev LC (c : Caps) (b : Bool) : Array Value := #[capV (gr c 0), capV (gr c 1), capV (gr c 2), capV (gr c 3), capV (gr c 4), capV (gr c 5), capV (gr c 6), capV (gr c 7), capV (gr c 8), capV (gr c 9), .bool b]
abbrev LZ : Array Value := #[.complex .f64 0 0, .complex .f64 0 0, .complex .f64 0 0, .complex .f64 0 0, .complex .f64 0 0, .complex .f64 0 0, .complex .f64 0 0, .complex .f64 0 0, .complex .f64 0 0, .complex .f64 0 0, .bool false]
abbrev KC (n i j : Nat) (c : Caps) : Array Value := #[E (n : Nat), E (i : Nat), E (j : Nat), capV (gr c 0), capV (gr c 1), capV (gr c 2), capV (gr c 3), capV (gr c 4), capV (gr c 5), capV (gr c 6), capV (gr c 7), capV (gr c 8), capV (gr c 9)]
theorem cells13 {w : World} {g : Nat} {a0 a1 a2 a3 a4 a5 a6 a7 a8 a9 a10 a11 a12 : Value} {t : TypeId} {fr : Nat × Nat} (h : w.heap[g]? = some (.cells #[a0, a1, a2, a3, a4, a5, a6, a7, a8, a9, a10, a11, a12] t fr)) :
  w.cell? ⟨g, 0, none⟩ = some a0 ∧ w.cell? ⟨g, 1, none⟩ = some a1 ∧ w.cell? ⟨g, 2, none⟩ = some a2 ∧ w.cell? ⟨g, 3, none⟩ = some a3 ∧ w.cell? ⟨g, 4, none⟩ = some a4 ∧ w.cell? ⟨g, 5, none⟩ = some a5 ∧ w.cell? ⟨g, 6, none⟩ = some a6 ∧ w.cell? ⟨g, 7, none⟩ = some a7 ∧ w.cell? ⟨g, 8, none⟩ = some a8 ∧ w.cell? ⟨g, 9, none⟩ = some a9 ∧ w.cell? ⟨g, 10, none⟩ = some a10 ∧ w.cell? ⟨g, 11, none⟩ = some a11 ∧ w.cell? ⟨g, 12, none⟩ = some a12 :=
 ⟨Lib.cell_of_heap h 0, Lib.cell_of_heap h 1, Lib.cell_of_heap h 2, Lib.cell_of_heap h 3, Lib.cell_of_heap h 4, Lib.cell_of_heap h 5, Lib.cell_of_heap h 6, Lib.cell_of_heap h 7, Lib.cell_of_heap h 8, Lib.cell_of_heap h 9, Lib.cell_of_heap h 10, Lib.cell_of_heap h 11, Lib.cell_of_heap h 12⟩
theorem cells11 {w : World} {g : Nat} {a0 a1 a2 a3 a4 a5 a6 a7 a8 a9 a10 : Value} {t : TypeId} {fr : Nat × Nat} (h : w.heap[g]? = some (.cells #[a0, a1, a2, a3, a4, a5, a6, a7, a8, a9, a10] t fr)) :
  w.cell? ⟨g, 0, none⟩ = some a0 ∧ w.cell? ⟨g, 1, none⟩ = some a1 ∧ w.cell? ⟨g, 2, none⟩ = some a2 ∧ w.cell? ⟨g, 3, none⟩ = some a3 ∧ w.cell? ⟨g, 4, none⟩ = some a4 ∧ w.cell? ⟨g, 5, none⟩ = some a5 ∧ w.cell? ⟨g, 6, none⟩ = some a6 ∧ w.cell? ⟨g, 7, none⟩ = some a7 ∧ w.cell? ⟨g, 8, none⟩ = some a8 ∧ w.cell? ⟨g, 9, none⟩ = some a9 ∧ w.cell? ⟨g, 10, none⟩ = some a10 :=
 ⟨Lib.cell_of_heap h 0, Lib.cell_of_heap h 1, Lib.cell_of_heap h 2, Lib.cell_of_heap h 3, Lib.cell_of_heap h 4, Lib.cell_of_heap h 5, Lib.cell_of_heap h 6, Lib.cell_of_heap h 7, Lib.cell_of_heap h 8, Lib.cell_of_heap h 9, Lib.cell_of_heap h 10⟩
def setFrom (cur : Array Value) : Nat → List Value → Array Value
 | _, [] => cur
 | o, v :: r => setFrom (cur.setIfInBounds o v) (o + 1) r
theorem set_cells_block (b : Nat) (t : TypeId) : ∀ (vs : List Value) (o : Nat) (w : World) (cur : Array Value), w.heap[b]? = some (.cells cur t (0, 0)) →
  (w.setCells b o vs).heap[b]? = some (.cells (setFrom cur o vs) t (0, 0)) ∧ (w.setCells b o vs).heap.size = w.heap.size ∧ ∀ k, k ≠ b → (w.setCells b o vs).heap[k]? = w.heap[k]?
 | [], o, w, cur, h => ⟨h, rfl, fun _ _ => rfl⟩
 | v :: r, o, w, cur, h => by
  obtain ⟨h1, h2, h3⟩ := set_cells_block b t r (o + 1) (w.setCell ⟨b, o, none⟩ v) _ (Go.Joins.block_setCell h (i := o) v);exact ⟨h1, h2.trans (by simp), fun k hk => (h3 k hk).trans (Below.heap_setCell w ⟨b, o, none⟩ v k hk)⟩
theorem from10 (v0 v1 v2 v3 v4 v5 v6 v7 v8 v9 : Value) : setFrom LZ 0 [v0, v1, v2, v3, v4, v5, v6, v7, v8, v9] = #[v0, v1, v2, v3, v4, v5, v6, v7, v8, v9, .bool false] := by
 simp [setFrom, LZ]
theorem set_cells_below {n b : Nat} {w0 : World} (hn : n ≤ b) : ∀ (vs : List Value) (o : Nat) (w : World), Below n w0 w → Below n w0 (w.setCells b o vs)
 | [], o, w, h => h
 | v :: r, o, w, h => set_cells_below hn r (o + 1) _ (h.setCell hn v)
/-- The memory while a try is looked up, and made. -/
structure TG (X : Par) (pr : Nat → Prop) (w : World) (ia i j : Nat) (c : Caps) (lc : Array Value) (wr : World) : Prop where
 mm : MM X (Pv pr [w.heap.size + 1, w.heap.size + 1 + 1 + 1]) wr
 bx : wr.heap[w.heap.size]? = some (.cells (CC c) 27 (0, 0))
 rs : wr.heap[w.heap.size + 1]? = some (.cells CZ 27 (0, 0))
 kk : wr.heap[w.heap.size + 1 + 1]? = some (.cells (KC ia i j c) 114 (0, 0))
 xx : wr.heap[w.heap.size + 1 + 1 + 1]? = some (.cells lc 116 (0, 0))
 km : Km X w wr
 base : X.w0.heap.size ≤ w.heap.size
/-- Behind the key. -/
structure TH (X : Par) (pr : Nat → Prop) (w : World) (ia i j : Nat) (c : Caps) (wr : World) : Prop where
 tf : TF X pr w c wr
 kk : wr.heap[w.heap.size + 1 + 1]? = some (.cells (KC ia i j c) 114 (0, 0))
 b2 : wr.heap[X.b2]? = w.heap[X.b2]?
 sz : wr.heap.size = w.heap.size + 1 + 1 + 1
/-- What is read where a try is looked up. -/
def HQ (X : Par) (w : World) (ia i j : Nat) (c : Caps) (w' : World) : Prop :=
 w'.cell? ⟨X.bm, 4, none⟩ = some (.map (some X.b2)) ∧ w'.heap[w.heap.size + 1 + 1]? = some (.cells (KC ia i j c) 114 (0, 0)) ∧ w'.heap[X.b2]? = w.heap[X.b2]?
section
variable {X : Par} {pr : Nat → Prop} {w wr w' : World} {c : Caps} {ia i j : Nat} {lc : Array Value}
theorem th_start (hM : MM X pr w) : TH X pr w ia i j c (((w.alloc (.cells (CC c) 27)).alloc (.cells CZ 27)).alloc (.cells (KC ia i j c) 114)) := by
 have h := tf_start hM c;(have hs : ((w.alloc (.cells (CC c) 27)).alloc (.cells CZ 27)).heap.size = w.heap.size + 1 + 1 := by simp);have hb := (Below.refl ((w.alloc (.cells (CC c) 27)).alloc (.cells CZ 27)).heap.size ((w.alloc (.cells (CC c) 27)).alloc (.cells CZ 27))).alloc (Nat.le_refl _) (.cells (KC ia i j c) 114);have hk := heap_alloc_new ((w.alloc (.cells (CC c) 27)).alloc (.cells CZ 27)) (.cells (KC ia i j c) 114);rw [hs] at hk;have h2 := two_start hM (.cells (CC c) 27) (.cells CZ 27);obtain ⟨es2, c2, a2, _⟩ := hM.e2;have hl := lt_heap' a2;exact ⟨h.below hb, hk, (hb.block _ (by rw [hs]; omega)).trans (h2.2.block _ hl), by simp⟩
abbrev KZ : Array Value := #[E 0, E 0, E 0, .complex .f64 0 0, .complex .f64 0 0, .complex .f64 0 0, .complex .f64 0 0, .complex .f64 0 0, .complex .f64 0 0, .complex .f64 0 0, .complex .f64 0 0, .complex .f64 0 0, .complex .f64 0 0]
theorem kc_one (n i j : Nat) (c : Caps) : (KC n i j c).all (·.oneCell') = true := by
 have h := cap_one;(have h2 : ∀ n : Int, (E n).oneCell' = true := fun _ => rfl);simp [h, h2]
theorem key_there (w : World) (A B : Obj) : (((w.alloc A).alloc B).alloc (.cells KZ 114)).heap[w.heap.size + 1 + 1]? = some (.cells KZ 114 (0, 0)) := by
 have := heap_alloc_new ((w.alloc A).alloc B) (.cells KZ 114)
 rwa [show ((w.alloc A).alloc B).heap.size = w.heap.size + 1 + 1 by simp] at this
theorem th_start2 (hM : MM X pr w) : TH X pr w ia i j c ((((w.alloc (.cells (CC c) 27)).alloc (.cells CZ 27)).alloc (.cells KZ 114)).setRow (w.heap.size + 1 + 1) (KC ia i j c)) := by
 have := World.setRow_alloc_new ((w.alloc (.cells (CC c) 27)).alloc (.cells CZ 27)) KZ (KC ia i j c) 114;rw [show ((w.alloc (.cells (CC c) 27)).alloc (.cells CZ 27)).heap.size = w.heap.size + 1 + 1 by simp] at this;rw [this];exact th_start hM
theorem TH.drew (h : TH X pr w ia i j c wr) : TH X pr w ia i j c wr.drew := ⟨h.tf.below (Below.refl _ _).drew, h.kk, h.b2, h.sz⟩
theorem TH.hq (h : TH X pr w ia i j c wr) : HQ X w ia i j c wr := ⟨h.tf.mm.facts.2.2.2.2, h.kk, h.b2⟩
theorem TH.lay (h : TH X pr w ia i j c wr) (lc : Array Value) : TG X pr w ia i j c lc (wr.alloc (.cells lc 116)) := by
 have hb := (Below.refl wr.heap.size wr).alloc (Nat.le_refl _) (.cells lc 116);have hk := heap_alloc_new wr (.cells lc 116);rw [h.sz] at hk;have h1 := h.tf.below hb;refine ⟨h.tf.mm.hide ?_ hb ?_, h1.bx, h1.rs, (hb.block _ (lt_heap' h.kk)).trans h.kk, hk, h1.km, h1.base⟩
 ·
  rintro k (q | q)
  · exact Or.inl (Or.inl q)
  ·
   simp only [List.mem_cons, List.not_mem_nil, or_false] at q;rcases q with q | q
   · exact Or.inl (Or.inr (by simp [q]))
   · exact Or.inr (by have := h.sz; omega)
 ·
  rintro k (q | q)
  · have := h1.mm.lt k (Or.inl q); exact this
  · simp only [List.mem_cons, List.not_mem_nil, or_false] at q;have := h.sz;simp;omega
theorem TH.lay_hq (h : TH X pr w ia i j c wr) (lc : Array Value) : HQ X w ia i j c (wr.alloc (.cells lc 116)) := by
 obtain ⟨es2, c2, a2, _⟩ := h.tf.mm.e2;exact ⟨(h.lay lc).mm.facts.2.2.2.2, (h.lay lc).kk, (((Below.refl wr.heap.size wr).alloc (Nat.le_refl _) _).block _ (lt_heap' a2)).trans h.b2⟩
theorem left_there (h : TH X pr w ia i j c wr) : (wr.alloc (.cells LZ 116)).heap[w.heap.size + 1 + 1 + 1]? = some (.cells LZ 116 (0, 0)) := (h.lay LZ).xx
theorem left_laid (h : TH X pr w ia i j c wr) (lc : Array Value) : (wr.alloc (.cells LZ 116)).setRow (w.heap.size + 1 + 1 + 1) lc = wr.alloc (.cells lc 116) := by
 have := World.setRow_alloc_new wr LZ lc 116
 rwa [h.sz] at this
theorem lc_one (c : Caps) (b : Bool) : (LC c b).all (·.oneCell') = true := by
 have h := cap_one;(have h2 : ∀ n : Bool, (Value.bool n).oneCell' = true := fun _ => rfl);simp [h, h2]
theorem TG.lq (h : TG X pr w ia i j c lc wr) (hb : wr.heap[X.b2]? = w.heap[X.b2]?) : HQ X w ia i j c wr := ⟨h.mm.facts.2.2.2.2, h.kk, hb⟩
theorem TG.call (h : TG X pr w ia i j c lc wr) (hm : MM X (Pv pr [w.heap.size + 1, w.heap.size + 1 + 1 + 1]) w') (hk : Km X wr w') : TG X pr w ia i j c lc w' :=
 ⟨hm, mm_keep h.mm hk h.bx, mm_keep h.mm hk h.rs, mm_keep h.mm hk h.kk, mm_keep h.mm hk h.xx, h.km.trans hk, h.base⟩
theorem TG.below (h : TG X pr w ia i j c lc wr) (hb : Below wr.heap.size wr w') : TG X pr w ia i j c lc w' := h.call (h.mm.below hb) (Km.of_below hb)
theorem left_apart (h : MM X pr w) {B : Nat} {cs : Array Value} (hr : w.heap[B]? = some (.cells cs 116 (0, 0))) : B ≠ X.bm ∧ B ≠ X.b1 ∧ B ≠ X.b2 := by
 obtain ⟨es1, c1, a1, k1⟩ := h.e1;obtain ⟨es2, c2, a2, k2⟩ := h.e2;refine ⟨?_, cells_map hr a1, cells_map hr a2⟩;rintro rfl;have := h.hb.symm.trans hr;simp only [Option.some.injEq, Obj.cells.injEq] at this;exact absurd this.2.1 (by decide)
theorem TG.put (h : TG X pr w ia i j c lc wr) {lc' : Array Value} (hx : w'.heap[w.heap.size + 1 + 1 + 1]? = some (.cells lc' 116 (0, 0))) (hs : w'.heap.size = wr.heap.size) (hk : ∀ k, k ≠ w.heap.size + 1 + 1 + 1 → w'.heap[k]? = wr.heap[k]?) (hb : Below X.w0.heap.size wr w') : TG X pr w ia i j c lc' w' := by
 have ha := left_apart h.mm h.xx;refine ⟨h.mm.own (B := w.heap.size + 1 + 1 + 1) (Or.inr (by simp)) (by have := h.base; omega) ha.1 ha.2.1 ha.2.2 (by omega) (fun k _ q => hk k q) (h.mm.bel.trans hb), (hk _ (by omega)).trans h.bx, (hk _ (by omega)).trans h.rs, (hk _ (by omega)).trans h.kk, hx, ⟨by rw [hs]; exact h.km.size, fun k h1 h2 h3 => (hk k (by omega)).trans (h.km.keep k h1 h2 h3)⟩, h.base⟩
theorem TG.caps (h : TG X pr w ia i j c LZ wr) (a : Caps) : TG X pr w ia i j c (LC a false) (wr.setCells (w.heap.size + 1 + 1 + 1) 0 (CC a).toList) := by
 obtain ⟨h1, h2, h3⟩ := set_cells_block (w.heap.size + 1 + 1 + 1) 116 (CC a).toList 0 wr LZ h.xx;rw [show (CC a).toList = [capV (gr a 0), capV (gr a 1), capV (gr a 2), capV (gr a 3), capV (gr a 4), capV (gr a 5), capV (gr a 6), capV (gr a 7), capV (gr a 8), capV (gr a 9)] from rfl] at h1 h2 h3 ⊢;rw [from10] at h1;exact h.put h1 h2 h3 (set_cells_below (by have := h.base; omega) _ _ _ (Below.refl _ _))
/-- The answer is laid. -/
theorem TG.ret (h : TG X pr w ia i j c lc wr) (a : Caps) : (wr.setRow (w.heap.size + 1) (CC a)).heap[w.heap.size + 1]? = some (.cells (CC a) 27 (0, 0)) ∧ MM X pr (wr.setRow (w.heap.size + 1) (CC a)) ∧ Km X w (wr.setRow (w.heap.size + 1) (CC a)) ∧ (wr.setRow (w.heap.size + 1) (CC a)).heap[w.heap.size + 1 + 1 + 1]? = some (.cells lc 116 (0, 0)) := by
 have ha := cells_apart h.mm h.rs;have hb := below_setRow (B := X.w0.heap.size) h.mm.bel (g := w.heap.size + 1) (by have := h.base; omega) (CC a);(have hk : ∀ k, k < wr.heap.size → k ≠ w.heap.size + 1 → (wr.setRow (w.heap.size + 1) (CC a)).heap[k]? = wr.heap[k]? := fun k _ hk => setRow_other _ _ _ _ hk);refine ⟨setRow_heap _ _ _ _ _ _ h.rs, (h.mm.own (B := w.heap.size + 1) (Or.inr (by simp)) (by have := h.base; omega) ha.1 ha.2.1 ha.2.2 (by simp) hk hb).mono fun k hk => Or.inl hk, ⟨by simpa using h.km.size, fun k h1 h2 h3 => (hk k (Nat.lt_of_lt_of_le h1 h.km.size) (by omega)).trans (h.km.keep k h1 h2 h3)⟩, (hk _ (lt_heap' h.xx) (by omega)).trans h.xx⟩
theorem TG.there (h : TG X pr w ia i j c LZ wr) : wr.there (w.heap.size + 1 + 1 + 1) 0 10 := fun q hq => by
 refine ⟨?_, by simp [World.frozen?, h.xx]⟩;rw [Lib.cell_of_heap h.xx, Array.getElem?_eq_getElem (by simp; omega)];rfl
theorem TG.fz (h : TG X pr w ia i j c lc wr) (q : Nat) : wr.frozen? ⟨w.heap.size + 1 + 1 + 1, q, none⟩ = false := by simp [World.frozen?, h.xx]
theorem TG.bool {a0 : Caps} {b0 : Bool} (h : TG X pr w ia i j c (LC a0 b0) wr) (b : Bool) : TG X pr w ia i j c (LC a0 b) (wr.setCell ⟨w.heap.size + 1 + 1 + 1, 10, none⟩ (.bool b)) := by
 refine h.put (Go.Joins.block_setCell h.xx (i := 10) (.bool b)) (by simp) (fun k hk => Below.heap_setCell wr ⟨w.heap.size + 1 + 1 + 1, 10, none⟩ (.bool b) k hk) ((Below.refl _ _).setCell (by show X.w0.heap.size ≤ w.heap.size + 1 + 1 + 1; have := h.base; omega) _)
end
/-- A block of another kind than rows of truths is written. -/
theorem MM.other {X : Par} {pr : Nat → Prop} {w w' : World} (h : MM X pr w) {B : Nat} {cs : Array Value} {t : TypeId} {fr : Nat × Nat} (ht1 : t ≠ 4) (ht2 : t ≠ 94) (hB : w.heap[B]? = some (.cells cs t fr)) (hs : w.heap.size ≤ w'.heap.size) (hk : ∀ k, k < w.heap.size → k ≠ B → w'.heap[k]? = w.heap[k]?) (hbl : Below X.w0.heap.size X.w0 w') : MM X pr w' := by
 obtain ⟨es1, c1, a1, k1⟩ := h.e1;obtain ⟨es2, c2, a2, k2⟩ := h.e2;have n1 := cells_map hB a1;have n2 := cells_map hB a2;have n0 : B ≠ X.bm := by
  rintro rfl;have := h.hb.symm.trans hB;simp only [Option.some.injEq, Obj.cells.injEq] at this;exact ht2 this.2.1.symm
 refine ⟨hbl, (hk _ (lt_heap' h.hb) n0.symm).trans h.hb, ⟨es1, c1, (hk _ (lt_heap' a1) n1.symm).trans a1, fun e he => ?_⟩, ⟨es2, c2, (hk _ (lt_heap' a2) n2.symm).trans a2, k2⟩, fun k q => Nat.lt_of_lt_of_le (h.lt k q) hs⟩;obtain ⟨x, o, i, g, b1, b2, b3, b4, b5⟩ := k1 e he;refine ⟨x, o, i, g, b1, b2, b3, (hk _ b4.lt ?_).trans b4, b5⟩;rintro rfl;have := b4.symm.trans hB;simp only [Option.some.injEq, Obj.cells.injEq] at this;exact ht1 this.2.1.symm
/-- The memory while a node is looked at. -/
structure LF (X : Par) (pr : Nat → Prop) (w : World) (c : Caps) (nd : Nd) (wr : World) : Prop where
 tf : TF X pr w c wr
 nb : wr.heap[w.heap.size + 1 + 1]? = some (.cells (NC nd) 55 (0, 0))
/-- What is read meanwhile. -/
def LW (X : Par) (w : World) (c : Caps) (nd : Nd) (w' : World) : Prop :=
 w'.heap[X.bm]? = some (.cells #[X.v, S X.T, .bool X.refs, .map (some X.b1), .map (some X.b2)] 94 (0, 0)) ∧ w'.heap[w.heap.size]? = some (.cells (CC c) 27 (0, 0)) ∧ w'.heap[w.heap.size + 1 + 1]? = some (.cells (NC nd) 55 (0, 0))
section
variable {X : Par} {pr : Nat → Prop} {w wr w' : World} {c : Caps} {nd : Nd}
theorem lf_start (hM : MM X pr w) (c : Caps) (nd : Nd) : LF X pr w c nd (((w.alloc (.cells (CC c) 27)).alloc (.cells CZ 27)).alloc (.cells (NC nd) 55)) := by
 have h := tf_start hM c;(have hs : ((w.alloc (.cells (CC c) 27)).alloc (.cells CZ 27)).heap.size = w.heap.size + 1 + 1 := by simp);have hb := (Below.refl ((w.alloc (.cells (CC c) 27)).alloc (.cells CZ 27)).heap.size ((w.alloc (.cells (CC c) 27)).alloc (.cells CZ 27))).alloc (Nat.le_refl _) (.cells (NC nd) 55);have hk := heap_alloc_new ((w.alloc (.cells (CC c) 27)).alloc (.cells CZ 27)) (.cells (NC nd) 55);rw [hs] at hk;exact ⟨h.below hb, hk⟩
theorem LF.call (h : LF X pr w c nd wr) (hm : MM X (Pv pr [w.heap.size + 1]) w') (hk : Km X wr w') : LF X pr w c nd w' :=
 ⟨h.tf.call hm hk, mm_keep h.tf.mm hk h.nb⟩
theorem LF.below (h : LF X pr w c nd wr) (hb : Below wr.heap.size wr w') : LF X pr w c nd w' := h.call (h.tf.mm.below hb) (Km.of_below hb)
theorem mm_cells {w : World} {X : Par} (h : w.heap[X.bm]? = some (.cells #[X.v, S X.T, .bool X.refs, .map (some X.b1), .map (some X.b2)] 94 (0, 0))) :
  (w.cell? ⟨X.bm, 0, none⟩ = some X.v ∧ w.cell? ⟨X.bm, 1, none⟩ = some (S X.T) ∧ w.cell? ⟨X.bm, 2, none⟩ = some (.bool X.refs) ∧ w.cell? ⟨X.bm, 3, none⟩ = some (.map (some X.b1)) ∧ w.cell? ⟨X.bm, 4, none⟩ = some (.map (some X.b2))) :=
 ⟨(Lib.cell_of_heap h 0).trans rfl, (Lib.cell_of_heap h 1).trans rfl, (Lib.cell_of_heap h 2).trans rfl, (Lib.cell_of_heap h 3).trans rfl, (Lib.cell_of_heap h 4).trans rfl⟩
theorem LF.ls (h : LF X pr w c nd wr) : LW X w c nd wr := ⟨h.tf.mm.hb, h.tf.bx, h.nb⟩
theorem LF.ls_ret (h : LF X pr w c nd wr) (a : Caps) : LW X w c nd (wr.setRow (w.heap.size + 1) (CC a)) := by
 have ha := cells_apart h.tf.mm h.tf.rs;exact ⟨(setRow_other _ _ _ _ ha.1.symm).trans h.tf.mm.hb, (setRow_other _ _ _ _ (by omega)).trans h.tf.bx, (setRow_other _ _ _ _ (by omega)).trans h.nb⟩
/-- A box for what groups have. -/
theorem LF.box (h : LF X pr w c nd wr) (a : Caps) : LF X pr w c nd (wr.alloc (.cells (CC a) 27)) ∧ CB (wr.alloc (.cells (CC a) 27)) wr.heap.size a ∧ w.heap.size + 1 + 1 < wr.heap.size :=
 ⟨h.below ((Below.refl _ _).alloc (Nat.le_refl _) _), heap_alloc_new _ _, lt_heap' h.nb⟩
/-- A box behind a call. -/
theorem LF.kept (h : LF X pr w c nd wr) {g : Nat} {a : Caps} (hg : CB wr g a) (hk : Km X wr w') : CB w' g a := mm_keep h.tf.mm hk hg
/-- A box is written. -/
theorem LF.other (h : LF X pr w c nd wr) {g : Nat} {cs : Array Value} {t : TypeId} {fr : Nat × Nat} (ht1 : t ≠ 4) (ht2 : t ≠ 94) (hg : wr.heap[g]? = some (.cells cs t fr)) (hlt : w.heap.size + 1 + 1 < g) (hs : wr.heap.size ≤ w'.heap.size) (hk : ∀ k, k < wr.heap.size → k ≠ g → w'.heap[k]? = wr.heap[k]?) (hb : Below X.w0.heap.size wr w') : LF X pr w c nd w' := by
 refine ⟨⟨h.tf.mm.other ht1 ht2 hg hs hk (h.tf.mm.bel.trans hb), (hk _ (lt_heap' h.tf.bx) (by omega)).trans h.tf.bx, (hk _ (lt_heap' h.tf.rs) (by omega)).trans h.tf.rs, ⟨Nat.le_trans h.tf.km.size hs, fun k h1 h2 h3 => (hk k (Nat.lt_of_lt_of_le h1 h.tf.km.size) (by omega)).trans (h.tf.km.keep k h1 h2 h3)⟩, h.tf.base⟩, (hk _ (lt_heap' h.nb) (by omega)).trans h.nb⟩
/-- .. at one place. -/
theorem LF.putc (h : LF X pr w c nd wr) {g : Nat} {a : Caps} (hg : CB wr g a) (ha : a.length = 10) (hlt : w.heap.size + 1 + 1 < g) {n : Nat} (hn : n < 10) (x : Cap) : LF X pr w c nd (wr.setCell ⟨g, n, none⟩ (capV x)) ∧ CB (wr.setCell ⟨g, n, none⟩ (capV x)) g (a.set n x) := by
 refine ⟨h.other (by decide) (by decide) hg hlt (by simp) (fun k _ hk => Below.heap_setCell wr ⟨g, n, none⟩ _ k hk) ((Below.refl _ _).setCell (by show X.w0.heap.size ≤ g; have := h.tf.base; omega) _), ?_⟩;have := Go.Joins.block_setCell hg (i := n) (capV x);rw [cc_set ha hn] at this;exact this
end
theorem LW.bm {X : Par} {w w' : World} {c : Caps} {nd : Nd} (h : LW X w c nd w') :
  (w'.cell? ⟨X.bm, 0, none⟩ = some X.v ∧ w'.cell? ⟨X.bm, 1, none⟩ = some (S X.T) ∧ w'.cell? ⟨X.bm, 2, none⟩ = some (.bool X.refs) ∧ w'.cell? ⟨X.bm, 3, none⟩ = some (.map (some X.b1)) ∧ w'.cell? ⟨X.bm, 4, none⟩ = some (.map (some X.b2))) := mm_cells h.1
theorem LW.node {X : Par} {w w' : World} {c : Caps} {nd : Nd} (h : LW X w c nd w') :
  w'.cell? ⟨w.heap.size + 1 + 1, 0, none⟩ = some (E nd.k) ∧ w'.cell? ⟨w.heap.size + 1 + 1, 1, none⟩ = some (U (word nd.s 0)) ∧ w'.cell? ⟨w.heap.size + 1 + 1, 2, none⟩ = some (U (word nd.s 1)) ∧ w'.cell? ⟨w.heap.size + 1 + 1, 3, none⟩ = some (U (word nd.s 2)) ∧ w'.cell? ⟨w.heap.size + 1 + 1, 4, none⟩ = some (U (word nd.s 3)) ∧
   w'.cell? ⟨w.heap.size + 1 + 1, 5, none⟩ = some (E nd.a) ∧ w'.cell? ⟨w.heap.size + 1 + 1, 6, none⟩ = some (E nd.b) ∧ w'.cell? ⟨w.heap.size + 1 + 1, 7, none⟩ = some (E nd.mn) ∧ w'.cell? ⟨w.heap.size + 1 + 1, 8, none⟩ = some (E nd.mx) ∧ w'.cell? ⟨w.heap.size + 1 + 1, 9, none⟩ = some (E nd.n) := node_cells h.2.2
theorem LW.drew {X : Par} {w w' : World} {c : Caps} {nd : Nd} (h : LW X w c nd w') : LW X w c nd w'.drew := h
theorem LW.below {X : Par} {w w1 w2 : World} {c : Caps} {nd : Nd} (h : LW X w c nd w1) (hb : Below w1.heap.size w1 w2) : LW X w c nd w2 :=
 ⟨(hb.block _ (lt_heap' h.1)).trans h.1, (hb.block _ (lt_heap' h.2.1)).trans h.2.1, (hb.block _ (lt_heap' h.2.2)).trans h.2.2⟩
/-- The first k groups have nothing. -/
def nkC (k : Nat) : Array Value := ((List.range 10).map fun j => if j < k then capV none else .complex .f64 0 0).toArray
theorem nk_at (k : Nat) (hk : k < 10) : (nkC k)[k]? = some (.complex .f64 0 0) := by simp [nkC, hk]
theorem nk_set (k : Nat) : (nkC k).setIfInBounds k (capV none) = nkC (k + 1) := by
 apply Array.ext_getElem?;intro i;unfold nkC;by_cases hi : i < 10
 ·
  by_cases hk : k = i
  · subst hk;rw [Array.getElem?_setIfInBounds_self_of_lt (by simpa using hi)];simp [hi]
  ·
   rw [Array.getElem?_setIfInBounds_ne hk];simp only [List.getElem?_toArray, List.getElem?_map, List.getElem?_range hi, Option.map_some]
   congr 1
   by_cases h : i < k
   · rw [if_pos h, if_pos (by omega)]
   · rw [if_neg h, if_neg (by omega)]
 · rw [Array.getElem?_eq_none (by simp; omega), Array.getElem?_eq_none (by simp; omega)]
theorem nk_all : nkC 10 = CC nones := by rfl
theorem none_any (w : World) : Calls Tryz.prog 21 #[] w fun e w' => e = .returned (CV nones) ∧ Below w.heap.size w w' := by
 obtain ⟨ca, cb, hcx⟩ : ∃ p q, capV none = .complex .f64 p q := ⟨_, _, rfl⟩;have HCX := Lib.hid hcx;have hnc := (fun W => none_cap W);rw [hcx] at hnc;have HNC := Lib.hid hnc;have HB0 := Lib.hid (And.intro (show (w.alloc (.cells CZ 27)).heap[w.heap.size]? = some (.cells (nkC 0) 27 (0, 0)) from heap_alloc_new _ _) ((Below.refl w.heap.size w).alloc (Nat.le_refl _) (.cells CZ 27)));clear hcx hnc;go_enter Tryz.func21, Tryz.ntmps21;rw [show Code.region 6 = Fz 6 from rfl];go_wp2;refine at_world (p := fun V => V.heap[w.heap.size]? = some (.cells (nkC 0) 27 (0, 0)) ∧ Below w.heap.size w V) HB0.out (fun V hV => ?_);have HV := Lib.hid hV;clear hV HB0;go_loopw [2] (fun i wr => ∃ (k : Nat), k ≤ 10 ∧ i = .int .i64 (k : Nat) ∧ Hid (wr.heap[w.heap.size]? = some (.cells (nkC k) 27 (0, 0)) ∧ Below w.heap.size w wr)) (fun i _ => 10 - (intOf i).toNat);(case atStart => exact ⟨0, by omega, rfl, HV⟩);case round =>
  clear HV;obtain ⟨k, hk, rfl, HR⟩ := hrel;by_cases hlt : k < 10
  · (have hlt' : (k : Int) < 10 := by omega);(have hk0 : (0 : Int) ≤ (k : Int) := by omega);(have hwk : IntKind.i64.wrap ((k : Int) + 1) = (k : Int) + 1 := by rw [IntKind.wrap_i64]; omega);have hcl := (Lib.cell_of_heap HR.out.1 k).trans (nk_at k hlt);(have hfz : wr.frozen? ⟨w.heap.size, k, none⟩ = false := by simp [World.frozen?, HR.out.1]);have hst := store_complex Tryz.prog wr w.heap.size k ca cb hcl hfz;have hnx := Go.Joins.block_setCell HR.out.1 (i := k) (.complex .f64 ca cb);rw [← HCX.out, nk_set] at hnx;have HN := Lib.hid hnx;have HBL := Lib.hid (HR.out.2.setCell (show w.heap.size ≤ (⟨w.heap.size, k, none⟩ : Addr).block from Nat.le_refl _) (.complex .f64 ca cb));rw [HCX.out] at HN;clear hnx;go_wp2_with (go_at_call 39; refine (HNC.out _).mono ?_; rintro e w2 ⟨rfl, rfl⟩);go_roundw;(case rel => exact ⟨k + 1, by omega, by go_num, Lib.hid ⟨HN.out, HBL.out⟩⟩);case measure => simp [intOf]; omega
  · (obtain rfl : k = 10 := by omega);have HN := Lib.hid (show wr.heap[w.heap.size]? = some (.cells (CC nones) 27 (0, 0)) from by rw [HR.out.1, nk_all]);go_wp2;rw [show Fz 6 = Code.region 6 from rfl];refine wp_region_list ?_;refine wpList_load_row rfl 27 (.tmp 0) rfl w.heap.size rfl _ (CC nones) (0, 0) _ HN.out Tryz.underlying27 rfl (by kernel_rfl) ?_;simp only [Act.put, List.setIfInBounds_toArray, List.set_cons_zero, List.set_cons_succ];refine wpList_store_row rfl 27 (.tmp 0) (.tmp 9) rfl w.heap.size (CC nones) rfl rfl _ (CC nones) HN.out (by kernel_rfl) rfl (cc_one nones) ?_;simp only [Act.put, List.setIfInBounds_toArray, List.set_cons_zero, List.set_cons_succ];have HN2 := Lib.hid (setRow_heap _ _ _ (CC nones) _ _ HN.out);have HB2 := Lib.hid (below_setRow (B := w.heap.size) HR.out.2 (g := w.heap.size) (Nat.le_refl _) (CC nones));generalize World.setRow _ _ _ = W9 at HN2 HB2 ⊢;go_wp2;refine bodyPost_ret (v := CV nones) ?_ rfl ⟨rfl, HB2.out⟩;rw [results_cell_row rfl _ W9 w.heap.size 27 (CC nones) (0, 0) _ rfl HN2.out Tryz.underlying27 rfl (by kernel_rfl)]
theorem new_any (t : Tr) (hg : Go.Proofs.YtlicoffnjphphaaGreatDoor.Rx.Good t) (hs : SetsOk t) (hw : ∀ n ∈ t.nodes 0, Wf n.s) (v : Value) (T : List UInt8) (hT : T.length ≤ 100000) (w : World) (h : Ns w v (t.nodes 0)) :
  Calls Tryz.prog 32 #[v, S T] w fun e w' => ∃ X : Par, X.Ok ∧ X.w0 = w ∧ X.T = T ∧ X.t = t ∧ X.v = v ∧ e = .returned (PT X.bm) ∧ MM X (fun _ => False) w' := by
 obtain ⟨ao, cap, rfl, hcells⟩ := h;have HR := Lib.hid (refs_any ao cap (t.nodes 0) w ⟨ao, cap, rfl, hcells⟩ hw);have HRF := Lib.hid (show refsL (t.nodes 0) = decide (0 < refsT t) from by unfold refsL; rw [patOf_good hg]);have HG := Lib.hid hg;have HS := Lib.hid hs;have HNS := Lib.hid (show Ns w (.slice ao (t.nodes 0).length cap) (t.nodes 0) from ⟨ao, cap, rfl, hcells⟩);have HT := Lib.hid hT;have hmm := @run_makeMap Tryz.prog;clear hcells hw hg hs hT;go_enter Tryz.func32, Tryz.ntmps32;go_wp2_with (go_at_call 46; refine HR.out.mono ?_; rintro e w1 ⟨rfl, hb⟩; have HB := Lib.hid hb; clear hb);go_ret;refine ⟨⟨w, T, t, _, w1.heap.size + 1 + 1, w1.heap.size, w1.heap.size + 1⟩, ⟨HG.out, HS.out, HNS.out, HT.out, by have := HB.out.size; show w.heap.size ≤ w1.heap.size + 1 + 1; omega, HB.out.size, by have := HB.out.size; show w.heap.size ≤ w1.heap.size + 1; omega, by show w1.heap.size ≠ w1.heap.size + 1; omega⟩, rfl, rfl, rfl, rfl, rfl, ?_⟩;have hb := ((HB.out.alloc HB.out.size (.map #[] 0)).alloc (by simp; have := HB.out.size; omega) (.map #[] 0)).alloc (by simp; have := HB.out.size; omega) (.cells #[.slice ao (t.nodes 0).length cap, S T, .bool (refsL (t.nodes 0)), .map (some w1.heap.size), .map (some (w1.heap.size + 1))] 94);have e1 := heap_alloc_new w1 (.map #[] 0);have e2 := heap_alloc_new (w1.alloc (.map #[] 0)) (.map #[] 0);have e3 := heap_alloc_new ((w1.alloc (.map #[] 0)).alloc (.map #[] 0)) (.cells #[.slice ao (t.nodes 0).length cap, S T, .bool (refsL (t.nodes 0)), .map (some w1.heap.size), .map (some (w1.heap.size + 1))] 94);rw [show (w1.alloc (.map #[] 0)).heap.size = w1.heap.size + 1 by simp] at e2;rw [show ((w1.alloc (.map #[] 0)).alloc (.map #[] 0)).heap.size = w1.heap.size + 1 + 1 by simp] at e3;refine ⟨hb, ?_, ⟨#[], 0, ?_, by simp⟩, ⟨#[], 0, ?_, by simp⟩, fun k q => q.elim⟩
 · exact e3.trans (by rw [HRF.out]; rfl)
 · exact (Below.heap_alloc _ _ _ (by simp <;> omega)).trans ((Below.heap_alloc _ _ _ (by simp <;> omega)).trans e1)
 · exact (Below.heap_alloc _ _ _ (by simp <;> omega)).trans e2
/-- The memory while the whole is tried: the answer's place. -/
structure WF (X : Par) (pr : Nat → Prop) (w wr : World) : Prop where
 mm : MM X pr wr
 rs : wr.heap[w.heap.size]? = some (.cells CZ 27 (0, 0))
 km : Km X w wr
 base : X.w0.heap.size ≤ w.heap.size
section
variable {X : Par} {pr : Nat → Prop} {w wr w' : World}
theorem wf_start (hM : MM X pr w) : WF X pr w (w.alloc (.cells CZ 27)) :=
 have hb := (Below.refl w.heap.size w).alloc (Nat.le_refl _) (.cells CZ 27)
 ⟨hM.below hb, heap_alloc_new _ _, Km.of_below hb, hM.bel.size⟩
theorem WF.call (h : WF X pr w wr) (hm : MM X pr w') (hk : Km X wr w') : WF X pr w w' := ⟨hm, mm_keep h.mm hk h.rs, h.km.trans hk, h.base⟩
theorem WF.below (h : WF X pr w wr) (hb : Below wr.heap.size wr w') : WF X pr w w' := h.call (h.mm.below hb) (Km.of_below hb)
theorem WF.zero (h : WF X pr w wr) : WF X pr w (wr.alloc (.cells CZ 27)) ∧ (wr.alloc (.cells CZ 27)).heap[wr.heap.size]? = some (.cells CZ 27 (0, 0)) ∧ w.heap.size < wr.heap.size :=
 ⟨h.below ((Below.refl _ _).alloc (Nat.le_refl _) _), heap_alloc_new _ _, lt_heap' h.rs⟩
theorem WF.other (h : WF X pr w wr) {g : Nat} {cs : Array Value} {t : TypeId} {fr : Nat × Nat} (ht1 : t ≠ 4) (ht2 : t ≠ 94) (hg : wr.heap[g]? = some (.cells cs t fr)) (hlt : w.heap.size < g) (hs : wr.heap.size ≤ w'.heap.size) (hk : ∀ k, k < wr.heap.size → k ≠ g → w'.heap[k]? = wr.heap[k]?) (hb : Below X.w0.heap.size wr w') : WF X pr w w' :=
 ⟨h.mm.other ht1 ht2 hg hs hk (h.mm.bel.trans hb), (hk _ (lt_heap' h.rs) (by omega)).trans h.rs, ⟨Nat.le_trans h.km.size hs, fun k h1 h2 h3 => (hk k (Nat.lt_of_lt_of_le h1 h.km.size) (by omega)).trans (h.km.keep k h1 h2 h3)⟩, h.base⟩
theorem WF.fill (h : WF X pr w wr) {gx : Nat} (hg : wr.heap[gx]? = some (.cells CZ 27 (0, 0))) (hlt : w.heap.size < gx) (x : Caps) : WF X pr w (wr.setRow gx (CC x)) ∧ CB (wr.setRow gx (CC x)) gx x :=
 ⟨h.other (by decide) (by decide) hg hlt (by simp) (fun q _ hq => setRow_other _ _ _ _ hq) (below_setRow (Below.refl _ _) (by have := h.base; omega) _), setRow_heap _ _ _ _ _ _ hg⟩
theorem WF.putc (h : WF X pr w wr) {g : Nat} {a : Caps} (hg : CB wr g a) (ha : a.length = 10) (hlt : w.heap.size < g) {n : Nat} (hn : n < 10) (x : Cap) : WF X pr w (wr.setCell ⟨g, n, none⟩ (capV x)) ∧ CB (wr.setCell ⟨g, n, none⟩ (capV x)) g (a.set n x) := by
 refine ⟨h.other (by decide) (by decide) hg hlt (by simp) (fun k _ hk => Below.heap_setCell wr ⟨g, n, none⟩ _ k hk) ((Below.refl _ _).setCell (by show X.w0.heap.size ≤ g; have := h.base; omega) _), ?_⟩;have := Go.Joins.block_setCell hg (i := n) (capV x);rw [cc_set ha hn] at this;exact this
theorem WF.kept (h : WF X pr w wr) {gx : Nat} {cs : Array Value} {t : TypeId} {fr : Nat × Nat} (hg : wr.heap[gx]? = some (.cells cs t fr)) (hk : Km X wr w') : w'.heap[gx]? = some (.cells cs t fr) := mm_keep h.mm hk hg
/-- The answer is laid. -/
theorem WF.ret (h : WF X pr w wr) (a : Caps) : (wr.setRow w.heap.size (CC a)).heap[w.heap.size]? = some (.cells (CC a) 27 (0, 0)) ∧ MM X pr (wr.setRow w.heap.size (CC a)) ∧ Km X w (wr.setRow w.heap.size (CC a)) := by
 (have hk : ∀ k, k < wr.heap.size → k ≠ w.heap.size → (wr.setRow w.heap.size (CC a)).heap[k]? = wr.heap[k]? := fun k _ hk => setRow_other _ _ _ _ hk);exact ⟨setRow_heap _ _ _ _ _ _ h.rs, h.mm.other (by decide) (by decide) h.rs (by simp) hk (h.mm.bel.trans (below_setRow (Below.refl _ _) h.base _)), ⟨by simpa using h.km.size, fun k h1 h2 h3 => (hk k (Nat.lt_of_lt_of_le h1 h.km.size) (by omega)).trans (h.km.keep k h1 h2 h3)⟩⟩
end
def WS (X : Par) (w' : World) : Prop := w'.heap[X.bm]? = some (.cells #[X.v, S X.T, .bool X.refs, .map (some X.b1), .map (some X.b2)] 94 (0, 0))
theorem whole_any (X : Par) (hX : X.Ok) (pr : Nat → Prop) (i j : Nat) (hij : i ≤ j) (hj : j ≤ X.N) (w : World) (hM : MM X pr w) (nb no cap : Nat) (hv : X.v = .slice (some ⟨nb, no, none⟩) X.l.length cap) (hn : 0 < X.l.length) (hn2 : X.l.length ≤ 1000) (hfw : FitOk X X.t (X.l.length - 1)) (R : Option Caps) (hR : R = wholeP X.T X.t i j) :
  Calls Tryz.prog 33 #[PT X.bm, E (i : Nat), E (j : Nat)] w fun e w' => e = .returned (ansC R) ∧ MM X pr w' ∧ Km X w w' := by
 have HF := Lib.hid hfw;have HRR := Lib.hid hR;have HIJ := Lib.hid (And.intro hij hj);have HS := Lib.hid (wf_start hM);have hlen := hX.len;have hof := (fun W => of_cap hij (by omega : j ≤ 999999999) W);obtain ⟨cxa, cxb, hcx⟩ : ∃ p q, capV (some (i, j)) = .complex .f64 p q := ⟨_, _, rfl⟩;rw [hcx] at hof;have HCX := Lib.hid hcx;have HOF := Lib.hid hof;obtain ⟨n1, hn1⟩ : ∃ n1, X.l.length - 1 = n1 := ⟨_, rfl⟩;(have hwn : IntKind.i64.wrap ((X.l.length : Int) - 1) = (n1 : Int) := by rw [IntKind.wrap_i64]; omega);rw [hn1] at HF;have HNA := Lib.hid (fun W => none_any W);have hc0 := hM.facts.1;rw [hv] at hc0;have HV := Lib.hid hv;clear hR hij hj hM hlen hof hcx hn1 hX hn hn2 hc0 hfw;go_enter Tryz.func33, Tryz.ntmps33;go_wp2;have HD := Lib.hid (HS.out.below (Below.refl _ _).drew);refine wp_region_noPanic ?_;refine wp_region_held_drew (S := fun w' => WS X w') (by kernel_rfl) ?_ (fun hHeld => ?_)
 · (try dsimp only); exact HD.out.mm.hb
 clear HS;generalize World.drew _ = W2 at HD hHeld ⊢;refine Tk.t 0 ?_;refine Tk.t 1 ?_;refine Tk.t 2 ?_;refine Tk.t 3 ?_;refine Tk.t 4 (hy := by (intro wv hSw; (try dsimp only at hSw); obtain ⟨p0, p1, p2, p3, p4⟩ := mm_cells hSw; rw [HV.out] at p0; go_simp) <;> with_reducible rfl) ?_;refine Tk.t 5 ?_;refine Tk.t 6 ?_;refine Tk.t 7 ?_;refine Tk.t 8 ?_;cases hf : fitP X.T X.t i j nones with
 | none =>
  refine wpAnyH_ready (rs := [9, 14]) (by kernel_rfl) (by simp) ?_;refine AllReadyH.cons (o := ?o9_1) ?hi9_1 (fun K hK => ?st9_1) (AllReadyH.cons (o := ?o14_1) ?hi14_1 (fun K hK => ?st14_1) AllReadyH.nil);(case hi9_1 => simp only [List.getElem?_toArray, List.getElem?_cons_succ, List.getElem?_cons_zero]; rfl);(case hi14_1 => simp only [List.getElem?_toArray, List.getElem?_cons_succ, List.getElem?_cons_zero]; rfl);case st9_1 =>
   go_simp
   (go_at_call 21; refine (HNA.out _).mono ?_; rintro e w1 ⟨rfl, hb⟩; have HX1_9 := Lib.hid (HD.out.below hb); clear hb)
   have hws := HX1_9.out.mm.hb;(refine hK.out _ _ (by (try dsimp only); exact hws) fun hHeld => Tk.w ?_);clear hws;clear hK K;refine wpAnyH_ready (rs := [10, 14]) (by kernel_rfl) (by simp) ?_;refine AllReadyH.cons (o := ?o10_2) ?hi10_2 (fun K hK => ?st10_2) (AllReadyH.cons (o := ?o14_2) ?hi14_2 (fun K hK => ?st14_2) AllReadyH.nil);(case hi10_2 => simp only [List.getElem?_toArray, List.getElem?_cons_succ, List.getElem?_cons_zero]; rfl);(case hi14_2 => simp only [List.getElem?_toArray, List.getElem?_cons_succ, List.getElem?_cons_zero]; rfl);case st10_2 =>
    go_simp
    (go_at_call 47; have hq := HF.out _ i j nones _ HIJ.out.1 HIJ.out.2 (caps_none _) HX1_9.out.mm; refine hq.mono ?_; clear hq; rintro e w2 ⟨a1, b1, rfl, hl, hm, hk⟩; rw [hf] at hl; obtain ⟨hca, hb1⟩ := hl; subst hb1; have HCA := Lib.hid hca; have HX2_10 := Lib.hid (HX1_9.out.call hm hk); clear hca hm hk)
    have hws := HX2_10.out.mm.hb;(refine hK.out _ _ (by (try dsimp only); exact hws) fun hHeld => Tk.w ?_);clear hws;clear hK K;refine Tk.t 11 ?_;refine Tk.t 12 ?_;refine Tk.t 13 ?_;refine Tk.o 14 (fun K hK => ?st14_3);case st14_3 =>
     go_simp;obtain ⟨f1, f2, f3⟩ := HX2_10.out.zero;have HX3_14 := Lib.hid f1;have HZ := Lib.hid (And.intro f2 f3);clear f1 f2 f3;have hws := HX3_14.out.mm.hb;(refine hK.out _ _ (by (try dsimp only); exact hws) fun hHeld => Tk.w ?_);clear hws;clear hK K;generalize World.alloc _ _ = V3 at HX3_14 HZ hHeld ⊢;refine Tk.o 15 (fun K hK => ?_);refine step_store_row rfl 27 (.tmp 8) (.tmp 22) rfl w2.heap.size (CC a1) rfl rfl _ CZ HZ.out.1 (by kernel_rfl) rfl (cc_one a1) ?_;obtain ⟨f1, f2⟩ := HX3_14.out.fill HZ.out.1 HZ.out.2 a1;have HX4 := Lib.hid f1;have HB := Lib.hid (And.intro f2 HZ.out.2);clear f1 f2 HZ HX3_14;generalize World.setRow _ _ _ = W5 at HX4 HB ⊢;have hws := HX4.out.mm.hb;(refine hK.out _ _ (by (try dsimp only); exact hws) fun hHeld => Tk.w ?_);clear hws;clear hK K;refine Tk.t 16 ?_;refine Tk.d ?_;clear hHeld;go_wp2_with (first
      | (go_at_call 21; refine (HNA.out _).mono ?_; rintro e w3 ⟨rfl, hb⟩; have HE := Lib.hid (HX4.out.below hb); clear hb)
      | (refine wpList_store_row rfl 27 (.tmp 6) (.tmp 26) rfl w.heap.size (CC nones) rfl rfl _ CZ HE.out.rs (by kernel_rfl) rfl (cc_one nones) ?_; simp only [Act.put, List.setIfInBounds_toArray, List.set_cons_zero, List.set_cons_succ]; obtain ⟨r1, r2, r3⟩ := HE.out.ret nones; have HR := Lib.hid (And.intro r1 (And.intro r2 r3)); clear r1 r2 r3 HE; generalize World.setRow _ _ _ = W9 at HR ⊢))
     refine bodyPost_ret (res_caps rfl rfl HR.out.1 rfl) rfl ?_;refine ⟨?_, HR.out.2.1, HR.out.2.2⟩;rw [HRR.out, wholeP, hf];rfl
   case st14_2 =>
    go_simp;obtain ⟨f1, f2, f3⟩ := HX1_9.out.zero;have HX2_14 := Lib.hid f1;have HZ := Lib.hid (And.intro f2 f3);clear f1 f2 f3;have hws := HX2_14.out.mm.hb;(refine hK.out _ _ (by (try dsimp only); exact hws) fun hHeld => Tk.w ?_);clear hws;clear hK K;generalize World.alloc _ _ = V2 at HX2_14 HZ hHeld ⊢;refine Tk.o 10 (fun K hK => ?st10_5);case st10_5 =>
     go_simp
     (go_at_call 47; have hq := HF.out _ i j nones _ HIJ.out.1 HIJ.out.2 (caps_none _) HX2_14.out.mm; refine hq.mono ?_; clear hq; rintro e w5 ⟨a1, b1, rfl, hl, hm, hk⟩; rw [hf] at hl; obtain ⟨hca, hb1⟩ := hl; subst hb1; have HCA := Lib.hid hca; have HX5_10 := Lib.hid (HX2_14.out.call hm hk); have hzz := HX2_14.out.kept HZ.out.1 hk; have hz2 := HZ.out.2; clear HZ; have HZ := Lib.hid (And.intro hzz hz2); clear hzz hz2; clear hca hm hk)
     have hws := HX5_10.out.mm.hb;(refine hK.out _ _ (by (try dsimp only); exact hws) fun hHeld => Tk.w ?_);clear hws;clear hK K;refine Tk.t 11 ?_;refine Tk.t 12 ?_;refine Tk.t 13 ?_;refine Tk.o 15 (fun K hK => ?_);refine step_store_row rfl 27 (.tmp 8) (.tmp 22) rfl w1.heap.size (CC a1) rfl rfl _ CZ HZ.out.1 (by kernel_rfl) rfl (cc_one a1) ?_;obtain ⟨f1, f2⟩ := HX5_10.out.fill HZ.out.1 HZ.out.2 a1;have HX6 := Lib.hid f1;have HB := Lib.hid (And.intro f2 HZ.out.2);clear f1 f2 HZ HX5_10;generalize World.setRow _ _ _ = W5 at HX6 HB ⊢;have hws := HX6.out.mm.hb;(refine hK.out _ _ (by (try dsimp only); exact hws) fun hHeld => Tk.w ?_);clear hws;clear hK K;refine Tk.t 16 ?_;refine Tk.d ?_;clear hHeld;go_wp2_with (first
      | (go_at_call 21; refine (HNA.out _).mono ?_; rintro e w3 ⟨rfl, hb⟩; have HE := Lib.hid (HX6.out.below hb); clear hb)
      | (refine wpList_store_row rfl 27 (.tmp 6) (.tmp 26) rfl w.heap.size (CC nones) rfl rfl _ CZ HE.out.rs (by kernel_rfl) rfl (cc_one nones) ?_; simp only [Act.put, List.setIfInBounds_toArray, List.set_cons_zero, List.set_cons_succ]; obtain ⟨r1, r2, r3⟩ := HE.out.ret nones; have HR := Lib.hid (And.intro r1 (And.intro r2 r3)); clear r1 r2 r3 HE; generalize World.setRow _ _ _ = W9 at HR ⊢))
     refine bodyPost_ret (res_caps rfl rfl HR.out.1 rfl) rfl ?_;refine ⟨?_, HR.out.2.1, HR.out.2.2⟩;rw [HRR.out, wholeP, hf];rfl
  case st14_1 =>
   go_simp;obtain ⟨f1, f2, f3⟩ := HD.out.zero;have HX1_14 := Lib.hid f1;have HZ := Lib.hid (And.intro f2 f3);clear f1 f2 f3;have hws := HX1_14.out.mm.hb;(refine hK.out _ _ (by (try dsimp only); exact hws) fun hHeld => Tk.w ?_);clear hws;clear hK K;generalize World.alloc _ _ = V1 at HX1_14 HZ hHeld ⊢;refine Tk.o 9 (fun K hK => ?st9_7);case st9_7 =>
    go_simp
    (go_at_call 21; refine (HNA.out _).mono ?_; rintro e w7 ⟨rfl, hb⟩; have HX7_9 := Lib.hid (HX1_14.out.below hb); have hzz := (hb.block _ (lt_heap' HZ.out.1)).trans HZ.out.1; have hz2 := HZ.out.2; clear HZ; have HZ := Lib.hid (And.intro hzz hz2); clear hzz hz2; clear hb)
    have hws := HX7_9.out.mm.hb;(refine hK.out _ _ (by (try dsimp only); exact hws) fun hHeld => Tk.w ?_);clear hws;clear hK K;refine Tk.o 10 (fun K hK => ?st10_8);case st10_8 =>
     go_simp
     (go_at_call 47; have hq := HF.out _ i j nones _ HIJ.out.1 HIJ.out.2 (caps_none _) HX7_9.out.mm; refine hq.mono ?_; clear hq; rintro e w8 ⟨a1, b1, rfl, hl, hm, hk⟩; rw [hf] at hl; obtain ⟨hca, hb1⟩ := hl; subst hb1; have HCA := Lib.hid hca; have HX8_10 := Lib.hid (HX7_9.out.call hm hk); have hzz := HX7_9.out.kept HZ.out.1 hk; have hz2 := HZ.out.2; clear HZ; have HZ := Lib.hid (And.intro hzz hz2); clear hzz hz2; clear hca hm hk)
     have hws := HX8_10.out.mm.hb;(refine hK.out _ _ (by (try dsimp only); exact hws) fun hHeld => Tk.w ?_);clear hws;clear hK K;refine Tk.t 11 ?_;refine Tk.t 12 ?_;refine Tk.t 13 ?_;refine Tk.o 15 (fun K hK => ?_);refine step_store_row rfl 27 (.tmp 8) (.tmp 22) rfl W2.heap.size (CC a1) rfl rfl _ CZ HZ.out.1 (by kernel_rfl) rfl (cc_one a1) ?_;obtain ⟨f1, f2⟩ := HX8_10.out.fill HZ.out.1 HZ.out.2 a1;have HX9 := Lib.hid f1;have HB := Lib.hid (And.intro f2 HZ.out.2);clear f1 f2 HZ HX8_10;generalize World.setRow _ _ _ = W5 at HX9 HB ⊢;have hws := HX9.out.mm.hb;(refine hK.out _ _ (by (try dsimp only); exact hws) fun hHeld => Tk.w ?_);clear hws;clear hK K;refine Tk.t 16 ?_;refine Tk.d ?_;clear hHeld;go_wp2_with (first
      | (go_at_call 21; refine (HNA.out _).mono ?_; rintro e w3 ⟨rfl, hb⟩; have HE := Lib.hid (HX9.out.below hb); clear hb)
      | (refine wpList_store_row rfl 27 (.tmp 6) (.tmp 26) rfl w.heap.size (CC nones) rfl rfl _ CZ HE.out.rs (by kernel_rfl) rfl (cc_one nones) ?_; simp only [Act.put, List.setIfInBounds_toArray, List.set_cons_zero, List.set_cons_succ]; obtain ⟨r1, r2, r3⟩ := HE.out.ret nones; have HR := Lib.hid (And.intro r1 (And.intro r2 r3)); clear r1 r2 r3 HE; generalize World.setRow _ _ _ = W9 at HR ⊢))
     refine bodyPost_ret (res_caps rfl rfl HR.out.1 rfl) rfl ?_;refine ⟨?_, HR.out.2.1, HR.out.2.2⟩;rw [HRR.out, wholeP, hf];rfl
 | some a0 =>
  refine wpAnyH_ready (rs := [9, 14]) (by kernel_rfl) (by simp) ?_;refine AllReadyH.cons (o := ?o9_10) ?hi9_10 (fun K hK => ?st9_10) (AllReadyH.cons (o := ?o14_10) ?hi14_10 (fun K hK => ?st14_10) AllReadyH.nil);(case hi9_10 => simp only [List.getElem?_toArray, List.getElem?_cons_succ, List.getElem?_cons_zero]; rfl);(case hi14_10 => simp only [List.getElem?_toArray, List.getElem?_cons_succ, List.getElem?_cons_zero]; rfl);case st9_10 =>
   go_simp
   (go_at_call 21; refine (HNA.out _).mono ?_; rintro e w10 ⟨rfl, hb⟩; have HX10_9 := Lib.hid (HD.out.below hb); clear hb)
   have hws := HX10_9.out.mm.hb;(refine hK.out _ _ (by (try dsimp only); exact hws) fun hHeld => Tk.w ?_);clear hws;clear hK K;refine wpAnyH_ready (rs := [10, 14]) (by kernel_rfl) (by simp) ?_;refine AllReadyH.cons (o := ?o10_11) ?hi10_11 (fun K hK => ?st10_11) (AllReadyH.cons (o := ?o14_11) ?hi14_11 (fun K hK => ?st14_11) AllReadyH.nil);(case hi10_11 => simp only [List.getElem?_toArray, List.getElem?_cons_succ, List.getElem?_cons_zero]; rfl);(case hi14_11 => simp only [List.getElem?_toArray, List.getElem?_cons_succ, List.getElem?_cons_zero]; rfl);case st10_11 =>
    go_simp
    (go_at_call 47; have hq := HF.out _ i j nones _ HIJ.out.1 HIJ.out.2 (caps_none _) HX10_9.out.mm; refine hq.mono ?_; clear hq; rintro e w11 ⟨a1, b1, rfl, hl, hm, hk⟩; rw [hf] at hl; obtain ⟨hca, hb1, ha1⟩ := hl; subst hb1; subst ha1; have HCA := Lib.hid hca; have HX11_10 := Lib.hid (HX10_9.out.call hm hk); clear hca hm hk)
    have hws := HX11_10.out.mm.hb;(refine hK.out _ _ (by (try dsimp only); exact hws) fun hHeld => Tk.w ?_);clear hws;clear hK K;refine Tk.t 11 ?_;refine Tk.t 12 ?_;refine Tk.t 13 ?_;refine Tk.o 14 (fun K hK => ?st14_12);case st14_12 =>
     go_simp;obtain ⟨f1, f2, f3⟩ := HX11_10.out.zero;have HX12_14 := Lib.hid f1;have HZ := Lib.hid (And.intro f2 f3);clear f1 f2 f3;have hws := HX12_14.out.mm.hb;(refine hK.out _ _ (by (try dsimp only); exact hws) fun hHeld => Tk.w ?_);clear hws;clear hK K;generalize World.alloc _ _ = V12 at HX12_14 HZ hHeld ⊢;refine Tk.o 15 (fun K hK => ?_);refine step_store_row rfl 27 (.tmp 8) (.tmp 22) rfl w11.heap.size (CC a1) rfl rfl _ CZ HZ.out.1 (by kernel_rfl) rfl (cc_one a1) ?_;obtain ⟨f1, f2⟩ := HX12_14.out.fill HZ.out.1 HZ.out.2 a1;have HX13 := Lib.hid f1;have HB := Lib.hid (And.intro f2 HZ.out.2);clear f1 f2 HZ HX12_14;generalize World.setRow _ _ _ = W5 at HX13 HB ⊢;have hws := HX13.out.mm.hb;(refine hK.out _ _ (by (try dsimp only); exact hws) fun hHeld => Tk.w ?_);clear hws;clear hK K;refine Tk.t 16 ?_;refine Tk.d ?_;clear hHeld;have HG := Lib.hid HB.out.2;have hcl := cap_cell HB.out.1 (n := 0) (by decide);(have hfz : W5.frozen? ⟨w11.heap.size, 0, none⟩ = false := by simp [World.frozen?, HB.out.1]);have hst := store_complex Tryz.prog W5 (w11.heap.size) 0 cxa cxb hcl hfz;obtain ⟨hp1, hp2⟩ := HX13.out.putc HB.out.1 HCA.out.len HG.out (n := 0) (by decide) (some (i, j));obtain ⟨a2, ha2⟩ : ∃ a2, a2 = a1.set 0 (some (i, j)) := ⟨_, rfl⟩;rw [← ha2] at hp2;rw [HCX.out] at hp1 hp2;have HA2 := Lib.hid ha2;have HS5 := Lib.hid hp1;have HB5 := Lib.hid hp2;clear hp1 hp2 ha2 HX13 HB;go_wp2_with (first
      | (go_at_call 48; refine (HOF.out W5).mono ?_; rintro e w6 ⟨rfl, rfl⟩)
      | (refine wpList_load_row rfl 27 (.tmp 8) rfl w11.heap.size rfl _ (CC a2) (0, 0) _ HB5.out Tryz.underlying27 rfl (by kernel_rfl) ?_; simp only [Act.put, List.setIfInBounds_toArray, List.set_cons_zero, List.set_cons_succ])
      | (refine wpList_store_row rfl 27 (.tmp 6) (.tmp 34) rfl w.heap.size (CC a2) rfl rfl _ CZ HS5.out.rs (by kernel_rfl) rfl (cc_one a2) ?_; simp only [Act.put, List.setIfInBounds_toArray, List.set_cons_zero, List.set_cons_succ]; obtain ⟨r1, r2, r3⟩ := HS5.out.ret a2; have HR := Lib.hid (And.intro r1 (And.intro r2 r3)); clear r1 r2 r3 HS5; generalize World.setRow _ _ _ = W9 at HR ⊢))
     refine bodyPost_ret (res_caps rfl rfl HR.out.1 rfl) rfl ?_;refine ⟨?_, HR.out.2.1, HR.out.2.2⟩;rw [HRR.out, wholeP, hf, HA2.out];rfl
   case st14_11 =>
    go_simp;obtain ⟨f1, f2, f3⟩ := HX10_9.out.zero;have HX11_14 := Lib.hid f1;have HZ := Lib.hid (And.intro f2 f3);clear f1 f2 f3;have hws := HX11_14.out.mm.hb;(refine hK.out _ _ (by (try dsimp only); exact hws) fun hHeld => Tk.w ?_);clear hws;clear hK K;generalize World.alloc _ _ = V11 at HX11_14 HZ hHeld ⊢;refine Tk.o 10 (fun K hK => ?st10_14);case st10_14 =>
     go_simp
     (go_at_call 47; have hq := HF.out _ i j nones _ HIJ.out.1 HIJ.out.2 (caps_none _) HX11_14.out.mm; refine hq.mono ?_; clear hq; rintro e w14 ⟨a1, b1, rfl, hl, hm, hk⟩; rw [hf] at hl; obtain ⟨hca, hb1, ha1⟩ := hl; subst hb1; subst ha1; have HCA := Lib.hid hca; have HX14_10 := Lib.hid (HX11_14.out.call hm hk); have hzz := HX11_14.out.kept HZ.out.1 hk; have hz2 := HZ.out.2; clear HZ; have HZ := Lib.hid (And.intro hzz hz2); clear hzz hz2; clear hca hm hk)
     have hws := HX14_10.out.mm.hb;(refine hK.out _ _ (by (try dsimp only); exact hws) fun hHeld => Tk.w ?_);clear hws;clear hK K;refine Tk.t 11 ?_;refine Tk.t 12 ?_;refine Tk.t 13 ?_;refine Tk.o 15 (fun K hK => ?_);refine step_store_row rfl 27 (.tmp 8) (.tmp 22) rfl w10.heap.size (CC a1) rfl rfl _ CZ HZ.out.1 (by kernel_rfl) rfl (cc_one a1) ?_;obtain ⟨f1, f2⟩ := HX14_10.out.fill HZ.out.1 HZ.out.2 a1;have HX15 := Lib.hid f1;have HB := Lib.hid (And.intro f2 HZ.out.2);clear f1 f2 HZ HX14_10;generalize World.setRow _ _ _ = W5 at HX15 HB ⊢;have hws := HX15.out.mm.hb;(refine hK.out _ _ (by (try dsimp only); exact hws) fun hHeld => Tk.w ?_);clear hws;clear hK K;refine Tk.t 16 ?_;refine Tk.d ?_;clear hHeld;have HG := Lib.hid HB.out.2;have hcl := cap_cell HB.out.1 (n := 0) (by decide);(have hfz : W5.frozen? ⟨w10.heap.size, 0, none⟩ = false := by simp [World.frozen?, HB.out.1]);have hst := store_complex Tryz.prog W5 (w10.heap.size) 0 cxa cxb hcl hfz;obtain ⟨hp1, hp2⟩ := HX15.out.putc HB.out.1 HCA.out.len HG.out (n := 0) (by decide) (some (i, j));obtain ⟨a2, ha2⟩ : ∃ a2, a2 = a1.set 0 (some (i, j)) := ⟨_, rfl⟩;rw [← ha2] at hp2;rw [HCX.out] at hp1 hp2;have HA2 := Lib.hid ha2;have HS5 := Lib.hid hp1;have HB5 := Lib.hid hp2;clear hp1 hp2 ha2 HX15 HB;go_wp2_with (first
      | (go_at_call 48; refine (HOF.out W5).mono ?_; rintro e w6 ⟨rfl, rfl⟩)
      | (refine wpList_load_row rfl 27 (.tmp 8) rfl w10.heap.size rfl _ (CC a2) (0, 0) _ HB5.out Tryz.underlying27 rfl (by kernel_rfl) ?_; simp only [Act.put, List.setIfInBounds_toArray, List.set_cons_zero, List.set_cons_succ])
      | (refine wpList_store_row rfl 27 (.tmp 6) (.tmp 34) rfl w.heap.size (CC a2) rfl rfl _ CZ HS5.out.rs (by kernel_rfl) rfl (cc_one a2) ?_; simp only [Act.put, List.setIfInBounds_toArray, List.set_cons_zero, List.set_cons_succ]; obtain ⟨r1, r2, r3⟩ := HS5.out.ret a2; have HR := Lib.hid (And.intro r1 (And.intro r2 r3)); clear r1 r2 r3 HS5; generalize World.setRow _ _ _ = W9 at HR ⊢))
     refine bodyPost_ret (res_caps rfl rfl HR.out.1 rfl) rfl ?_;refine ⟨?_, HR.out.2.1, HR.out.2.2⟩;rw [HRR.out, wholeP, hf, HA2.out];rfl
  case st14_10 =>
   go_simp;obtain ⟨f1, f2, f3⟩ := HD.out.zero;have HX10_14 := Lib.hid f1;have HZ := Lib.hid (And.intro f2 f3);clear f1 f2 f3;have hws := HX10_14.out.mm.hb;(refine hK.out _ _ (by (try dsimp only); exact hws) fun hHeld => Tk.w ?_);clear hws;clear hK K;generalize World.alloc _ _ = V10 at HX10_14 HZ hHeld ⊢;refine Tk.o 9 (fun K hK => ?st9_16);case st9_16 =>
    go_simp
    (go_at_call 21; refine (HNA.out _).mono ?_; rintro e w16 ⟨rfl, hb⟩; have HX16_9 := Lib.hid (HX10_14.out.below hb); have hzz := (hb.block _ (lt_heap' HZ.out.1)).trans HZ.out.1; have hz2 := HZ.out.2; clear HZ; have HZ := Lib.hid (And.intro hzz hz2); clear hzz hz2; clear hb)
    have hws := HX16_9.out.mm.hb;(refine hK.out _ _ (by (try dsimp only); exact hws) fun hHeld => Tk.w ?_);clear hws;clear hK K;refine Tk.o 10 (fun K hK => ?st10_17);case st10_17 =>
     go_simp
     (go_at_call 47; have hq := HF.out _ i j nones _ HIJ.out.1 HIJ.out.2 (caps_none _) HX16_9.out.mm; refine hq.mono ?_; clear hq; rintro e w17 ⟨a1, b1, rfl, hl, hm, hk⟩; rw [hf] at hl; obtain ⟨hca, hb1, ha1⟩ := hl; subst hb1; subst ha1; have HCA := Lib.hid hca; have HX17_10 := Lib.hid (HX16_9.out.call hm hk); have hzz := HX16_9.out.kept HZ.out.1 hk; have hz2 := HZ.out.2; clear HZ; have HZ := Lib.hid (And.intro hzz hz2); clear hzz hz2; clear hca hm hk)
     have hws := HX17_10.out.mm.hb;(refine hK.out _ _ (by (try dsimp only); exact hws) fun hHeld => Tk.w ?_);clear hws;clear hK K;refine Tk.t 11 ?_;refine Tk.t 12 ?_;refine Tk.t 13 ?_;refine Tk.o 15 (fun K hK => ?_);refine step_store_row rfl 27 (.tmp 8) (.tmp 22) rfl W2.heap.size (CC a1) rfl rfl _ CZ HZ.out.1 (by kernel_rfl) rfl (cc_one a1) ?_;obtain ⟨f1, f2⟩ := HX17_10.out.fill HZ.out.1 HZ.out.2 a1;have HX18 := Lib.hid f1;have HB := Lib.hid (And.intro f2 HZ.out.2);clear f1 f2 HZ HX17_10;generalize World.setRow _ _ _ = W5 at HX18 HB ⊢;have hws := HX18.out.mm.hb;(refine hK.out _ _ (by (try dsimp only); exact hws) fun hHeld => Tk.w ?_);clear hws;clear hK K;refine Tk.t 16 ?_;refine Tk.d ?_;clear hHeld;have HG := Lib.hid HB.out.2;have hcl := cap_cell HB.out.1 (n := 0) (by decide);(have hfz : W5.frozen? ⟨W2.heap.size, 0, none⟩ = false := by simp [World.frozen?, HB.out.1]);have hst := store_complex Tryz.prog W5 (W2.heap.size) 0 cxa cxb hcl hfz;obtain ⟨hp1, hp2⟩ := HX18.out.putc HB.out.1 HCA.out.len HG.out (n := 0) (by decide) (some (i, j));obtain ⟨a2, ha2⟩ : ∃ a2, a2 = a1.set 0 (some (i, j)) := ⟨_, rfl⟩;rw [← ha2] at hp2;rw [HCX.out] at hp1 hp2;have HA2 := Lib.hid ha2;have HS5 := Lib.hid hp1;have HB5 := Lib.hid hp2;clear hp1 hp2 ha2 HX18 HB;go_wp2_with (first
      | (go_at_call 48; refine (HOF.out W5).mono ?_; rintro e w6 ⟨rfl, rfl⟩)
      | (refine wpList_load_row rfl 27 (.tmp 8) rfl W2.heap.size rfl _ (CC a2) (0, 0) _ HB5.out Tryz.underlying27 rfl (by kernel_rfl) ?_; simp only [Act.put, List.setIfInBounds_toArray, List.set_cons_zero, List.set_cons_succ])
      | (refine wpList_store_row rfl 27 (.tmp 6) (.tmp 34) rfl w.heap.size (CC a2) rfl rfl _ CZ HS5.out.rs (by kernel_rfl) rfl (cc_one a2) ?_; simp only [Act.put, List.setIfInBounds_toArray, List.set_cons_zero, List.set_cons_succ]; obtain ⟨r1, r2, r3⟩ := HS5.out.ret a2; have HR := Lib.hid (And.intro r1 (And.intro r2 r3)); clear r1 r2 r3 HS5; generalize World.setRow _ _ _ = W9 at HR ⊢))
     refine bodyPost_ret (res_caps rfl rfl HR.out.1 rfl) rfl ?_;refine ⟨?_, HR.out.2.1, HR.out.2.2⟩;rw [HRR.out, wholeP, hf, HA2.out];rfl
end Go.Proofs.YtlicoffnjphphaaGreatDoor.Mt
