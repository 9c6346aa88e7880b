/- The texts MtF MtF0 St2 MtF1 MtF3 MtF4. -/
import Derived.Test.YtlicoffnjphphaaGreatDoorPk07
import Derived.Test.YtlicoffnjphphaaGreatDoorPk20
set_option linter.unusedVariables false
set_option linter.unusedSimpArgs false
namespace Go.Proofs.YtlicoffnjphphaaGreatDoor.Mt
open Go.RowKit Go.Shelf
open Go.Proofs.YtlicoffnjphphaaGreatDoor.Rx
open Go.Proofs.YtlicoffnjphphaaGreatDoor.Rx.Tr
open Go.Proofs.YtlicoffnjphphaaGreatDoor.St (Wf word mem SV SV_eq)
/-- The memory while a tree is walked through: the key, the row, a box for it, the node. -/
structure FS (X : Par) (pr : Nat → Prop) (w : World) (ia i : Nat) (nd : Nd) (f : Nat → Bool) (wr : World) : Prop where
  mm : MM X (Pv pr [w.heap.size, w.heap.size + 1, w.heap.size + 1 + 1, w.heap.size + 1 + 1 + 1]) wr
  kk : wr.heap[w.heap.size]? = some (.cells #[E (ia : Nat), E (i : Nat)] 150 (0, 0))
  rb : RB wr (w.heap.size + 1) (X.N + 1) f
  bx : wr.heap[w.heap.size + 1 + 1]? = some (.cells #[SL (w.heap.size + 1) (X.N + 1)] 111 (0, 0))
  nb : wr.heap[w.heap.size + 1 + 1 + 1]? = some (.cells (NC nd) 55 (0, 0))
  km : Km X w wr
  base : X.w0.heap.size ≤ w.heap.size
theorem cells_map {w : World} {a b : Nat} {c : Array Value} {t : TypeId} {fr : Nat × Nat} {es : Array MapEntry} {clk : Nat} (h1 : w.heap[a]? = some (.cells c t fr)) (h2 : w.heap[b]? = some (.map es clk)) : a ≠ b := by
  rintro rfl
  have := h1.symm.trans h2
  simp at this
section
variable {X : Par} {pr : Nat → Prop} {w wr w' : World} {ia i : Nat} {nd : Nd} {f g : Nat → Bool}
theorem FS.keepK (h : FS X pr w ia i nd f wr) (hk : Km X wr w') (k : Nat) {c : Array Value} {t : TypeId} {fr : Nat × Nat} (hc : wr.heap[k]? = some (.cells c t fr)) : w'.heap[k]? = some (.cells c t fr) := by
  obtain ⟨es1, c1, a1, _⟩ := h.mm.e1
  obtain ⟨es2, c2, a2, _⟩ := h.mm.e2
  exact (hk.keep k (lt_heap' hc) (cells_map hc a1) (cells_map hc a2)).trans hc
theorem FS.call (h : FS X pr w ia i nd f wr) (hm : MM X (Pv pr [w.heap.size, w.heap.size + 1, w.heap.size + 1 + 1, w.heap.size + 1 + 1 + 1]) w') (hk : Km X wr w') : FS X pr w ia i nd f w' :=
  ⟨hm, h.keepK hk _ h.kk, h.keepK hk _ h.rb, h.keepK hk _ h.bx, h.keepK hk _ h.nb, h.km.trans hk, h.base⟩
theorem FS.below (h : FS X pr w ia i nd f wr) (hb : Below wr.heap.size wr w') : FS X pr w ia i nd f w' := h.call (h.mm.below hb) (Km.of_below hb)
/-- The row alone has turned. -/
theorem FS.row (h : FS X pr w ia i nd f wr) (hr : RB w' (w.heap.size + 1) (X.N + 1) g) (ho : Ob (w.heap.size + 1) wr w') : FS X pr w ia i nd g w' := by
  have ha := h.mm.apart h.rb
  have k : ∀ k, k < wr.heap.size → k ≠ w.heap.size + 1 → w'.heap[k]? = wr.heap[k]? := ho.far
  refine ⟨h.mm.own (B := w.heap.size + 1) (Or.inr (by simp)) (by have := h.base; omega) ha.1 ha.2.1 ha.2.2 ho.bel.size k (h.mm.bel.trans (ho.bel.mono (by have := h.base; omega))), (k _ (lt_heap' h.kk) (by omega)).trans h.kk, hr, (k _ (lt_heap' h.bx) (by omega)).trans h.bx, (k _ (lt_heap' h.nb) (by omega)).trans h.nb, ⟨Nat.le_trans h.km.size ho.bel.size, fun q h1 h2 h3 => (k q (Nat.lt_of_lt_of_le h1 h.km.size) (by omega)).trans (h.km.keep q h1 h2 h3)⟩, h.base⟩
theorem FS.put (h : FS X pr w ia i nd f wr) {p : Nat} {v : Bool} (hf : ∀ k, k < X.N + 1 → g k = if k = p then v else f k) : FS X pr w ia i nd g (wr.setCell ⟨w.heap.size + 1, p, none⟩ (.bool v)) :=
  h.row (h.rb.put hf) ((Ob.refl _ _).set _ _)
theorem FS.cells (h : FS X pr w ia i nd f wr) :
    (wr.cell? ⟨w.heap.size, 0, none⟩ = some (E (ia : Nat)) ∧ wr.cell? ⟨w.heap.size, 1, none⟩ = some (E (i : Nat))) ∧ wr.cell? ⟨w.heap.size + 1 + 1, 0, none⟩ = some (SL (w.heap.size + 1) (X.N + 1)) ∧
    (wr.cell? ⟨w.heap.size + 1 + 1 + 1, 0, none⟩ = some (E nd.k) ∧ wr.cell? ⟨w.heap.size + 1 + 1 + 1, 1, none⟩ = some (U (word nd.s 0)) ∧ wr.cell? ⟨w.heap.size + 1 + 1 + 1, 2, none⟩ = some (U (word nd.s 1)) ∧ wr.cell? ⟨w.heap.size + 1 + 1 + 1, 3, none⟩ = some (U (word nd.s 2)) ∧ wr.cell? ⟨w.heap.size + 1 + 1 + 1, 4, none⟩ = some (U (word nd.s 3)) ∧
      wr.cell? ⟨w.heap.size + 1 + 1 + 1, 5, none⟩ = some (E nd.a) ∧ wr.cell? ⟨w.heap.size + 1 + 1 + 1, 6, none⟩ = some (E nd.b) ∧ wr.cell? ⟨w.heap.size + 1 + 1 + 1, 7, none⟩ = some (E nd.mn) ∧ wr.cell? ⟨w.heap.size + 1 + 1 + 1, 8, none⟩ = some (E nd.mx) ∧ wr.cell? ⟨w.heap.size + 1 + 1 + 1, 9, none⟩ = some (E nd.n)) :=
  ⟨⟨(Lib.cell_of_heap h.kk 0).trans rfl, (Lib.cell_of_heap h.kk 1).trans rfl⟩, (Lib.cell_of_heap h.bx 0).trans rfl, (Lib.cell_of_heap h.nb 0).trans rfl, (Lib.cell_of_heap h.nb 1).trans rfl, (Lib.cell_of_heap h.nb 2).trans rfl, (Lib.cell_of_heap h.nb 3).trans rfl, (Lib.cell_of_heap h.nb 4).trans rfl, (Lib.cell_of_heap h.nb 5).trans rfl, (Lib.cell_of_heap h.nb 6).trans rfl, (Lib.cell_of_heap h.nb 7).trans rfl, (Lib.cell_of_heap h.nb 8).trans rfl, (Lib.cell_of_heap h.nb 9).trans rfl⟩
/-- The beginning, behind a miss. -/
theorem fs_start {W : World} (hM : MM X pr W) (hp : ∀ k, pr k → k < w.heap.size) (hs : W.heap.size = w.heap.size + 1) (hk : W.heap[w.heap.size]? = some (.cells #[E (ia : Nat), E (i : Nat)] 150 (0, 0))) (hkm : Km X w W) (nd : Nd) (hb0 : X.w0.heap.size ≤ w.heap.size) :
    FS X pr w ia i nd (fun _ => false) (((W.alloc (.cells (bcn (X.N + 1) fun _ => false) 4)).alloc (.cells #[SL (w.heap.size + 1) (X.N + 1)] 111)).alloc (.cells (NC nd) 55)) := by
  have b1 : Below W.heap.size W (W.alloc (.cells (bcn (X.N + 1) fun _ => false) 4)) := (Below.refl _ _).alloc (Nat.le_refl _) _
  have b2 := b1.alloc (by simp) (.cells #[SL (w.heap.size + 1) (X.N + 1)] 111)
  have b3 := b2.alloc (by simp; omega) (.cells (NC nd) 55)
  have s3 : (((W.alloc (.cells (bcn (X.N + 1) fun _ => false) 4)).alloc (.cells #[SL (w.heap.size + 1) (X.N + 1)] 111)).alloc (.cells (NC nd) 55)).heap.size = w.heap.size + 4 := by simp [hs]
  have e1 := heap_alloc_new W (.cells (bcn (X.N + 1) fun _ => false) 4)
  have e2 := heap_alloc_new (W.alloc (.cells (bcn (X.N + 1) fun _ => false) 4)) (.cells #[SL (w.heap.size + 1) (X.N + 1)] 111)
  have e3 := heap_alloc_new ((W.alloc (.cells (bcn (X.N + 1) fun _ => false) 4)).alloc (.cells #[SL (w.heap.size + 1) (X.N + 1)] 111)) (.cells (NC nd) 55)
  rw [hs] at e1
  rw [show (W.alloc (.cells (bcn (X.N + 1) fun _ => false) 4)).heap.size = w.heap.size + 1 + 1 by simp [hs]] at e2
  rw [show ((W.alloc (.cells (bcn (X.N + 1) fun _ => false) 4)).alloc (.cells #[SL (w.heap.size + 1) (X.N + 1)] 111)).heap.size = w.heap.size + 1 + 1 + 1 by simp [hs]] at e3
  refine ⟨?_, (b3.block _ (by omega)).trans hk, ?_, ?_, e3, hkm.below b3, hb0⟩
  · obtain ⟨es1, c1, a1, k1⟩ := hM.e1
    have h' := hM.below b3
    refine ⟨h'.bel, h'.hb, ⟨es1, c1, (b3.block _ (lt_heap' a1)).trans a1, fun e he => ?_⟩, h'.e2, fun k q => ?_⟩
    · obtain ⟨x, o, i', g, q1, q2, q3, q4, q5⟩ := k1 e he
      refine ⟨x, o, i', g, q1, q2, q3, (b3.block _ q4.lt).trans q4, fun q => ?_⟩
      rcases q with q | q
      · exact q5 q
      · simp only [List.mem_cons, List.not_mem_nil, or_false] at q
        have := q4.lt
        rcases q with rfl | q
        · have := q4.symm.trans hk
          simp only [Option.some.injEq, Obj.cells.injEq] at this
          exact absurd this.2.1 (by decide)
        · omega
    · rw [s3]
      rcases q with q | q
      · have := hp k q; omega
      · simp only [List.mem_cons, List.not_mem_nil, or_false] at q
        omega
  · exact (Below.heap_alloc _ _ _ (by simp [hs])).trans ((Below.heap_alloc _ _ _ (by simp [hs])).trans e1)
  · exact (Below.heap_alloc _ _ _ (by simp [hs])).trans e2
/-- What is read at the end. -/
def LQ (X : Par) (w : World) (ia i : Nat) (w' : World) : Prop :=
  w'.cell? ⟨X.bm, 3, none⟩ = some (.map (some X.b1)) ∧ w'.cell? ⟨w.heap.size, 0, none⟩ = some (E (ia : Nat)) ∧ w'.cell? ⟨w.heap.size, 1, none⟩ = some (E (i : Nat)) ∧ w'.cell? ⟨w.heap.size + 1 + 1, 0, none⟩ = some (SL (w.heap.size + 1) (X.N + 1))
/-- What is read at the beginning. -/
def LK (X : Par) (w : World) (ia i : Nat) (w' : World) : Prop :=
  w'.cell? ⟨X.bm, 3, none⟩ = some (.map (some X.b1)) ∧ w'.cell? ⟨w.heap.size, 0, none⟩ = some (E (ia : Nat)) ∧ w'.cell? ⟨w.heap.size, 1, none⟩ = some (E (i : Nat)) ∧ w'.heap[X.b1]? = w.heap[X.b1]?
theorem lk_start (hM : MM X pr w) (ia i : Nat) : LK X w ia i ((w.alloc (.cells #[E (ia : Nat), E (i : Nat)] 150)).drew) ∧ MM X pr ((w.alloc (.cells #[E (ia : Nat), E (i : Nat)] 150)).drew) ∧ ((w.alloc (.cells #[E (ia : Nat), E (i : Nat)] 150)).drew).heap[w.heap.size]? = some (.cells #[E (ia : Nat), E (i : Nat)] 150 (0, 0)) ∧ Km X w ((w.alloc (.cells #[E (ia : Nat), E (i : Nat)] 150)).drew) ∧ Below w.heap.size w ((w.alloc (.cells #[E (ia : Nat), E (i : Nat)] 150)).drew) := by
  have hb : Below w.heap.size w ((w.alloc (.cells #[E (ia : Nat), E (i : Nat)] 150)).drew) := ((Below.refl _ _).alloc (Nat.le_refl _) _).drew
  have hm := hM.below hb
  have hk : ((w.alloc (.cells #[E (ia : Nat), E (i : Nat)] 150)).drew).heap[w.heap.size]? = some (.cells #[E (ia : Nat), E (i : Nat)] 150 (0, 0)) := heap_alloc_new _ _
  obtain ⟨es1, c1, a1, _⟩ := hM.e1
  exact ⟨⟨hm.facts.2.2.2.1, (Lib.cell_of_heap hk 0).trans rfl, (Lib.cell_of_heap hk 1).trans rfl, hb.block _ (lt_heap' a1)⟩, hm, hk, Km.of_below hb, hb⟩
/-- The end: the row goes into the map. -/
theorem FS.store (h : FS X pr w ia i nd f wr) (hX : X.Ok) (hp : ∀ k, pr k → k < w.heap.size) {x : Tr} {o : Nat} (ha : At X.l x o) (hia : ia = o + x.size - 1) (hf : ∀ j, j < X.N + 1 → endsP X.T x i j = f j) :
    ∃ w', LQ X w ia i w' ∧ (Instr.mapUpdate 91 (.map (some X.b1)) (PK ia i) (SL (w.heap.size + 1) (X.N + 1))).run Tryz.prog wr = .ok () w' ∧ MM X pr w' ∧ Km X w w' ∧ RB w' (w.heap.size + 1) (X.N + 1) (endsP X.T x i) ∧ w'.cell? ⟨w.heap.size + 1 + 1, 0, none⟩ = some (SL (w.heap.size + 1) (X.N + 1)) := by
  have hm : MM X pr wr := h.mm.mono fun k hk => Or.inl hk
  obtain ⟨w', h1, h2, h3, h4⟩ := hm.put1 hX (x := x) (o := o) (i := i) (g := w.heap.size + 1) ha (h.rb.congr hf) (fun q => by have := hp _ q; omega)
  subst hia
  have h5 := h.keepK h3 _ h.bx
  have h6 := h.keepK h3 _ h.kk
  exact ⟨w', ⟨h2.facts.2.2.2.1, (Lib.cell_of_heap h6 0).trans rfl, (Lib.cell_of_heap h6 1).trans rfl, (Lib.cell_of_heap h5 0).trans rfl⟩, h1, h2, h.km.trans h3, h4, (Lib.cell_of_heap h5 0).trans rfl⟩
theorem FS.lq (h : FS X pr w ia i nd f wr) : LQ X w ia i wr := ⟨h.mm.facts.2.2.2.1, h.cells.1.1, h.cells.1.2, h.cells.2.1⟩
end
theorem FS.times {X : Par} {pr : Nat → Prop} {w wr w' : World} {ia i : Nat} {nd : Nd} {f g : Nat → Bool} (h : FS X pr w ia i nd f wr) (hr : RB w' (w.heap.size + 1) (X.N + 1) g) (hm : MM X (Pv pr [w.heap.size, w.heap.size + 1, w.heap.size + 1 + 1, w.heap.size + 1 + 1 + 1]) w') (hk : Kb X (w.heap.size + 1) wr w') : FS X pr w ia i nd g w' := by
  obtain ⟨es1, c1, a1, _⟩ := h.mm.e1
  obtain ⟨es2, c2, a2, _⟩ := h.mm.e2
  have k : ∀ {q : Nat} {c : Array Value} {t : TypeId} {fr : Nat × Nat}, wr.heap[q]? = some (.cells c t fr) → q ≠ w.heap.size + 1 → w'.heap[q]? = some (.cells c t fr) := fun hc hq =>
    (hk.keep _ (lt_heap' hc) (cells_map hc a1) (cells_map hc a2) hq).trans hc
  exact ⟨hm, k h.kk (by omega), hr, k h.bx (by omega), k h.nb (by omega), ⟨Nat.le_trans h.km.size hk.size, fun q h1 h2 h3 => (hk.keep q (Nat.lt_of_lt_of_le h1 h.km.size) h2 h3 (by omega)).trans (h.km.keep q h1 h2 h3)⟩, h.base⟩
theorem pv_row {pr : Nat → Prop} {s g : Nat} (h : ¬ Pv pr [s, s + 1, s + 1 + 1, s + 1 + 1 + 1] g) : g ≠ s + 1 := fun q => h (Or.inr (by simp [q]))
/-- A row that is read while a call is made. -/
theorem RB.call {X : Par} {pr : Nat → Prop} {w w' : World} {g : Nat} {f : Nat → Bool} (h : RB w g (X.N + 1) f) (hM : MM X pr w) (hk : Km X w w') : RB w' g (X.N + 1) f := by
  have ha := hM.apart h
  exact h.keep (hk.keep _ h.lt ha.2.1 ha.2.2)
theorem RB.ob {w w' : World} {g B n : Nat} {f : Nat → Bool} (h : RB w g n f) (hne : g ≠ B) (ho : Ob B w w') : RB w' g n f := h.keep (ho.far _ h.lt hne)
/-- The places behind the first k ends of the one ahead. -/
def catK (A B : Nat → Nat → Bool) (i k : Nat) : Nat → Bool := fun j => (List.range k).any fun q => A i q && B q j
theorem catK_next (A B : Nat → Nat → Bool) (i k : Nat) : ∀ j, catK A B i (k + 1) j = (catK A B i k j || (A i k && B k j)) := fun j => by
  unfold catK
  rw [List.range_succ, List.any_append]
  simp
/-- What is answered. -/
def FromAns (X : Par) (pr : Nat → Prop) (w : World) (f : Nat → Bool) (e : Ending) (w' : World) : Prop :=
  ∃ g, e = .returned (SL g (X.N + 1)) ∧ RB w' g (X.N + 1) f ∧ ¬ pr g ∧ MM X pr w' ∧ Km X w w'
set_option maxRecDepth 100000 in
set_option maxHeartbeats 3200000 in
theorem frm_0 (X : Par) (hX : X.Ok) (x : Tr) (o : Nat) (ha : At X.l x o) (ia : Nat) (hia : ia = o + x.size - 1) (pr : Nat → Prop) (i : Nat) (hi : i ≤ X.N) (w : World) (hM : MM X pr w) (nb no cap : Nat) (hv : X.v = .slice (some ⟨nb, no, none⟩) X.l.length cap) (hil : ia < X.l.length) (z : List Nat) (a b : Nat) (mn mx m : Int) (hN : NCell w nb (no + ia * 10) ⟨0, z, (a : Nat), (b : Nat), mn, mx, m⟩)
  (hlook : ∀ w' : World, w'.heap[X.b1]? = w.heap[X.b1]? → (Instr.lookup 91 (.map (some X.b1)) (PK ia i) true).run Tryz.prog w' = .ok (.tuple #[.slice none 0 0, .bool false]) w') (hxe : x = .e) :
  Calls Tryz.prog 68 #[PT X.bm, E (ia : Nat), E (i : Nat)] w (FromAns X pr w (endsP X.T x i)) := by
 have hlen := hX.len
 have hmk : ∀ W : World, (Instr.makeSlice 111 (.int .i64 ((X.N : Int) + 1)) (.int .i64 ((X.N : Int) + 1))).run Tryz.prog W = .ok (SL W.heap.size (X.N + 1)) (W.alloc (.cells (bcn (X.N + 1) fun _ => false) 4)) := fun W => by
  have := make_row (X.N + 1) (by omega) W
  rwa [show ((X.N + 1 : Nat) : Int) = (X.N : Int) + 1 from by omega] at this
 have hwN : IntKind.i64.wrap ((X.N : Int) + 1) = (X.N : Int) + 1 := by rw [IntKind.wrap_i64]; omega
 have HA := Lib.hid (lk_start hM ia i)
 have HLK := Lib.hid hlook
 have hpr : ∀ k, pr k → k < w.heap.size := hM.lt
 have HPR := Lib.hid hpr
 have HX := Lib.hid hX
 have HAT := Lib.hid ha
 have HIA := Lib.hid hia
 have hi0 : (0 : Int) ≤ (i : Int) := by omega
 have hi1 : (i : Int) < (X.N : Int) + 1 := by omega
 have ha0 : (0 : Int) ≤ (ia : Int) := by omega
 have ha1 : (ia : Int) < (X.l.length : Int) := by omega
 have HNB := Lib.hid hN
 have HBASE := Lib.hid hM.bel.size
 clear hlook hpr hX ha hia hN hM hil
 go_enter Tryz.func68, Tryz.ntmps68
 rw [show Code.region 7 = Fz 7 from rfl]
 go_wp2
 refine wp_region_noPanic ?_
 refine wp_region_held_drew (S := fun w' => LK X w ia i w') (by kernel_rfl) ?_ (fun hHeld => ?_)
 · (try dsimp only); exact HA.out.1
 have hs1 : ((w.alloc (.cells #[E (ia : Nat), E (i : Nat)] 150)).drew).heap.size = w.heap.size + 1 := by show (w.alloc _).heap.size = _; simp
 generalize World.drew _ = W1 at HA hHeld hs1 ⊢
 refine Tk.take 0 (h := ?_)
 refine Tk.take 1 (h := ?_)
 refine Tk.take 2 (h := ?_)
 refine Tk.take 3 (hy := by (intro wv hSw; (try dsimp only at hSw); obtain ⟨q0, q1, q2, q3⟩ := hSw; go_simp) <;> with_reducible rfl) (h := ?_)
 refine Tk.take 4 (hy := by (intro wv hSw; (try dsimp only at hSw); obtain ⟨q0, q1, q2, q3⟩ := hSw; go_simp) <;> with_reducible rfl) (h := ?_)
 refine Tk.take 5 (hy := by (intro wv hSw; (try dsimp only at hSw); obtain ⟨q0, q1, q2, q3⟩ := hSw; have q4 := HLK.out _ q3; go_simp) <;> with_reducible rfl) (h := ?_)
 refine Tk.take 6 (h := ?_)
 refine Tk.take 7 (h := ?_)
 refine Tk.take 8 (h := ?_)
 refine Tk.take 9 (h := ?_)
 refine Tk.take 10 (h := ?_)
 refine wpAnyH_done (by kernel_rfl) ?_ _
 refine NoPanic.normal ?_
 clear hHeld
 obtain ⟨HLW, HMW, HKW, HKM, HBW⟩ := HA.out
 have HFS := Lib.hid (fs_start HMW HPR.out hs1 HKW HKM ⟨0, z, (a : Nat), (b : Nat), mn, mx, m⟩ HBASE.out)
 have hbm0 := lt_heap' HMW.hb
 rw [hs1] at hbm0
 have hbm := hbm0
 have hbm2 : X.bm < w.heap.size + 1 + 1 := by omega
 obtain ⟨c0, c1, c2, c3, c4⟩ := HMW.facts
 rw [hv] at c0
 obtain ⟨q0, q1, q2, q3, q4, q5, q6, q7, q8, q9⟩ := HNB.out.below HBW
 have hnb0 : nb < w.heap.size + 1 := by have := lt_cell q0; rw [hs1] at this; exact this
 have hnb := hnb0
 have hnb2 : nb < w.heap.size + 1 + 1 := by omega
 clear HLW HMW HKW HKM HBW HA
 go_wp2
 refine at_world (p := fun W => FS X pr w ia i ⟨0, z, (a : Nat), (b : Nat), mn, mx, m⟩ (fun _ => false) W) HFS.out (fun W hW => ?_)
 have HS1 := Lib.hid hW
 clear hW HFS c0 c1 c2 c3 c4 q0 q1 q2 q3 q4 q5 q6 q7 q8 q9 hbm hnb hbm0 hbm2 hnb0 hnb2 hs1 hmk W1
 rw [show Fz 7 = Code.region 7 from rfl]
 obtain ⟨⟨xk0, xk1⟩, xb, x0, x1, x2, x3, x4, x5, x6, x7, x8, x9⟩ := HS1.out.cells
 (try dsimp only at x0 x1 x2 x3 x4 x5 x6 x7 x8 x9)
 obtain ⟨xm0, xm1, xm2, xm3, xm4⟩ := HS1.out.mm.facts
 have hfz := HS1.out.rb.fz i
 have hcl := HS1.out.rb.cell (i := i) (by omega)
 have HS2 := Lib.hid (HS1.out.put (p := i) (v := true) (g := fun j => decide (j = i)) (fun k hk => by
  by_cases e : k = i
  · rw [if_pos e, decide_eq_true e]
  · rw [if_neg e, decide_eq_false e]))
 go_wp2
 clear xk0 xk1 xb x0 x1 x2 x3 x4 x5 x6 x7 x8 x9 xm0 xm1 xm2 xm3 xm4
 clear hfz hcl
 have HSd := Lib.hid (HS2.out.below (Below.refl _ _).drew)
 refine wp_region_noPanic ?_
 refine wp_region_held_drew (S := fun w' => LQ X w ia i w') (by kernel_rfl) ?_ (fun hHeld => ?_)
 · (try dsimp only); exact HSd.out.lq
 generalize World.drew _ = W3 at HSd hHeld ⊢
 refine Tk.take 0 (h := ?_)
 refine Tk.take 1 (h := ?_)
 refine Tk.take 2 (h := ?_)
 refine Tk.take 3 (hy := by (intro wv hSw; (try dsimp only at hSw); obtain ⟨q0, q1, q2, q3⟩ := hSw; go_simp) <;> with_reducible rfl) (h := ?_)
 refine Tk.take 4 (hy := by (intro wv hSw; (try dsimp only at hSw); obtain ⟨q0, q1, q2, q3⟩ := hSw; go_simp) <;> with_reducible rfl) (h := ?_)
 refine Tk.take 5 (hy := by (intro wv hSw; (try dsimp only at hSw); obtain ⟨q0, q1, q2, q3⟩ := hSw; go_simp) <;> with_reducible rfl) (h := ?_)
 obtain ⟨w9, hlq, hrun, hmm, hkm, hrb, hbx⟩ := HSd.out.store HX.out HPR.out HAT.out HIA.out (by intro j _; rw [hxe]; rfl)
 have HL9 := Lib.hid hlq
 have H9 := Lib.hid (And.intro hmm (And.intro hkm hrb))
 clear hlq hmm hkm hrb
 refine Tk.one 6 (h := fun K hK => ?_)
 go_simp
 refine hK.out _ _ ?_ (fun hHeld => Tk.wrk ?_)
 · (try dsimp only); (exact HL9.out)
 clear hK K
 refine wpAnyH_done (by kernel_rfl) ?_ _
 refine NoPanic.normal ?_
 clear hHeld hrun HSd HL9
 go_wp2
 go_ret
 exact ⟨w.heap.size + 1, rfl, H9.out.2.2, fun q => by have := HPR.out _ q; omega, H9.out.1, H9.out.2.1⟩
set_option maxRecDepth 100000 in
set_option maxHeartbeats 3200000 in
theorem frm_2 (X : Par) (hX : X.Ok) (x : Tr) (o : Nat) (ha : At X.l x o) (ia : Nat) (hia : ia = o + x.size - 1) (pr : Nat → Prop) (i : Nat) (hi : i ≤ X.N) (w : World) (hM : MM X pr w) (nb no cap : Nat) (hv : X.v = .slice (some ⟨nb, no, none⟩) X.l.length cap) (hil : ia < X.l.length) (z : List Nat) (a b : Nat) (mn mx m : Int) (hN : NCell w nb (no + ia * 10) ⟨2, z, (a : Nat), (b : Nat), mn, mx, m⟩)
  (hlook : ∀ w' : World, w'.heap[X.b1]? = w.heap[X.b1]? → (Instr.lookup 91 (.map (some X.b1)) (PK ia i) true).run Tryz.prog w' = .ok (.tuple #[.slice none 0 0, .bool false]) w') (hxe : x = .beg) :
  Calls Tryz.prog 68 #[PT X.bm, E (ia : Nat), E (i : Nat)] w (FromAns X pr w (endsP X.T x i)) := by
 have hlen := hX.len
 have hmk : ∀ W : World, (Instr.makeSlice 111 (.int .i64 ((X.N : Int) + 1)) (.int .i64 ((X.N : Int) + 1))).run Tryz.prog W = .ok (SL W.heap.size (X.N + 1)) (W.alloc (.cells (bcn (X.N + 1) fun _ => false) 4)) := fun W => by
  have := make_row (X.N + 1) (by omega) W
  rwa [show ((X.N + 1 : Nat) : Int) = (X.N : Int) + 1 from by omega] at this
 have hwN : IntKind.i64.wrap ((X.N : Int) + 1) = (X.N : Int) + 1 := by rw [IntKind.wrap_i64]; omega
 have HA := Lib.hid (lk_start hM ia i)
 have HLK := Lib.hid hlook
 have hpr : ∀ k, pr k → k < w.heap.size := hM.lt
 have HPR := Lib.hid hpr
 have HX := Lib.hid hX
 have HAT := Lib.hid ha
 have HIA := Lib.hid hia
 have hi0 : (0 : Int) ≤ (i : Int) := by omega
 have hi1 : (i : Int) < (X.N : Int) + 1 := by omega
 have ha0 : (0 : Int) ≤ (ia : Int) := by omega
 have ha1 : (ia : Int) < (X.l.length : Int) := by omega
 have HNB := Lib.hid hN
 have HBASE := Lib.hid hM.bel.size
 clear hlook hpr hX ha hia hN hM hil
 go_enter Tryz.func68, Tryz.ntmps68
 rw [show Code.region 7 = Fz 7 from rfl]
 go_wp2
 refine wp_region_noPanic ?_
 refine wp_region_held_drew (S := fun w' => LK X w ia i w') (by kernel_rfl) ?_ (fun hHeld => ?_)
 · (try dsimp only); exact HA.out.1
 have hs1 : ((w.alloc (.cells #[E (ia : Nat), E (i : Nat)] 150)).drew).heap.size = w.heap.size + 1 := by show (w.alloc _).heap.size = _; simp
 generalize World.drew _ = W1 at HA hHeld hs1 ⊢
 refine Tk.take 0 (h := ?_)
 refine Tk.take 1 (h := ?_)
 refine Tk.take 2 (h := ?_)
 refine Tk.take 3 (hy := by (intro wv hSw; (try dsimp only at hSw); obtain ⟨q0, q1, q2, q3⟩ := hSw; go_simp) <;> with_reducible rfl) (h := ?_)
 refine Tk.take 4 (hy := by (intro wv hSw; (try dsimp only at hSw); obtain ⟨q0, q1, q2, q3⟩ := hSw; go_simp) <;> with_reducible rfl) (h := ?_)
 refine Tk.take 5 (hy := by (intro wv hSw; (try dsimp only at hSw); obtain ⟨q0, q1, q2, q3⟩ := hSw; have q4 := HLK.out _ q3; go_simp) <;> with_reducible rfl) (h := ?_)
 refine Tk.take 6 (h := ?_)
 refine Tk.take 7 (h := ?_)
 refine Tk.take 8 (h := ?_)
 refine Tk.take 9 (h := ?_)
 refine Tk.take 10 (h := ?_)
 refine wpAnyH_done (by kernel_rfl) ?_ _
 refine NoPanic.normal ?_
 clear hHeld
 obtain ⟨HLW, HMW, HKW, HKM, HBW⟩ := HA.out
 have HFS := Lib.hid (fs_start HMW HPR.out hs1 HKW HKM ⟨2, z, (a : Nat), (b : Nat), mn, mx, m⟩ HBASE.out)
 have hbm0 := lt_heap' HMW.hb
 rw [hs1] at hbm0
 have hbm := hbm0
 have hbm2 : X.bm < w.heap.size + 1 + 1 := by omega
 obtain ⟨c0, c1, c2, c3, c4⟩ := HMW.facts
 rw [hv] at c0
 obtain ⟨q0, q1, q2, q3, q4, q5, q6, q7, q8, q9⟩ := HNB.out.below HBW
 have hnb0 : nb < w.heap.size + 1 := by have := lt_cell q0; rw [hs1] at this; exact this
 have hnb := hnb0
 have hnb2 : nb < w.heap.size + 1 + 1 := by omega
 clear HLW HMW HKW HKM HBW HA
 go_wp2
 refine at_world (p := fun W => FS X pr w ia i ⟨2, z, (a : Nat), (b : Nat), mn, mx, m⟩ (fun _ => false) W) HFS.out (fun W hW => ?_)
 have HS1 := Lib.hid hW
 clear hW HFS c0 c1 c2 c3 c4 q0 q1 q2 q3 q4 q5 q6 q7 q8 q9 hbm hnb hbm0 hbm2 hnb0 hnb2 hs1 hmk W1
 rw [show Fz 7 = Code.region 7 from rfl]
 obtain ⟨⟨xk0, xk1⟩, xb, x0, x1, x2, x3, x4, x5, x6, x7, x8, x9⟩ := HS1.out.cells
 (try dsimp only at x0 x1 x2 x3 x4 x5 x6 x7 x8 x9)
 obtain ⟨xm0, xm1, xm2, xm3, xm4⟩ := HS1.out.mm.facts
 have hfz := HS1.out.rb.fz i
 have hcl := HS1.out.rb.cell (i := i) (by omega)
 have HS2 := Lib.hid (HS1.out.put (p := i) (v := ((i : Int) == 0)) (g := fun j => decide (j = i) && decide (i = 0)) (fun k hk => by
  have hv0 : ((i : Int) == 0) = decide (i = 0) := by by_cases e : i = 0 <;> simp [e]
  rw [hv0]
  by_cases e : k = i
  · rw [if_pos e, decide_eq_true e]; rfl
  · rw [if_neg e, decide_eq_false e]; rfl))
 go_wp2
 clear xk0 xk1 xb x0 x1 x2 x3 x4 x5 x6 x7 x8 x9 xm0 xm1 xm2 xm3 xm4
 clear hfz hcl
 have HSd := Lib.hid (HS2.out.below (Below.refl _ _).drew)
 refine wp_region_noPanic ?_
 refine wp_region_held_drew (S := fun w' => LQ X w ia i w') (by kernel_rfl) ?_ (fun hHeld => ?_)
 · (try dsimp only); exact HSd.out.lq
 generalize World.drew _ = W3 at HSd hHeld ⊢
 refine Tk.take 0 (h := ?_)
 refine Tk.take 1 (h := ?_)
 refine Tk.take 2 (h := ?_)
 refine Tk.take 3 (hy := by (intro wv hSw; (try dsimp only at hSw); obtain ⟨q0, q1, q2, q3⟩ := hSw; go_simp) <;> with_reducible rfl) (h := ?_)
 refine Tk.take 4 (hy := by (intro wv hSw; (try dsimp only at hSw); obtain ⟨q0, q1, q2, q3⟩ := hSw; go_simp) <;> with_reducible rfl) (h := ?_)
 refine Tk.take 5 (hy := by (intro wv hSw; (try dsimp only at hSw); obtain ⟨q0, q1, q2, q3⟩ := hSw; go_simp) <;> with_reducible rfl) (h := ?_)
 obtain ⟨w9, hlq, hrun, hmm, hkm, hrb, hbx⟩ := HSd.out.store HX.out HPR.out HAT.out HIA.out (by intro j _; rw [hxe]; rfl)
 have HL9 := Lib.hid hlq
 have H9 := Lib.hid (And.intro hmm (And.intro hkm hrb))
 clear hlq hmm hkm hrb
 refine Tk.one 6 (h := fun K hK => ?_)
 go_simp
 refine hK.out _ _ ?_ (fun hHeld => Tk.wrk ?_)
 · (try dsimp only); (exact HL9.out)
 clear hK K
 refine wpAnyH_done (by kernel_rfl) ?_ _
 refine NoPanic.normal ?_
 clear hHeld hrun HSd HL9
 go_wp2
 go_ret
 exact ⟨w.heap.size + 1, rfl, H9.out.2.2, fun q => by have := HPR.out _ q; omega, H9.out.1, H9.out.2.1⟩
end Go.Proofs.YtlicoffnjphphaaGreatDoor.Mt
namespace Go.Proofs.YtlicoffnjphphaaGreatDoor.St
open Go.RowKit
set_option maxHeartbeats 400000 in
theorem has_any (ws : List Nat) (b : UInt8) (w : World) (h : Wf ws) :
    Calls Tryz.prog 30 #[SV ws, .int .u8 b.toNat] w fun e w' => e = .returned (.bool (mem ws b.toNat)) ∧ Below w.heap.size w w' := by
  have hb := b.toNat_lt
  have h1 : (b.toNat : Int) / 64 < 4 := by omega
  have h0 : 0 ≤ (b.toNat : Int) / 64 := by omega
  have hx := word_get h (i := b.toNat / 64) (by omega)
  have HB := Lib.hid (has_bits h b.toNat)
  clear h
  go_enter Tryz.func30, Tryz.ntmps30
  go_wp2
  go_ret
  exact ⟨by rw [← HB.out]; rfl, (Below.refl _ w).alloc (Nat.le_refl _) _⟩
end Go.Proofs.YtlicoffnjphphaaGreatDoor.St
namespace Go.Proofs.YtlicoffnjphphaaGreatDoor.Mt
open Go.RowKit Go.Shelf
open Go.Proofs.YtlicoffnjphphaaGreatDoor.Rx
open Go.Proofs.YtlicoffnjphphaaGreatDoor.Rx.Tr
open Go.Proofs.YtlicoffnjphphaaGreatDoor.St (Wf word mem SV SV_eq)
set_option maxRecDepth 100000 in
set_option maxHeartbeats 3200000 in
theorem frm_1 (X : Par) (hX : X.Ok) (x : Tr) (o : Nat) (ha : At X.l x o) (ia : Nat) (hia : ia = o + x.size - 1) (pr : Nat → Prop) (i : Nat) (hi : i ≤ X.N) (w : World) (hM : MM X pr w) (nb no cap : Nat) (hv : X.v = .slice (some ⟨nb, no, none⟩) X.l.length cap) (hil : ia < X.l.length) (z : List Nat) (a b : Nat) (mn mx m : Int) (hN : NCell w nb (no + ia * 10) ⟨1, z, (a : Nat), (b : Nat), mn, mx, m⟩)
  (hlook : ∀ w' : World, w'.heap[X.b1]? = w.heap[X.b1]? → (Instr.lookup 91 (.map (some X.b1)) (PK ia i) true).run Tryz.prog w' = .ok (.tuple #[.slice none 0 0, .bool false]) w') (hz : Wf z) (hxe : x = .set z) :
  Calls Tryz.prog 68 #[PT X.bm, E (ia : Nat), E (i : Nat)] w (FromAns X pr w (endsP X.T x i)) := by
 have hlen := hX.len
 have hmk : ∀ W : World, (Instr.makeSlice 111 (.int .i64 ((X.N : Int) + 1)) (.int .i64 ((X.N : Int) + 1))).run Tryz.prog W = .ok (SL W.heap.size (X.N + 1)) (W.alloc (.cells (bcn (X.N + 1) fun _ => false) 4)) := fun W => by
  have := make_row (X.N + 1) (by omega) W
  rwa [show ((X.N + 1 : Nat) : Int) = (X.N : Int) + 1 from by omega] at this
 have hwN : IntKind.i64.wrap ((X.N : Int) + 1) = (X.N : Int) + 1 := by rw [IntKind.wrap_i64]; omega
 have HA := Lib.hid (lk_start hM ia i)
 have HLK := Lib.hid hlook
 have hpr : ∀ k, pr k → k < w.heap.size := hM.lt
 have HPR := Lib.hid hpr
 have HX := Lib.hid hX
 have HAT := Lib.hid ha
 have HIA := Lib.hid hia
 have hi0 : (0 : Int) ≤ (i : Int) := by omega
 have hi1 : (i : Int) < (X.N : Int) + 1 := by omega
 have ha0 : (0 : Int) ≤ (ia : Int) := by omega
 have ha1 : (ia : Int) < (X.l.length : Int) := by omega
 have HNB := Lib.hid hN
 have HBASE := Lib.hid hM.bel.size
 clear hlook hpr hX ha hia hN hM hil
 go_enter Tryz.func68, Tryz.ntmps68
 rw [show Code.region 7 = Fz 7 from rfl]
 go_wp2
 refine wp_region_noPanic ?_
 refine wp_region_held_drew (S := fun w' => LK X w ia i w') (by kernel_rfl) ?_ (fun hHeld => ?_)
 · (try dsimp only); exact HA.out.1
 have hs1 : ((w.alloc (.cells #[E (ia : Nat), E (i : Nat)] 150)).drew).heap.size = w.heap.size + 1 := by show (w.alloc _).heap.size = _; simp
 generalize World.drew _ = W1 at HA hHeld hs1 ⊢
 refine Tk.take 0 (h := ?_)
 refine Tk.take 1 (h := ?_)
 refine Tk.take 2 (h := ?_)
 refine Tk.take 3 (hy := by (intro wv hSw; (try dsimp only at hSw); obtain ⟨q0, q1, q2, q3⟩ := hSw; go_simp) <;> with_reducible rfl) (h := ?_)
 refine Tk.take 4 (hy := by (intro wv hSw; (try dsimp only at hSw); obtain ⟨q0, q1, q2, q3⟩ := hSw; go_simp) <;> with_reducible rfl) (h := ?_)
 refine Tk.take 5 (hy := by (intro wv hSw; (try dsimp only at hSw); obtain ⟨q0, q1, q2, q3⟩ := hSw; have q4 := HLK.out _ q3; go_simp) <;> with_reducible rfl) (h := ?_)
 refine Tk.take 6 (h := ?_)
 refine Tk.take 7 (h := ?_)
 refine Tk.take 8 (h := ?_)
 refine Tk.take 9 (h := ?_)
 refine Tk.take 10 (h := ?_)
 refine wpAnyH_done (by kernel_rfl) ?_ _
 refine NoPanic.normal ?_
 clear hHeld
 obtain ⟨HLW, HMW, HKW, HKM, HBW⟩ := HA.out
 have HFS := Lib.hid (fs_start HMW HPR.out hs1 HKW HKM ⟨1, z, (a : Nat), (b : Nat), mn, mx, m⟩ HBASE.out)
 have hbm0 := lt_heap' HMW.hb
 rw [hs1] at hbm0
 have hbm := hbm0
 have hbm2 : X.bm < w.heap.size + 1 + 1 := by omega
 obtain ⟨c0, c1, c2, c3, c4⟩ := HMW.facts
 rw [hv] at c0
 obtain ⟨q0, q1, q2, q3, q4, q5, q6, q7, q8, q9⟩ := HNB.out.below HBW
 have hnb0 : nb < w.heap.size + 1 := by have := lt_cell q0; rw [hs1] at this; exact this
 have hnb := hnb0
 have hnb2 : nb < w.heap.size + 1 + 1 := by omega
 clear HLW HMW HKW HKM HBW HA
 go_wp2
 refine at_world (p := fun W => FS X pr w ia i ⟨1, z, (a : Nat), (b : Nat), mn, mx, m⟩ (fun _ => false) W) HFS.out (fun W hW => ?_)
 have HS1 := Lib.hid hW
 clear hW HFS c0 c1 c2 c3 c4 q0 q1 q2 q3 q4 q5 q6 q7 q8 q9 hbm hnb hbm0 hbm2 hnb0 hnb2 hs1 hmk W1
 rw [show Fz 7 = Code.region 7 from rfl]
 obtain ⟨⟨xk0, xk1⟩, xb, x0, x1, x2, x3, x4, x5, x6, x7, x8, x9⟩ := HS1.out.cells
 (try dsimp only at x0 x1 x2 x3 x4 x5 x6 x7 x8 x9)
 obtain ⟨xm0, xm1, xm2, xm3, xm4⟩ := HS1.out.mm.facts
 have HS1d := Lib.hid (HS1.out.below (Below.refl _ _).drew)
 have hsz : (ByteArray.mk X.T.toArray).size = X.T.length := by simp [ByteArray.size]
 by_cases hlt : i < X.N
 ·
  have hlt' : (i : Int) < (X.T.length : Int) := by show (i : Int) < (X.N : Int); omega
  have hg := (show (ByteArray.mk X.T.toArray)[i]'(by rw [hsz]; exact hlt) = X.T[i] from rfl)
  have HHA := Lib.hid (show hasAt z X.T i = mem z (X.T[i]).toNat from by unfold hasAt; rw [List.getElem?_eq_getElem hlt])
  generalize X.T[i] = by0 at *
  have HHS := Lib.hid (fun W => (by have h1 := Go.Proofs.YtlicoffnjphphaaGreatDoor.St.has_any z by0 W hz; rw [SV_eq hz] at h1; exact h1 : Calls Tryz.prog 30 #[.agg #[U (word z 0), U (word z 1), U (word z 2), U (word z 3)], .int .u8 (by0.toNat : Int)] W fun e w' => e = .returned (.bool (mem z by0.toNat)) ∧ Below W.heap.size W w'))
  cases hmem : mem z by0.toNat
  ·
   rw [hmem] at HHS
   go_wp2
   refine wp_region_noPanic ?_
   refine wp_region_held_drew (S := fun w' => FS X pr w ia i ⟨1, z, (a : Nat), (b : Nat), mn, mx, m⟩ (fun _ => false) w') (by kernel_rfl) ?_ (fun hHeld => ?_)
   · (try dsimp only); exact HS1d.out
   generalize World.drew _ = W4 at HS1d hHeld ⊢
   refine Tk.take 0 (h := ?_)
   refine Tk.take 1 (h := ?_)
   refine Tk.take 2 (h := ?_)
   refine Tk.take 3 (h := ?_)
   refine Tk.fk (fun _ h => And.intro h.cells h.mm.facts) 4 (h := ?_)
   refine Tk.take 5 (h := ?_)
   refine Tk.take 6 (h := ?_)
   refine Tk.take 7 (h := ?_)
   refine Tk.take 8 (h := ?_)
   refine Tk.fk (fun _ h => And.intro h.cells h.mm.facts) 9 (h := ?_)
   refine Tk.take 10 (h := ?_)
   refine Tk.take 11 (h := ?_)
   refine Tk.take 12 (h := ?_)
   refine Tk.fk (fun _ h => And.intro h.cells h.mm.facts) 13 (h := ?_)
   refine Tk.take 14 (h := ?_)
   refine Tk.take 15 (h := ?_)
   refine Tk.one 16 (h := fun K hK => ?_)
   have hPrev := hHeld
   go_simp
   (go_at_call 30; refine (HHS.out _).mono ?_; rintro e w6 ⟨rfl, hbl⟩)
   refine hK.out _ _ ?_ (fun hHeld => Tk.wrk ?_)
   · (try dsimp only); (exact hPrev.below hbl)
   clear hK K
   refine Tk.take 17 (h := ?_)
   refine wpAnyH_done (by kernel_rfl) ?_ _
   refine NoPanic.normal ?_
   clear HS1d
   clear xk0 xk1 xb x0 x1 x2 x3 x4 x5 x6 x7 x8 x9 xm0 xm1 xm2 xm3 xm4
   have HS2 := Lib.hid hHeld
   clear hHeld
   go_wp2
   have HSd := Lib.hid (HS2.out.below (Below.refl _ _).drew)
   refine wp_region_noPanic ?_
   refine wp_region_held_drew (S := fun w' => LQ X w ia i w') (by kernel_rfl) ?_ (fun hHeld => ?_)
   · (try dsimp only); exact HSd.out.lq
   generalize World.drew _ = W3 at HSd hHeld ⊢
   refine Tk.take 0 (h := ?_)
   refine Tk.take 1 (h := ?_)
   refine Tk.take 2 (h := ?_)
   refine Tk.take 3 (hy := by (intro wv hSw; (try dsimp only at hSw); obtain ⟨q0, q1, q2, q3⟩ := hSw; go_simp) <;> with_reducible rfl) (h := ?_)
   refine Tk.take 4 (hy := by (intro wv hSw; (try dsimp only at hSw); obtain ⟨q0, q1, q2, q3⟩ := hSw; go_simp) <;> with_reducible rfl) (h := ?_)
   refine Tk.take 5 (hy := by (intro wv hSw; (try dsimp only at hSw); obtain ⟨q0, q1, q2, q3⟩ := hSw; go_simp) <;> with_reducible rfl) (h := ?_)
   obtain ⟨w9, hlq, hrun, hmm, hkm, hrb, hbx⟩ := HSd.out.store HX.out HPR.out HAT.out HIA.out (by intro j _; rw [hxe]; unfold endsP; rw [HHA.out, hmem]; simp)
   have HL9 := Lib.hid hlq
   have H9 := Lib.hid (And.intro hmm (And.intro hkm hrb))
   clear hlq hmm hkm hrb
   refine Tk.one 6 (h := fun K hK => ?_)
   go_simp
   refine hK.out _ _ ?_ (fun hHeld => Tk.wrk ?_)
   · (try dsimp only); (exact HL9.out)
   clear hK K
   refine wpAnyH_done (by kernel_rfl) ?_ _
   refine NoPanic.normal ?_
   clear hHeld hrun HSd HL9
   go_wp2
   go_ret
   exact ⟨w.heap.size + 1, rfl, H9.out.2.2, fun q => by have := HPR.out _ q; omega, H9.out.1, H9.out.2.1⟩
  ·
   rw [hmem] at HHS
   go_wp2
   refine wp_region_noPanic ?_
   refine wp_region_held_drew (S := fun w' => FS X pr w ia i ⟨1, z, (a : Nat), (b : Nat), mn, mx, m⟩ (fun _ => false) w') (by kernel_rfl) ?_ (fun hHeld => ?_)
   · (try dsimp only); exact HS1d.out
   generalize World.drew _ = W4 at HS1d hHeld ⊢
   refine Tk.take 0 (h := ?_)
   refine Tk.take 1 (h := ?_)
   refine Tk.take 2 (h := ?_)
   refine Tk.take 3 (h := ?_)
   refine Tk.fk (fun _ h => And.intro h.cells h.mm.facts) 4 (h := ?_)
   refine Tk.take 5 (h := ?_)
   refine Tk.take 6 (h := ?_)
   refine Tk.take 7 (h := ?_)
   refine Tk.take 8 (h := ?_)
   refine Tk.fk (fun _ h => And.intro h.cells h.mm.facts) 9 (h := ?_)
   refine Tk.take 10 (h := ?_)
   refine Tk.take 11 (h := ?_)
   refine Tk.take 12 (h := ?_)
   refine Tk.fk (fun _ h => And.intro h.cells h.mm.facts) 13 (h := ?_)
   refine Tk.take 14 (h := ?_)
   refine Tk.take 15 (h := ?_)
   refine Tk.one 16 (h := fun K hK => ?_)
   have hPrev := hHeld
   go_simp
   (go_at_call 30; refine (HHS.out _).mono ?_; rintro e w6 ⟨rfl, hbl⟩)
   refine hK.out _ _ ?_ (fun hHeld => Tk.wrk ?_)
   · (try dsimp only); (exact hPrev.below hbl)
   clear hK K
   refine Tk.take 17 (h := ?_)
   refine wpAnyH_done (by kernel_rfl) ?_ _
   refine NoPanic.normal ?_
   clear HS1d
   clear xk0 xk1 xb x0 x1 x2 x3 x4 x5 x6 x7 x8 x9 xm0 xm1 xm2 xm3 xm4
   have HS2 := Lib.hid (hHeld.put (p := i + 1) (v := true) (g := fun j => decide (j = i + 1)) (fun k hk => by
    by_cases e : k = i + 1
    · rw [if_pos e, decide_eq_true e]
    · rw [if_neg e, decide_eq_false e]))
   have hw1 : IntKind.i64.wrap ((i : Int) + 1) = (i : Int) + 1 := by rw [IntKind.wrap_i64]; omega
   have hfz := hHeld.rb.fz (i + 1)
   have hcl := hHeld.rb.cell (i := i + 1) (by omega)
   have hcb := hHeld.cells.2.1
   have hi2 : (i : Int) + 1 < (X.N : Int) + 1 := by omega
   have hi3 : (0 : Int) ≤ (i : Int) + 1 := by omega
   have hi4 : ((i : Int) + 1).toNat = i + 1 := by omega
   clear hHeld
   go_wp2
   clear hfz hcl hcb
   have HSd := Lib.hid (HS2.out.below (Below.refl _ _).drew)
   refine wp_region_noPanic ?_
   refine wp_region_held_drew (S := fun w' => LQ X w ia i w') (by kernel_rfl) ?_ (fun hHeld => ?_)
   · (try dsimp only); exact HSd.out.lq
   generalize World.drew _ = W3 at HSd hHeld ⊢
   refine Tk.take 0 (h := ?_)
   refine Tk.take 1 (h := ?_)
   refine Tk.take 2 (h := ?_)
   refine Tk.take 3 (hy := by (intro wv hSw; (try dsimp only at hSw); obtain ⟨q0, q1, q2, q3⟩ := hSw; go_simp) <;> with_reducible rfl) (h := ?_)
   refine Tk.take 4 (hy := by (intro wv hSw; (try dsimp only at hSw); obtain ⟨q0, q1, q2, q3⟩ := hSw; go_simp) <;> with_reducible rfl) (h := ?_)
   refine Tk.take 5 (hy := by (intro wv hSw; (try dsimp only at hSw); obtain ⟨q0, q1, q2, q3⟩ := hSw; go_simp) <;> with_reducible rfl) (h := ?_)
   obtain ⟨w9, hlq, hrun, hmm, hkm, hrb, hbx⟩ := HSd.out.store HX.out HPR.out HAT.out HIA.out (by intro j _; rw [hxe]; unfold endsP; rw [HHA.out, hmem]; simp)
   have HL9 := Lib.hid hlq
   have H9 := Lib.hid (And.intro hmm (And.intro hkm hrb))
   clear hlq hmm hkm hrb
   refine Tk.one 6 (h := fun K hK => ?_)
   go_simp
   refine hK.out _ _ ?_ (fun hHeld => Tk.wrk ?_)
   · (try dsimp only); (exact HL9.out)
   clear hK K
   refine wpAnyH_done (by kernel_rfl) ?_ _
   refine NoPanic.normal ?_
   clear hHeld hrun HSd HL9
   go_wp2
   go_ret
   exact ⟨w.heap.size + 1, rfl, H9.out.2.2, fun q => by have := HPR.out _ q; omega, H9.out.1, H9.out.2.1⟩
 ·
  have hlt' : ¬ (i : Int) < (X.T.length : Int) := by show ¬ (i : Int) < (X.N : Int); omega
  have HHA := Lib.hid (show hasAt z X.T i = false from by unfold hasAt; rw [List.getElem?_eq_none (by show X.N ≤ i; omega)])
  go_wp2
  refine wp_region_noPanic ?_
  refine wp_region_held_drew (S := fun w' => FS X pr w ia i ⟨1, z, (a : Nat), (b : Nat), mn, mx, m⟩ (fun _ => false) w') (by kernel_rfl) ?_ (fun hHeld => ?_)
  · (try dsimp only); exact HS1d.out
  generalize World.drew _ = W4 at HS1d hHeld ⊢
  refine Tk.take 0 (h := ?_)
  refine Tk.take 1 (h := ?_)
  refine Tk.take 2 (h := ?_)
  refine Tk.take 3 (h := ?_)
  refine Tk.fk (fun _ h => And.intro h.cells h.mm.facts) 4 (h := ?_)
  refine Tk.take 5 (h := ?_)
  refine Tk.take 6 (h := ?_)
  refine Tk.take 7 (h := ?_)
  refine Tk.pass 8 (h := ?_)
  refine Tk.pass 9 (h := ?_)
  refine Tk.pass 10 (h := ?_)
  refine Tk.pass 11 (h := ?_)
  refine Tk.pass 12 (h := ?_)
  refine Tk.pass 13 (h := ?_)
  refine Tk.pass 14 (h := ?_)
  refine Tk.pass 15 (h := ?_)
  refine Tk.pass 16 (h := ?_)
  refine Tk.take 17 (h := ?_)
  refine wpAnyH_done (by kernel_rfl) ?_ _
  refine NoPanic.normal ?_
  clear HS1d
  clear xk0 xk1 xb x0 x1 x2 x3 x4 x5 x6 x7 x8 x9 xm0 xm1 xm2 xm3 xm4
  have HS2 := Lib.hid hHeld
  clear hHeld
  go_wp2
  have HSd := Lib.hid (HS2.out.below (Below.refl _ _).drew)
  refine wp_region_noPanic ?_
  refine wp_region_held_drew (S := fun w' => LQ X w ia i w') (by kernel_rfl) ?_ (fun hHeld => ?_)
  · (try dsimp only); exact HSd.out.lq
  generalize World.drew _ = W3 at HSd hHeld ⊢
  refine Tk.take 0 (h := ?_)
  refine Tk.take 1 (h := ?_)
  refine Tk.take 2 (h := ?_)
  refine Tk.take 3 (hy := by (intro wv hSw; (try dsimp only at hSw); obtain ⟨q0, q1, q2, q3⟩ := hSw; go_simp) <;> with_reducible rfl) (h := ?_)
  refine Tk.take 4 (hy := by (intro wv hSw; (try dsimp only at hSw); obtain ⟨q0, q1, q2, q3⟩ := hSw; go_simp) <;> with_reducible rfl) (h := ?_)
  refine Tk.take 5 (hy := by (intro wv hSw; (try dsimp only at hSw); obtain ⟨q0, q1, q2, q3⟩ := hSw; go_simp) <;> with_reducible rfl) (h := ?_)
  obtain ⟨w9, hlq, hrun, hmm, hkm, hrb, hbx⟩ := HSd.out.store HX.out HPR.out HAT.out HIA.out (by intro j _; rw [hxe]; unfold endsP; rw [HHA.out]; simp)
  have HL9 := Lib.hid hlq
  have H9 := Lib.hid (And.intro hmm (And.intro hkm hrb))
  clear hlq hmm hkm hrb
  refine Tk.one 6 (h := fun K hK => ?_)
  go_simp
  refine hK.out _ _ ?_ (fun hHeld => Tk.wrk ?_)
  · (try dsimp only); (exact HL9.out)
  clear hK K
  refine wpAnyH_done (by kernel_rfl) ?_ _
  refine NoPanic.normal ?_
  clear hHeld hrun HSd HL9
  go_wp2
  go_ret
  exact ⟨w.heap.size + 1, rfl, H9.out.2.2, fun q => by have := HPR.out _ q; omega, H9.out.1, H9.out.2.1⟩
set_option maxRecDepth 100000 in
set_option maxHeartbeats 3200000 in
theorem frm_3 (X : Par) (hX : X.Ok) (x : Tr) (o : Nat) (ha : At X.l x o) (ia : Nat) (hia : ia = o + x.size - 1) (pr : Nat → Prop) (i : Nat) (hi : i ≤ X.N) (w : World) (hM : MM X pr w) (nb no cap : Nat) (hv : X.v = .slice (some ⟨nb, no, none⟩) X.l.length cap) (hil : ia < X.l.length) (z : List Nat) (a b : Nat) (mn mx m : Int) (hN : NCell w nb (no + ia * 10) ⟨3, z, (a : Nat), (b : Nat), mn, mx, m⟩)
  (hlook : ∀ w' : World, w'.heap[X.b1]? = w.heap[X.b1]? → (Instr.lookup 91 (.map (some X.b1)) (PK ia i) true).run Tryz.prog w' = .ok (.tuple #[.slice none 0 0, .bool false]) w') (hxe : x = .fin) :
  Calls Tryz.prog 68 #[PT X.bm, E (ia : Nat), E (i : Nat)] w (FromAns X pr w (endsP X.T x i)) := by
 have hlen := hX.len
 have hmk : ∀ W : World, (Instr.makeSlice 111 (.int .i64 ((X.N : Int) + 1)) (.int .i64 ((X.N : Int) + 1))).run Tryz.prog W = .ok (SL W.heap.size (X.N + 1)) (W.alloc (.cells (bcn (X.N + 1) fun _ => false) 4)) := fun W => by
  have := make_row (X.N + 1) (by omega) W
  rwa [show ((X.N + 1 : Nat) : Int) = (X.N : Int) + 1 from by omega] at this
 have hwN : IntKind.i64.wrap ((X.N : Int) + 1) = (X.N : Int) + 1 := by rw [IntKind.wrap_i64]; omega
 have HA := Lib.hid (lk_start hM ia i)
 have HLK := Lib.hid hlook
 have hpr : ∀ k, pr k → k < w.heap.size := hM.lt
 have HPR := Lib.hid hpr
 have HX := Lib.hid hX
 have HAT := Lib.hid ha
 have HIA := Lib.hid hia
 have hi0 : (0 : Int) ≤ (i : Int) := by omega
 have hi1 : (i : Int) < (X.N : Int) + 1 := by omega
 have ha0 : (0 : Int) ≤ (ia : Int) := by omega
 have ha1 : (ia : Int) < (X.l.length : Int) := by omega
 have HNB := Lib.hid hN
 have HBASE := Lib.hid hM.bel.size
 clear hlook hpr hX ha hia hN hM hil
 go_enter Tryz.func68, Tryz.ntmps68
 rw [show Code.region 7 = Fz 7 from rfl]
 go_wp2
 refine wp_region_noPanic ?_
 refine wp_region_held_drew (S := fun w' => LK X w ia i w') (by kernel_rfl) ?_ (fun hHeld => ?_)
 · (try dsimp only); exact HA.out.1
 have hs1 : ((w.alloc (.cells #[E (ia : Nat), E (i : Nat)] 150)).drew).heap.size = w.heap.size + 1 := by show (w.alloc _).heap.size = _; simp
 generalize World.drew _ = W1 at HA hHeld hs1 ⊢
 refine Tk.take 0 (h := ?_)
 refine Tk.take 1 (h := ?_)
 refine Tk.take 2 (h := ?_)
 refine Tk.take 3 (hy := by (intro wv hSw; (try dsimp only at hSw); obtain ⟨q0, q1, q2, q3⟩ := hSw; go_simp) <;> with_reducible rfl) (h := ?_)
 refine Tk.take 4 (hy := by (intro wv hSw; (try dsimp only at hSw); obtain ⟨q0, q1, q2, q3⟩ := hSw; go_simp) <;> with_reducible rfl) (h := ?_)
 refine Tk.take 5 (hy := by (intro wv hSw; (try dsimp only at hSw); obtain ⟨q0, q1, q2, q3⟩ := hSw; have q4 := HLK.out _ q3; go_simp) <;> with_reducible rfl) (h := ?_)
 refine Tk.take 6 (h := ?_)
 refine Tk.take 7 (h := ?_)
 refine Tk.take 8 (h := ?_)
 refine Tk.take 9 (h := ?_)
 refine Tk.take 10 (h := ?_)
 refine wpAnyH_done (by kernel_rfl) ?_ _
 refine NoPanic.normal ?_
 clear hHeld
 obtain ⟨HLW, HMW, HKW, HKM, HBW⟩ := HA.out
 have HFS := Lib.hid (fs_start HMW HPR.out hs1 HKW HKM ⟨3, z, (a : Nat), (b : Nat), mn, mx, m⟩ HBASE.out)
 have hbm0 := lt_heap' HMW.hb
 rw [hs1] at hbm0
 have hbm := hbm0
 have hbm2 : X.bm < w.heap.size + 1 + 1 := by omega
 obtain ⟨c0, c1, c2, c3, c4⟩ := HMW.facts
 rw [hv] at c0
 obtain ⟨q0, q1, q2, q3, q4, q5, q6, q7, q8, q9⟩ := HNB.out.below HBW
 have hnb0 : nb < w.heap.size + 1 := by have := lt_cell q0; rw [hs1] at this; exact this
 have hnb := hnb0
 have hnb2 : nb < w.heap.size + 1 + 1 := by omega
 clear HLW HMW HKW HKM HBW HA
 go_wp2
 refine at_world (p := fun W => FS X pr w ia i ⟨3, z, (a : Nat), (b : Nat), mn, mx, m⟩ (fun _ => false) W) HFS.out (fun W hW => ?_)
 have HS1 := Lib.hid hW
 clear hW HFS c0 c1 c2 c3 c4 q0 q1 q2 q3 q4 q5 q6 q7 q8 q9 hbm hnb hbm0 hbm2 hnb0 hnb2 hs1 hmk W1
 rw [show Fz 7 = Code.region 7 from rfl]
 obtain ⟨⟨xk0, xk1⟩, xb, x0, x1, x2, x3, x4, x5, x6, x7, x8, x9⟩ := HS1.out.cells
 (try dsimp only at x0 x1 x2 x3 x4 x5 x6 x7 x8 x9)
 obtain ⟨xm0, xm1, xm2, xm3, xm4⟩ := HS1.out.mm.facts
 have HS1d := Lib.hid (HS1.out.below (Below.refl _ _).drew)
 have HV : Hid (∀ k, k < X.N + 1 → (decide (k = i) && decide (i = X.N)) = if k = i then ((i : Int) == (X.T.length : Int)) else false) := Lib.hid (fun k hk => by
  have hv0 : ((i : Int) == (X.T.length : Int)) = decide (i = X.N) := by
   by_cases e : i = X.N
   · rw [decide_eq_true e, e]; exact beq_self_eq_true _
   · rw [decide_eq_false e]; exact beq_eq_false_iff_ne.2 (fun q => e (by have : (X.N : Int) = X.T.length := rfl; omega))
  rw [hv0]
  by_cases e : k = i
  · rw [if_pos e, decide_eq_true e]; rfl
  · rw [if_neg e, decide_eq_false e]; rfl)
 have hfz := HS1d.out.rb.fz i
 have hcl := HS1d.out.rb.cell (i := i) (by omega)
 have HS2 := Lib.hid (HS1d.out.put (p := i) (v := ((i : Int) == (X.T.length : Int))) (g := fun j => decide (j = i) && decide (i = X.N)) HV.out)
 go_wp2
 refine wp_region_noPanic ?_
 refine wp_region_held_drew (S := fun w' => w'.cell? ⟨w.heap.size + 1 + 1, 0, none⟩ = some (SL (w.heap.size + 1) (X.N + 1)) ∧ w'.cell? ⟨X.bm, 1, none⟩ = some (S X.T)) (by kernel_rfl) ?_ (fun hHeld => ?_)
 · (try dsimp only); exact ⟨HS1d.out.cells.2.1, HS1d.out.mm.facts.2.1⟩
 refine Tk.take 0 (hy := by (intro wv hSw; (try dsimp only at hSw); obtain ⟨q0, q1⟩ := hSw; go_simp) <;> with_reducible rfl) (h := ?_)
 refine Tk.take 1 (h := ?_)
 refine Tk.take 2 (h := ?_)
 refine Tk.take 3 (h := ?_)
 refine Tk.take 4 (h := ?_)
 refine Tk.take 5 (h := ?_)
 refine Tk.take 6 (hy := by (intro wv hSw; (try dsimp only at hSw); obtain ⟨q0, q1⟩ := hSw; go_simp) <;> with_reducible rfl) (h := ?_)
 refine Tk.take 7 (h := ?_)
 refine Tk.take 8 (h := ?_)
 refine Tk.take 9 (h := ?_)
 refine Tk.one 10 (h := fun K hK => ?_)
 go_simp
 refine hK.out _ _ ?_ (fun hHeld => Tk.wrk ?_)
 · (try dsimp only); (exact ⟨HS2.out.cells.2.1, HS2.out.mm.facts.2.1⟩)
 clear hK K
 refine wpAnyH_done (by kernel_rfl) ?_ _
 refine NoPanic.normal ?_
 clear xk0 xk1 xb x0 x1 x2 x3 x4 x5 x6 x7 x8 x9 xm0 xm1 xm2 xm3 xm4
 clear hfz hcl hHeld HS1d HS1 HV
 go_wp2
 refine at_world (p := fun W => FS X pr w ia i ⟨3, z, (a : Nat), (b : Nat), mn, mx, m⟩ (fun j => decide (j = i) && decide (i = X.N)) W) HS2.out (fun V hV => ?_)
 have HS3 := Lib.hid hV
 clear hV HS2
 have HSd := Lib.hid (HS3.out.below (Below.refl _ _).drew)
 refine wp_region_noPanic ?_
 refine wp_region_held_drew (S := fun w' => LQ X w ia i w') (by kernel_rfl) ?_ (fun hHeld => ?_)
 · (try dsimp only); exact HSd.out.lq
 generalize World.drew _ = W3 at HSd hHeld ⊢
 refine Tk.take 0 (h := ?_)
 refine Tk.take 1 (h := ?_)
 refine Tk.take 2 (h := ?_)
 refine Tk.take 3 (hy := by (intro wv hSw; (try dsimp only at hSw); obtain ⟨q0, q1, q2, q3⟩ := hSw; go_simp) <;> with_reducible rfl) (h := ?_)
 refine Tk.take 4 (hy := by (intro wv hSw; (try dsimp only at hSw); obtain ⟨q0, q1, q2, q3⟩ := hSw; go_simp) <;> with_reducible rfl) (h := ?_)
 refine Tk.take 5 (hy := by (intro wv hSw; (try dsimp only at hSw); obtain ⟨q0, q1, q2, q3⟩ := hSw; go_simp) <;> with_reducible rfl) (h := ?_)
 obtain ⟨w9, hlq, hrun, hmm, hkm, hrb, hbx⟩ := HSd.out.store HX.out HPR.out HAT.out HIA.out (by intro j _; rw [hxe]; rfl)
 have HL9 := Lib.hid hlq
 have H9 := Lib.hid (And.intro hmm (And.intro hkm hrb))
 clear hlq hmm hkm hrb
 refine Tk.one 6 (h := fun K hK => ?_)
 go_simp
 refine hK.out _ _ ?_ (fun hHeld => Tk.wrk ?_)
 · (try dsimp only); (exact HL9.out)
 clear hK K
 refine wpAnyH_done (by kernel_rfl) ?_ _
 refine NoPanic.normal ?_
 clear hHeld hrun HSd HL9
 go_wp2
 go_ret
 exact ⟨w.heap.size + 1, rfl, H9.out.2.2, fun q => by have := HPR.out _ q; omega, H9.out.1, H9.out.2.1⟩
set_option maxRecDepth 100000 in
set_option maxHeartbeats 3200000 in
theorem frm_4 (X : Par) (hX : X.Ok) (x : Tr) (o : Nat) (ha : At X.l x o) (ia : Nat) (hia : ia = o + x.size - 1) (pr : Nat → Prop) (i : Nat) (hi : i ≤ X.N) (w : World) (hM : MM X pr w) (nb no cap : Nat) (hv : X.v = .slice (some ⟨nb, no, none⟩) X.l.length cap) (hil : ia < X.l.length) (z : List Nat) (a b : Nat) (mn mx m : Int) (hN : NCell w nb (no + ia * 10) ⟨4, z, (a : Nat), (b : Nat), mn, mx, m⟩)
  (hlook : ∀ w' : World, w'.heap[X.b1]? = w.heap[X.b1]? → (Instr.lookup 91 (.map (some X.b1)) (PK ia i) true).run Tryz.prog w' = .ok (.tuple #[.slice none 0 0, .bool false]) w') (y1 y2 : Tr) (HF1 : FromOk X y1 a) (HF2 : FromOk X y2 b) (hxe : x = .cat y1 y2) :
  Calls Tryz.prog 68 #[PT X.bm, E (ia : Nat), E (i : Nat)] w (FromAns X pr w (endsP X.T x i)) := by
 have hlen := hX.len
 have hmk : ∀ W : World, (Instr.makeSlice 111 (.int .i64 ((X.N : Int) + 1)) (.int .i64 ((X.N : Int) + 1))).run Tryz.prog W = .ok (SL W.heap.size (X.N + 1)) (W.alloc (.cells (bcn (X.N + 1) fun _ => false) 4)) := fun W => by
  have := make_row (X.N + 1) (by omega) W
  rwa [show ((X.N + 1 : Nat) : Int) = (X.N : Int) + 1 from by omega] at this
 have HLEN := Lib.hid hlen
 have HFa := Lib.hid HF1
 have HFb := Lib.hid HF2
 have hwN : IntKind.i64.wrap ((X.N : Int) + 1) = (X.N : Int) + 1 := by rw [IntKind.wrap_i64]; omega
 have HA := Lib.hid (lk_start hM ia i)
 have HLK := Lib.hid hlook
 have hpr : ∀ k, pr k → k < w.heap.size := hM.lt
 have HPR := Lib.hid hpr
 have HX := Lib.hid hX
 have HAT := Lib.hid ha
 have HIA := Lib.hid hia
 have hi0 : (0 : Int) ≤ (i : Int) := by omega
 have hi1 : (i : Int) < (X.N : Int) + 1 := by omega
 have ha0 : (0 : Int) ≤ (ia : Int) := by omega
 have ha1 : (ia : Int) < (X.l.length : Int) := by omega
 have HNB := Lib.hid hN
 have HBASE := Lib.hid hM.bel.size
 clear HF1 HF2 hlook hpr hX ha hia hN hM hil
 go_enter Tryz.func68, Tryz.ntmps68
 rw [show Code.region 7 = Fz 7 from rfl]
 go_wp2
 refine wp_region_noPanic ?_
 refine wp_region_held_drew (S := fun w' => LK X w ia i w') (by kernel_rfl) ?_ (fun hHeld => ?_)
 · (try dsimp only); exact HA.out.1
 have hs1 : ((w.alloc (.cells #[E (ia : Nat), E (i : Nat)] 150)).drew).heap.size = w.heap.size + 1 := by show (w.alloc _).heap.size = _; simp
 generalize World.drew _ = W1 at HA hHeld hs1 ⊢
 refine Tk.take 0 (h := ?_)
 refine Tk.take 1 (h := ?_)
 refine Tk.take 2 (h := ?_)
 refine Tk.take 3 (hy := by (intro wv hSw; (try dsimp only at hSw); obtain ⟨q0, q1, q2, q3⟩ := hSw; go_simp) <;> with_reducible rfl) (h := ?_)
 refine Tk.take 4 (hy := by (intro wv hSw; (try dsimp only at hSw); obtain ⟨q0, q1, q2, q3⟩ := hSw; go_simp) <;> with_reducible rfl) (h := ?_)
 refine Tk.take 5 (hy := by (intro wv hSw; (try dsimp only at hSw); obtain ⟨q0, q1, q2, q3⟩ := hSw; have q4 := HLK.out _ q3; go_simp) <;> with_reducible rfl) (h := ?_)
 refine Tk.take 6 (h := ?_)
 refine Tk.take 7 (h := ?_)
 refine Tk.take 8 (h := ?_)
 refine Tk.take 9 (h := ?_)
 refine Tk.take 10 (h := ?_)
 refine wpAnyH_done (by kernel_rfl) ?_ _
 refine NoPanic.normal ?_
 clear hHeld
 obtain ⟨HLW, HMW, HKW, HKM, HBW⟩ := HA.out
 have HFS := Lib.hid (fs_start HMW HPR.out hs1 HKW HKM ⟨4, z, (a : Nat), (b : Nat), mn, mx, m⟩ HBASE.out)
 have hbm0 := lt_heap' HMW.hb
 rw [hs1] at hbm0
 have hbm := hbm0
 have hbm2 : X.bm < w.heap.size + 1 + 1 := by omega
 obtain ⟨c0, c1, c2, c3, c4⟩ := HMW.facts
 rw [hv] at c0
 obtain ⟨q0, q1, q2, q3, q4, q5, q6, q7, q8, q9⟩ := HNB.out.below HBW
 have hnb0 : nb < w.heap.size + 1 := by have := lt_cell q0; rw [hs1] at this; exact this
 have hnb := hnb0
 have hnb2 : nb < w.heap.size + 1 + 1 := by omega
 clear HLW HMW HKW HKM HBW HA
 go_wp2
 refine at_world (p := fun W => FS X pr w ia i ⟨4, z, (a : Nat), (b : Nat), mn, mx, m⟩ (fun _ => false) W) HFS.out (fun W hW => ?_)
 have HS1 := Lib.hid hW
 clear hW HFS c0 c1 c2 c3 c4 q0 q1 q2 q3 q4 q5 q6 q7 q8 q9 hbm hnb hbm0 hbm2 hnb0 hnb2 hs1 hmk W1
 rw [show Fz 7 = Code.region 7 from rfl]
 obtain ⟨⟨xk0, xk1⟩, xb, x0, x1, x2, x3, x4, x5, x6, x7, x8, x9⟩ := HS1.out.cells
 (try dsimp only at x0 x1 x2 x3 x4 x5 x6 x7 x8 x9)
 obtain ⟨xm0, xm1, xm2, xm3, xm4⟩ := HS1.out.mm.facts
 go_wp2_with (go_at_call 68; have hq := HFa.out; clear HFa; refine (hq _ i _ hi HS1.out.mm).mono ?_; clear hq; rintro e w2 ⟨g, rfl, hg, hng, hm, hk⟩; have HS2 := Lib.hid (HS1.out.call hm hk); have HGa := Lib.hid hg; have HNGa := Lib.hid hng; have HKM := Lib.hid hk; clear hm hk hg hng)
 clear xk0 xk1 xb x0 x1 x2 x3 x4 x5 x6 x7 x8 x9 xm0 xm1 xm2 xm3 xm4
 have HNR := Lib.hid (pv_row HNGa.out)
 have HS20 := Lib.hid (show FS X pr w ia i ⟨4, z, (a : Nat), (b : Nat), mn, mx, m⟩ (catK (endsP X.T y1) (endsP X.T y2) i 0) w2 from HS2.out)
 clear HS1 HS2 HNGa HKM
 go_loopw [102] (fun kv wr => ∃ (k : Nat), k ≤ X.N + 1 ∧ kv = .int .i64 (k : Nat) ∧ Hid (FS X pr w ia i ⟨4, z, (a : Nat), (b : Nat), mn, mx, m⟩ (catK (endsP X.T y1) (endsP X.T y2) i k) wr) ∧ Hid (RB wr g (X.N + 1) (endsP X.T y1 i))) (fun kv _ => X.N + 1 - (intOf kv).toNat)
 case atStart => exact ⟨0, by omega, rfl, HS20, HGa⟩
 case round =>
  clear HS20 HGa
  obtain ⟨k, hk, rfl, HS2, HGa⟩ := hrel
  by_cases hkl : k ≤ X.N
  ·
   have hlk : (k : Int) < (X.N : Int) + 1 := by omega
   have hk0 : (0 : Int) ≤ (k : Int) := by omega
   have hwk : IntKind.i64.wrap ((k : Int) + 1) = (k : Int) + 1 := by rw [IntKind.wrap_i64]; omega
   have hcg := HGa.out.cell (i := k) (by omega)
   obtain ⟨⟨xk0, xk1⟩, xb, x0, x1, x2, x3, x4, x5, x6, x7, x8, x9⟩ := HS2.out.cells
   (try dsimp only at x0 x1 x2 x3 x4 x5 x6 x7 x8 x9)
   obtain ⟨xm0, xm1, xm2, xm3, xm4⟩ := HS2.out.mm.facts
   cases hek : endsP X.T y1 i k
   ·
    rw [hek] at hcg
    have HS3 := Lib.hid (show FS X pr w ia i ⟨4, z, (a : Nat), (b : Nat), mn, mx, m⟩ (catK (endsP X.T y1) (endsP X.T y2) i (k + 1)) _ from by
     have e : catK (endsP X.T y1) (endsP X.T y2) i (k + 1) = catK (endsP X.T y1) (endsP X.T y2) i k := by
      funext j; rw [catK_next, hek]; simp
     rw [e]; exact HS2.out)
    clear hek
    go_wp2
    go_roundw
    case rel => exact ⟨k + 1, by omega, by go_num, HS3, HGa⟩
    case measure => simp [intOf]; omega
   ·
    rw [hek] at hcg
    have HCK := Lib.hid (show catK (endsP X.T y1) (endsP X.T y2) i (k + 1) = fun j => catK (endsP X.T y1) (endsP X.T y2) i k j || endsP X.T y2 k j from by
     funext j; rw [catK_next, hek]; simp)
    clear hek
    go_wp2_with (first
     | (go_at_call 68; have hq := HFb.out; refine (hq _ k _ hkl HS2.out.mm).mono ?_; clear hq; rintro e w4 ⟨g, rfl, hg, hng, hm, hk⟩; have HS4 := Lib.hid (HS2.out.call hm hk); have HGb := Lib.hid hg; have HNGb := Lib.hid hng; have HKM := Lib.hid hk; clear hm hk hg hng)
     | (go_at_call 94; have hq := add_any _ (w.heap.size + 1) (w.heap.size + 1 + 1) (X.N + 1) _ _ (by have := HLEN.out; omega) _ HGb.out HS4.out.rb HS4.out.bx (pv_row HNGb.out); refine hq.mono ?_; clear hq; rintro e w5 ⟨rfl, hr, ho⟩; have HS5 := Lib.hid (HS4.out.row hr ho); have HOB := Lib.hid ho; clear hr ho HGb HNGb))
    have HS6 := Lib.hid (show FS X pr w ia i ⟨4, z, (a : Nat), (b : Nat), mn, mx, m⟩ (catK (endsP X.T y1) (endsP X.T y2) i (k + 1)) _ from by rw [HCK.out]; exact HS5.out)
    have HG6 := Lib.hid ((HGa.out.call HS2.out.mm HKM.out).ob HNR.out HOB.out)
    go_roundw
    case rel => exact ⟨k + 1, by omega, by go_num, HS6, HG6⟩
    case measure => simp [intOf]; omega
  ·
   obtain rfl : k = X.N + 1 := by omega
   have hlk : ¬ (X.N : Int) + 1 < (X.N : Int) + 1 := by omega
   go_wp2
   have HSd := Lib.hid (HS2.out.below (Below.refl _ _).drew)
   refine wp_region_noPanic ?_
   refine wp_region_held_drew (S := fun w' => LQ X w ia i w') (by kernel_rfl) ?_ (fun hHeld => ?_)
   · (try dsimp only); exact HSd.out.lq
   generalize World.drew _ = W3 at HSd hHeld ⊢
   refine Tk.take 0 (h := ?_)
   refine Tk.take 1 (h := ?_)
   refine Tk.take 2 (h := ?_)
   refine Tk.take 3 (hy := by (intro wv hSw; (try dsimp only at hSw); obtain ⟨q0, q1, q2, q3⟩ := hSw; go_simp) <;> with_reducible rfl) (h := ?_)
   refine Tk.take 4 (hy := by (intro wv hSw; (try dsimp only at hSw); obtain ⟨q0, q1, q2, q3⟩ := hSw; go_simp) <;> with_reducible rfl) (h := ?_)
   refine Tk.take 5 (hy := by (intro wv hSw; (try dsimp only at hSw); obtain ⟨q0, q1, q2, q3⟩ := hSw; go_simp) <;> with_reducible rfl) (h := ?_)
   obtain ⟨w9, hlq, hrun, hmm, hkm, hrb, hbx⟩ := HSd.out.store HX.out HPR.out HAT.out HIA.out (by intro j _; rw [hxe]; rfl)
   have HL9 := Lib.hid hlq
   have H9 := Lib.hid (And.intro hmm (And.intro hkm hrb))
   clear hlq hmm hkm hrb
   refine Tk.one 6 (h := fun K hK => ?_)
   go_simp
   refine hK.out _ _ ?_ (fun hHeld => Tk.wrk ?_)
   · (try dsimp only); (exact HL9.out)
   clear hK K
   refine wpAnyH_done (by kernel_rfl) ?_ _
   refine NoPanic.normal ?_
   clear hHeld hrun HSd HL9
   go_wp2
   go_ret
   exact ⟨w.heap.size + 1, rfl, H9.out.2.2, fun q => by have := HPR.out _ q; omega, H9.out.1, H9.out.2.1⟩
end Go.Proofs.YtlicoffnjphphaaGreatDoor.Mt
