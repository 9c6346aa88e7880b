/- Addresses, ranges, lines, lists of lines as parameters. -/
import Derived.Test.YtcijhfdccbgcpaaDoorAdW3
import Derived.ProofKit
import Derived.OpenShut
import Derived.Carry
import Derived.Lib.SmallJoins
import Derived.Deep.Grids
namespace Go.Proofs.YtcijhfdccbgcpaaDoor.Ad
open Go.RowKit Go.ChangeShapes Go.WideShapes Go.Joins Go.Deep
set_option linter.unusedVariables false
set_option linter.unusedSimpArgs false
set_option maxRecDepth 100000 in
theorem cellsA : Tryd.prog.cellsOf 23 = 3 := by kernel_rfl
set_option maxRecDepth 100000 in
theorem cellsRg : Tryd.prog.cellsOf 25 = 7 := by kernel_rfl
set_option maxRecDepth 100000 in
theorem cellsL : Tryd.prog.cellsOf 44 = 3 := by kernel_rfl
set_option maxRecDepth 100000 in
theorem cellsBo : Tryd.prog.cellsOf 4 = 1 := by kernel_rfl
set_option maxRecDepth 100000 in
theorem laidOut : laidOutB Tryd.prog = true := by kernel_rfl
def wfI (n : Int) : Prop := (Lit.int .i64 n).wf = true
/-- What reads as it did, all arguments at once. -/
theorem carryAll {H : Type} {enc : TypeId × Value → H} {W W' : World} (hb : Below W.heap.size W W') : ∀ {ts : List TypeId} {vs : List Value} {ds : List (DataW H)} {ps : List MemPlace},
    (∀ t ∈ ts, Tryd.prog.readableRec t = true ∧ t < Tryd.prog.types.size) → DataW.TrodAll enc Tryd.prog W 0 (fun _ => true) true ts vs ds ps → (∀ x ∈ ps, x.block < W.heap.size) →
    DataW.TrodAll enc Tryd.prog W' 0 (fun b => decide (b < W.heap.size)) true ts vs ds ps
  | [], vs, ds, ps, _, h, _ => by
    obtain ⟨rfl, rfl, rfl⟩ := trodAll_nil h
    exact trodAll_mk0
  | t :: ts, vs, ds, ps, hr, h, hl => by
    obtain ⟨v, vs', d, ds', p, q, rfl, rfl, rfl, h0, hs⟩ := trodAll_cons h
    exact trodAll_cons_mk (Below.trod laidOut (hr t (by simp)).1 (hr t (by simp)).2 h0 hb (fun x hx => hl x (by simp [hx])))
      (carryAll hb (fun u hu => hr u (by simp [hu])) hs (fun x hx => hl x (by simp [hx])))
section
variable {H : Type} {enc : TypeId × Value → H} {w : World} {base : Nat} {held : Bool} {r : Reach} {b0 : Nat} {v : Value} {d : DataW H} {ps : List MemPlace}
set_option maxRecDepth 100000 in
theorem open_addr {spare : Nat → Bool} (hv : Value.okWide Tryd.prog w r b0 23 v) (hd : DataW.Trod enc Tryd.prog w base spare held 23 v d ps) : ∃ a : A3, v = AV a := by
  obtain ⟨c0, c1, c2, y0, y1, y2, m, rfl, _, _, h0, h1, h2⟩ := open_agg3 Tryd.underlying23 (by kernel_rfl) cellsA hv hd
  obtain ⟨x0, e0, _, _⟩ := DataW.trod_int Tryd.underlying3 h0
  obtain ⟨x1, e1, _, _⟩ := DataW.trod_int Tryd.underlying3 h1
  obtain ⟨x2, e2, _, _⟩ := DataW.trod_int Tryd.underlying3 h2
  simp only [List.cons.injEq, and_true] at e0 e1 e2
  subst e0 e1 e2
  exact ⟨⟨x0, x1, x2⟩, rfl⟩
set_option maxRecDepth 100000 in
theorem trod_addr {spare : Nat → Bool} {n : Nat} {cs : List Value} {x : DataW H × List MemPlace} (h : DataW.trod enc Tryd.prog w base spare held n 23 cs = some x) : ∃ a : A3, cs = [E a.k, E a.n, E a.m] := by
  obtain ⟨ys, n', _, _, hl, hyl, hf⟩ := DataW.trod_struct Tryd.underlying23 h
  rw [cellsA] at hl
  have hg : ∀ i : Nat, i < 3 → ∃ y, ys[i]? = some y := fun i hi => ⟨_, List.getElem?_eq_getElem (by rw [hyl]; exact hi)⟩
  obtain ⟨z0, hz0⟩ := hg 0 (by omega)
  obtain ⟨z1, hz1⟩ := hg 1 (by omega)
  obtain ⟨z2, hz2⟩ := hg 2 (by omega)
  match cs, hl with
  | [c0, c1, c2], _ =>
    obtain ⟨x0, e0, _, _⟩ := DataW.trod_int Tryd.underlying3 ((hf 0 _ rfl).trans hz0)
    obtain ⟨x1, e1, _, _⟩ := DataW.trod_int Tryd.underlying3 ((hf 1 _ rfl).trans hz1)
    obtain ⟨x2, e2, _, _⟩ := DataW.trod_int Tryd.underlying3 ((hf 2 _ rfl).trans hz2)
    have k1 : Tryd.prog.cellsOf 3 = 1 := by kernel_rfl
    simp [k1] at e0 e1 e2
    subst e0 e1 e2
    exact ⟨⟨x0, x1, x2⟩, rfl⟩
set_option maxRecDepth 100000 in
theorem open_range {spare : Nat → Bool} (hv : Value.okWide Tryd.prog w r b0 25 v) (hd : DataW.Trod enc Tryd.prog w base spare held 25 v d ps) : ∃ (a b : A3) (n : Bool), v = RV a b n := by
  obtain ⟨cs, rfl, hsz⟩ := okWide_struct Tryd.underlying25 hv
  rw [cellsRg] at hsz
  obtain ⟨fuel, hf⟩ := hd
  obtain ⟨ys, n', _, _, hl, hyl, hg⟩ := DataW.trod_struct Tryd.underlying25 hf
  have hz : ∀ i : Nat, i < 3 → ∃ y, ys[i]? = some y := fun i hi => ⟨_, List.getElem?_eq_getElem (by rw [hyl]; exact hi)⟩
  obtain ⟨z0, hz0⟩ := hz 0 (by omega)
  obtain ⟨z1, hz1⟩ := hz 1 (by omega)
  obtain ⟨z2, hz2⟩ := hz 2 (by omega)
  obtain ⟨l⟩ := cs
  match l, hsz with
  | [c0, c1, c2, c3, c4, c5, c6], _ =>
    obtain ⟨a, ea⟩ := trod_addr ((hg 0 _ rfl).trans hz0)
    obtain ⟨b, eb⟩ := trod_addr ((hg 1 _ rfl).trans hz1)
    obtain ⟨x, ex, _⟩ := DataW.trod_bool Tryd.underlying4 ((hg 2 _ rfl).trans hz2)
    simp [Value.cells, cellsA, cellsBo] at ea eb ex
    obtain ⟨rfl, rfl, rfl⟩ := ea
    obtain ⟨rfl, rfl, rfl⟩ := eb
    subst ex
    exact ⟨a, b, x, rfl⟩
set_option maxRecDepth 100000 in
theorem trod_bs {n : Nat} {v : Value} {x : DataW H × List MemPlace} (h : DataW.trod enc Tryd.prog w base (fun _ => true) held n 42 [v] = some x) : ∃ (ao : Option Addr) (c : Nat) (hs : List Bool), v = .slice ao hs.length c ∧ hs.length ≤ maxLen ∧ Bs w (.slice ao hs.length c) hs := by
  rcases open_bools Tryd.underlying42 Tryd.underlying4 cellsBo h with ⟨e, _⟩ | ⟨a, len, cap, B, e, _, hl, hm, _, hc⟩
  · simp only [List.cons.injEq, and_true] at e
    subst e
    exact ⟨none, 0, [], rfl, by simp, none, 0, rfl, fun i hi => absurd hi (by simp)⟩
  · simp only [List.cons.injEq, and_true] at e
    subst e
    refine ⟨some a, cap, (List.range len).map B, by simp, by simp; omega, some a, cap, by simp, fun i hi => ⟨a, rfl, ?_⟩⟩
    have hi' : i < len := by simpa using hi
    rw [hc i (by omega)]
    simp
set_option maxRecDepth 100000 in
theorem open_bs (hv : Value.okWide Tryd.prog w r b0 42 v) (hd : DataW.Trod enc Tryd.prog w base (fun _ => true) held 42 v d ps) : ∃ (ao : Option Addr) (c : Nat) (hs : List Bool), v = .slice ao hs.length c ∧ hs.length ≤ maxLen ∧ Bs w (.slice ao hs.length c) hs := by
  obtain ⟨a, l, c, rfl⟩ := okWide_slice Tryd.underlying42 hv
  obtain ⟨fuel, hf⟩ := hd
  exact trod_bs hf
set_option maxRecDepth 100000 in
theorem open_line (hv : Value.okWide Tryd.prog w r b0 44 v) (hd : DataW.Trod enc Tryd.prog w base (fun _ => true) held 44 v d ps) : ∃ (n : Int) (last : Bool) (ao : Option Addr) (c : Nat) (hs : List Bool), v = LV n last (.slice ao hs.length c) ∧ wfI n ∧ hs.length ≤ maxLen ∧ Bs w (.slice ao hs.length c) hs := by
  obtain ⟨c0, c1, c2, y0, y1, y2, m, rfl, _, _, h0, h1, h2⟩ := open_agg3 Tryd.underlying44 (by kernel_rfl) cellsL hv hd
  obtain ⟨x0, e0, _, w0⟩ := DataW.trod_int Tryd.underlying3 h0
  obtain ⟨x1, e1, _⟩ := DataW.trod_bool Tryd.underlying4 h1
  obtain ⟨ao, c, hs, e2, hm, hb⟩ := trod_bs h2
  simp only [List.cons.injEq, and_true] at e0 e1
  subst e0 e1 e2
  exact ⟨x0, x1, ao, c, hs, rfl, w0, hm, hb⟩
/-- Lines in memory. -/
def Ls (w : World) (v : Value) (ls : List L3) : Prop := ∃ (ao : Option Addr) (c : Nat), v = .slice ao ls.length c ∧ ∀ (i : Nat) (h : i < ls.length), ∃ a, ao = some a ∧
  w.cell? (a.add (i * 3)) = some (E ls[i].n) ∧ w.cell? (a.add (i * 3 + 1)) = some (.bool ls[i].last) ∧ wfI ls[i].n ∧ ls[i].has.length ≤ maxLen ∧ ∃ bo bc, w.cell? (a.add (i * 3 + 2)) = some (.slice bo ls[i].has.length bc) ∧ Bs w (.slice bo ls[i].has.length bc) ls[i].has
theorem Ls.below {w w' : World} {v : Value} {ls : List L3} (h : Ls w v ls) (hb : Below w.heap.size w w') : Ls w' v ls := by
  obtain ⟨ao, c, rfl, hc⟩ := h
  refine ⟨ao, c, rfl, fun i hi => ?_⟩
  obtain ⟨a, ha, h0, h1, hw, hm, bo, bc, h2, h3⟩ := hc i hi
  exact ⟨a, ha, (hb.cell (p := a.add (i * 3)) (lt_cell h0)).trans h0, (hb.cell (p := a.add (i * 3 + 1)) (lt_cell h1)).trans h1, hw, hm, bo, bc, (hb.cell (p := a.add (i * 3 + 2)) (lt_cell h2)).trans h2, h3.below hb⟩
instance : Inhabited L3 := ⟨⟨0, false, []⟩⟩
set_option maxRecDepth 100000 in
theorem open_ls (hv : Value.okWide Tryd.prog w r b0 50 v) (hd : DataW.Trod enc Tryd.prog w base (fun _ => true) held 50 v d ps) : ∃ (ao : Option Addr) (c : Nat) (ls : List L3), v = .slice ao ls.length c ∧ ls.length ≤ maxLen ∧ Ls w (.slice ao ls.length c) ls := by
  obtain ⟨a0, l0, c0, rfl⟩ := okWide_slice Tryd.underlying50 hv
  obtain ⟨fuel, hf⟩ := hd
  rcases open_slice Tryd.underlying50 hf with ⟨e, _⟩ | ⟨a, len, cap, m, n, D, Pl, hcs, hb, hl, hm, hmm, hx, hi⟩
  · simp only [Value.cells, List.cons.injEq, and_true] at e
    obtain ⟨rfl, rfl, rfl⟩ : a0 = none ∧ l0 = 0 ∧ c0 = 0 := by simpa using e
    exact ⟨none, 0, [], rfl, by simp, none, 0, rfl, fun i hi => absurd hi (by simp)⟩
  · obtain ⟨rfl, rfl, rfl⟩ : a0 = some a ∧ l0 = len ∧ c0 = cap := by simpa [Value.cells] using hcs
    obtain ⟨f, hF⟩ := choose_lt (α := L3) (n := l0) (p := fun i q => w.cell? (a.add (i * 3)) = some (E q.n) ∧ w.cell? (a.add (i * 3 + 1)) = some (.bool q.last) ∧ wfI q.n ∧ q.has.length ≤ maxLen ∧ ∃ bo bc, w.cell? (a.add (i * 3 + 2)) = some (.slice bo q.has.length bc) ∧ Bs w (.slice bo q.has.length bc) q.has) (fun i hil => by
      obtain ⟨cs', hc, ht'⟩ := hi i (by simp at hmm; omega)
      rw [cellsL] at hc
      obtain ⟨ys, n', _, _, hlen, hyl, hf⟩ := DataW.trod_struct Tryd.underlying44 ht'
      have hz : ∀ i : Nat, i < 3 → ∃ y, ys[i]? = some y := fun i hi => ⟨_, List.getElem?_eq_getElem (by rw [hyl]; exact hi)⟩
      obtain ⟨z0, hz0⟩ := hz 0 (by omega)
      obtain ⟨z1, hz1⟩ := hz 1 (by omega)
      obtain ⟨z2, hz2⟩ := hz 2 (by omega)
      obtain ⟨_, hcl, hat⟩ := World.cells?_some hc
      rw [cellsL] at hlen
      match cs', hlen with
      | [v0, v1, v2], _ =>
        obtain ⟨x0, e0, _, w0⟩ := DataW.trod_int Tryd.underlying3 ((hf 0 _ rfl).trans hz0)
        obtain ⟨x1, e1, _⟩ := DataW.trod_bool Tryd.underlying4 ((hf 1 _ rfl).trans hz1)
        have h2 := (hf 2 _ rfl).trans hz2
        have k1 : Tryd.prog.cellsOf 3 = 1 := by kernel_rfl
        have k2 : Tryd.prog.cellsOf 4 = 1 := by kernel_rfl
        have k3 : Tryd.prog.cellsOf 42 = 1 := by kernel_rfl
        simp [k1, k2] at e0 e1
        subst e0 e1
        simp [k3] at h2
        obtain ⟨ao, c, hs, e2, hm2, hb2⟩ := trod_bs h2
        subst e2
        have g0 := hat 0 (by omega)
        have g1 := hat 1 (by omega)
        have g2 := hat 2 (by omega)
        rw [Go.Deep.add_add] at g0 g1 g2
        exact ⟨⟨x0, x1, hs⟩, g0, g1, w0, hm2, ao, c, g2, hb2⟩)
    refine ⟨some a, c0, (List.range l0).map f, by simp, by simp; omega, some a, c0, rfl, fun i hi' => ?_⟩
    have hil : i < l0 := by simpa using hi'
    have e : ((List.range l0).map f)[i] = f i := by simp
    rw [e]
    exact ⟨a, rfl, hF i hil⟩
end
end Go.Proofs.YtcijhfdccbgcpaaDoor.Ad
