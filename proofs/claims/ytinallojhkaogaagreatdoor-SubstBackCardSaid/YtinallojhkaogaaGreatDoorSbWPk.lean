/- Subst: parts that are handed in. -/
import Derived.Test.YtinallojhkaogaaGreatDoorGk35
import Derived.ProofKit
import Derived.OpenShut
import Derived.Carry
import Derived.Lib.SmallJoins
import Derived.Deep.Grids
import Derived.Laws.IdiomArrays
namespace Go.Proofs.YtinallojhkaogaaGreatDoor.Mt
open Go.RowKit Go.ChangeShapes Go.WideShapes Go.Joins Go.Deep
open Go.Proofs.YtinallojhkaogaaGreatDoor.Rx (S E)
set_option linter.unusedVariables false
set_option linter.unusedSimpArgs false
set_option maxRecDepth 100000 in
theorem cellsPt : Tryz.prog.cellsOf 55 = 2 := by kernel_rfl
set_option maxRecDepth 100000 in
theorem cellsStr : Tryz.prog.cellsOf 9 = 1 := by kernel_rfl
set_option maxRecDepth 100000 in
theorem cellsI1 : Tryz.prog.cellsOf 3 = 1 := by kernel_rfl
instance : Inhabited Pt := ⟨⟨[], 0⟩⟩
section
variable {H : Type} {enc : TypeId × Value → H} {w : World} {base : Nat} {held : Bool} {r : Reach} {b0 : Nat} {v : Value} {d : DataW H} {ps : List MemPlace}
set_option maxRecDepth 100000 in
set_option maxHeartbeats 800000 in
/-- Parts that are handed in. -/
theorem open_parts (hv : Value.okWide Tryz.prog w r b0 56 v) (hd : DataW.Trod enc Tryz.prog w base (fun _ => true) held 56 v d ps) : ∃ (ao : Option Addr) (c : Nat) (l : List Pt), v = .slice ao l.length c ∧ l.length ≤ maxLen ∧ PI2 w ao l ∧ ∀ n ∈ l, n.t.length ≤ maxLen := by
  obtain ⟨a0, l0, c0, rfl⟩ := okWide_slice Tryz.underlying56 hv
  obtain ⟨fuel, hf⟩ := hd
  rcases open_slice Tryz.underlying56 hf with ⟨e, _⟩ | ⟨a, len, cap, m, n, D, Pl, hcs, hb, hl, hm, hmm, hx, hi⟩
  · simp only [Value.cells, List.cons.injEq, and_true] at e
    obtain ⟨rfl, rfl, rfl⟩ : a0 = none ∧ l0 = 0 ∧ c0 = 0 := by simpa using e
    exact ⟨none, 0, [], rfl, by simp, fun i hi => absurd hi (by simp), by simp⟩
  · obtain ⟨rfl, rfl, rfl⟩ : a0 = some a ∧ l0 = len ∧ c0 = cap := by simpa [Value.cells] using hcs
    have hsp0 : 0 < l0 → a.spot = none := fun h0 => by
      obtain ⟨cs', hc, _⟩ := hi 0 (by simp at hmm; omega)
      rw [cellsPt] at hc
      obtain ⟨_, hcl, hat⟩ := World.cells?_some hc
      have g := World.cell?_spot ((hat 0 (by omega)).trans (List.getElem?_eq_getElem (by rw [hcl]; omega)))
      simpa [Addr.add] using g
    obtain ⟨f, hF⟩ := choose_lt (α := Pt) (n := l0) (p := fun i q => a.spot = none ∧ (w.cell? ⟨a.block, a.off + i * 2, none⟩ = some (S q.t) ∧ w.cell? ⟨a.block, a.off + i * 2 + 1, none⟩ = some (E q.g)) ∧ q.t.length ≤ maxLen) (fun i hlt => by
      obtain ⟨cs', hc, ht'⟩ := hi i (by simp at hmm; omega)
      rw [cellsPt] at hc
      obtain ⟨ys, n', _, _, hlen, hyl, hf⟩ := DataW.trod_struct Tryz.underlying55 ht'
      have hz : ∀ i : Nat, i < 2 → ∃ y, ys[i]? = some y := fun i hi => ⟨_, List.getElem?_eq_getElem (by rw [hyl]; exact hi)⟩
      obtain ⟨z0, hz0⟩ := hz 0 (by omega)
      obtain ⟨z1, hz1⟩ := hz 1 (by omega)
      obtain ⟨_, hcl, hat⟩ := World.cells?_some hc
      rw [cellsPt] at hlen
      match cs', hlen with
      | [v0, v1], _ =>
        obtain ⟨x0, e0, _, w0⟩ := DataW.trod_string Tryz.underlying9 ((hf 0 _ rfl).trans hz0)
        have h1 := (hf 1 _ rfl).trans hz1
        obtain ⟨x1, e1, _, w1⟩ := DataW.trod_int Tryz.underlying3 h1
        simp [cellsStr, cellsI1] at e0 e1
        subst e0 e1
        have hsp := hsp0 (by omega)
        refine ⟨⟨x0.data.toList, x1⟩, hsp, ?_, by simpa using w0⟩
        obtain ⟨ab, ao, asp⟩ := a
        dsimp only at hsp
        subst hsp
        have hg : ∀ j, j < 2 → (((⟨ab, ao, none⟩ : Addr).add (i * 2)).add j) = ⟨ab, ao + i * 2 + j, none⟩ := fun j _ => by rw [Addr.add_lit, Addr.add_lit]
        have k : ∀ (j : Nat), j < 2 → w.cell? ⟨ab, ao + i * 2 + j, none⟩ = w.cell? (((⟨ab, ao, none⟩ : Addr).add (i * 2)).add j) := fun j hj => by rw [hg j hj]
        refine ⟨(k 0 (by decide)).trans ((hat 0 (by omega)).trans ?_), (k 1 (by decide)).trans (hat 1 (by omega))⟩
        show some (Value.string x0) = some (S x0.data.toList)
        rw [show S x0.data.toList = Value.string x0 from by rw [S, Lib.mk_data]])
    have hsz : ((List.range l0).map f).length = l0 := by simp
    refine ⟨some a, c0, (List.range l0).map f, by simp, by simp; omega, fun i hi' => ?_, fun n hn => ?_⟩
    · have hil : i < l0 := by simpa using hi'
      have e : ((List.range l0).map f)[i] = f i := by simp
      rw [e]
      obtain ⟨hs, hn, _⟩ := hF i hil
      obtain ⟨ab, ao, asp⟩ := a
      dsimp only at hs
      subst hs
      exact ⟨ab, ao, rfl, hn.1, hn.2⟩
    · obtain ⟨i, hi', rfl⟩ := List.mem_map.1 hn
      exact (hF i (by simpa using hi')).2.2
end
end Go.Proofs.YtinallojhkaogaaGreatDoor.Mt
