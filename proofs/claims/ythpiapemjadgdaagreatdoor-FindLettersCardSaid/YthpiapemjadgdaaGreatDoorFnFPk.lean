/- Finds: a row of them in memory. -/
import Derived.Test.YthpiapemjadgdaaGreatDoorFnAPk
namespace Go.Proofs.YthpiapemjadgdaaGreatDoor.Mt
open Go.RowKit Go.Shelf
open Go.Proofs.YthpiapemjadgdaaGreatDoor.Rx
open Go.Proofs.YthpiapemjadgdaaGreatDoor.Fn
set_option linter.unusedVariables false
set_option linter.unusedSimpArgs false
theorem flC_cons (c : Caps) (l : List Caps) : flC (c :: l) = (CC c).toList ++ flC l := by unfold flC; rw [List.flatMap_cons]
theorem flC_get : ∀ (l : List Caps) (i : Nat) (h : i < l.length) (r : Nat), r < 10 → (flC l)[i * 10 + r]? = (CC l[i])[r]?
  | [], i, h, r, hr => by simp at h
  | c :: l, 0, h, r, hr => by
    rw [flC_cons, List.getElem?_append_left (by simp; omega)]
    simp
  | c :: l, i + 1, h, r, hr => by
    rw [flC_cons, List.getElem?_append_right (by simp; omega), show (i + 1) * 10 + r - (CC c).toList.length = i * 10 + r from by simp; omega]
    rw [flC_get l i (by simpa using h) r hr]
    simp
/-- Finds in memory. -/
def CsIn (w : World) (ae : Option Addr) (l : List Caps) : Prop := ∀ i (hi : i < l.length), ∃ g, ae = some ⟨g, 0, none⟩ ∧ w.cell? ⟨g, i * 10, none⟩ = some (capV (gr l[i] 0)) ∧ w.rangeAt g (i * 10) (CC l[i]).toList
theorem caps_form {w : World} {B : Nat} {v : Value} {l : List Caps} (h : w.ownsRow B 27 10 v l.length (flC l)) : ∃ ae cap, v = .slice ae l.length cap ∧ l.length ≤ cap ∧ CsIn w ae l := by
  rcases own_forms h with ⟨rfl, h0⟩ | ⟨g, cap, rfl, hc⟩
  · exact ⟨none, 0, by rw [h0], by omega, fun i hi => by omega⟩
  · have hcell : ∀ i (hi : i < l.length) r, r < 10 → w.cell? ⟨g, i * 10 + r, none⟩ = (CC l[i])[r]? := fun i hi r hr => by
      rw [h.cellAt (i * 10 + r) (by omega), flC_get l i hi r hr]
    refine ⟨_, cap, rfl, hc, fun i hi => ⟨g, rfl, ?_, fun j u hj => ?_⟩⟩
    · have := hcell i hi 0 (by omega)
      rw [Nat.add_zero] at this
      rw [this]
      simp
    · have hl : j < 10 := by
        have := (List.getElem?_eq_some_iff.1 hj).1
        simpa using this
      rw [hcell i hi j hl]
      simpa using hj
theorem CsIn.below {w w' : World} {ae : Option Addr} {l : List Caps} (h : CsIn w ae l) (hb : Below w.heap.size w w') : CsIn w' ae l := fun i hi => by
  obtain ⟨g, h1, h2, h3⟩ := h i hi
  exact ⟨g, h1, (hb.cell (lt_cell h2)).trans h2, fun j u hj => (hb.cell (lt_cell (h3 j u hj))).trans (h3 j u hj)⟩
end Go.Proofs.YthpiapemjadgdaaGreatDoor.Mt
