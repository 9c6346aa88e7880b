/- Finds: spans of what is found: their length, and whether they meet: the walks. -/
import Derived.Test.YthpiapemjadgdaaGreatDoorFnPPk
import Derived.Test.YthpiapemjadgdaaGreatDoorBk07
import Derived.Test.YthpiapemjadgdaaGreatDoorBk03
namespace Go.Proofs.YthpiapemjadgdaaGreatDoor.Mt
open Go.RowKit Go.Shelf
open Go.Proofs.YthpiapemjadgdaaGreatDoor.Rx
open Go.Proofs.YthpiapemjadgdaaGreatDoor.Sp Go.Proofs.YthpiapemjadgdaaGreatDoor.Fl
set_option linter.unusedVariables false
set_option linter.unusedSimpArgs false
theorem mn_cases {x y : Nat} {a b : Int} (hx : V x = some a) (hy : V y = some b) : V (minF x y) = some (min a b) := by
  unfold minF
  rw [order_V, hx, hy]
  simp only [Option.bind_some, Option.map_some]
  rcases cmp_cases a b with ⟨h, e⟩ | ⟨h, e⟩ | ⟨h, e⟩ <;> rw [e] <;> simp only
  · rw [hx]; congr 1; omega
  · split
    · rw [hx]; congr 1; omega
    · rw [hy]; congr 1; omega
  · rw [hy]; congr 1; omega
theorem mx_cases {x y : Nat} {a b : Int} (hx : V x = some a) (hy : V y = some b) : V (maxF x y) = some (max a b) := by
  unfold maxF
  rw [order_V, hx, hy]
  simp only [Option.bind_some, Option.map_some]
  rcases cmp_cases a b with ⟨h, e⟩ | ⟨h, e⟩ | ⟨h, e⟩ <;> rw [e] <;> simp only
  · rw [hy]; congr 1; omega
  · split
    · rw [hy]; congr 1; omega
    · rw [hx]; congr 1; omega
  · rw [hx]; congr 1; omega
theorem len_cap {N : Nat} (hN : N ≤ 999999999) {i j : Nat} (h : CapOk N (some (i, j))) (w : World) : Calls Tryz.prog 24 #[capV (some (i, j))] w fun e w' => e = .returned (E ((j - i : Nat) : Int)) ∧ w = w' := by
  have := Go.Proofs.YthpiapemjadgdaaGreatDoor.Sp.len_any (fi i) (fi j) w
  obtain ⟨_, e1, e2, _⟩ := fi_in (inB_of (a := (i : Int)) (b := (j : Int)) (by omega) (by have := h.1; omega) (by have := h.2; omega))
  rw [e1, e2, show (j : Int) - (i : Int) = ((j - i : Nat) : Int) from by have := h.1; omega] at this
  exact this
theorem meet_cap {N : Nat} (hN : N ≤ 999999999) {a b p q : Nat} (h : CapOk N (some (a, b))) (h' : CapOk N (some (p, q))) (hbp : b ≤ p) (w : World) : Calls Tryz.prog 28 #[capV (some (a, b)), capV (some (p, q))] w fun e w' => e = .returned (.bool false) ∧ w = w' := by
  have := Go.Proofs.YthpiapemjadgdaaGreatDoor.Sp.meet_any (fi a) (fi b) (fi p) (fi q) w
  have hu := unit_pos
  have e : meetB (fi a) (fi b) (fi p) (fi q) = false := by
    unfold meetB
    have h1 := mx_cases (V_fi (n := a) (by have := h.1; have := h.2; omega)) (V_fi (n := p) (by have := h'.1; have := h'.2; omega))
    have h2 := mn_cases (V_fi (n := b) (by have := h.2; omega)) (V_fi (n := q) (by have := h'.2; omega))
    have h3 : ltB (maxF (fi a) (fi p)) (minF (fi b) (fi q)) = false := by
      unfold ltB
      rw [h1, h2]
      dsimp only
      rw [decide_eq_false_iff_not]
      have h4 : (b : Int) * unit ≤ (p : Int) * unit := Int.mul_le_mul_of_nonneg_right (by omega) (Int.le_of_lt hu)
      omega
    rw [h3, Bool.and_false]
  rw [e] at this
  exact this
end Go.Proofs.YthpiapemjadgdaaGreatDoor.Mt
