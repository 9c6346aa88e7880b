/- The texts SpPlain. -/
import Derived.Test.YthpiapemjadgdaaGreatDoorBk03
set_option linter.unusedVariables false
set_option linter.unusedSimpArgs false
namespace Go.Proofs.YthpiapemjadgdaaGreatDoor.Sp
open Go.RowKit Fl
abbrev fi (n : Int) : Nat := floatOfInt .f64 n
theorem may_fi (a b : Int) (ha : -9223372036854775808 ≤ a) (ha' : a ≤ 9223372036854775807) (hb : -9223372036854775808 ≤ b) (hb' : b ≤ 9223372036854775807) : may (fi a) (fi b) = inB a b := by
 obtain ⟨a1, a2⟩ := wh_ofInt a ha ha';obtain ⟨b1, b2⟩ := wh_ofInt b hb hb';rw [Bool.eq_iff_iff];constructor
 · intro h;obtain ⟨h1, h2, h3⟩ := may_spec h;rw [a1] at h1; rw [b1] at h2;simp at h1 h2;rw [a2 h1.1 h1.2, b2 h2.1 h2.2] at h3;unfold inB; simp; omega
 · intro h;unfold inB at h; simp at h;have e1 := a2 (by omega) (by omega);have e2 := b2 (by omega) (by omega);exact may_of (by rw [a1]; simp; omega) (by rw [b1]; simp; omega) (by rw [e1, e2]; omega)
theorem inB_spec {a b : Int} (h : inB a b = true) : 0 ≤ a ∧ a ≤ b ∧ b ≤ 999999999 := by
 unfold inB at h; simp at h; omega
theorem inB_of {a b : Int} (h0 : 0 ≤ a) (h1 : a ≤ b) (h2 : b ≤ 999999999) : inB a b = true := by
 unfold inB; simp; omega
theorem fi_in {a b : Int} (h : inB a b = true) : may (fi a) (fi b) = true ∧ fromV (fi a) (fi b) = a ∧ toV (fi a) (fi b) = b ∧ tr (fi a) = a ∧ tr (fi b) = b := by
 obtain ⟨h0, h1, h2⟩ := inB_spec h;have e := may_fi a b (by omega) (by omega) (by omega) (by omega);rw [h] at e;have e1 := (wh_ofInt a (by omega) (by omega)).2 h0 (by omega);have e2 := (wh_ofInt b (by omega) (by omega)).2 (by omega) h2;exact ⟨e, by unfold fromV; rw [e]; exact e1, by unfold toV; rw [e]; exact e2, e1, e2⟩
theorem eqB_refl {x : Nat} {v : Int} (h : V x = some v) : eqB x x = true := eq_V h h
theorem eqB_none : eqB noneB noneB = true := eqB_refl V_none
end Go.Proofs.YthpiapemjadgdaaGreatDoor.Sp
