/- Patterns: nodes in memory; whether a node may have its parts: the walk. -/
import Derived.Test.YtdjedjfanfbbcaaGreatDoorRxW2
namespace Go.Proofs.YtdjedjfanfbbcaaGreatDoor.Rx
open Go.RowKit Go.Shelf
open Go.Proofs.YtdjedjfanfbbcaaGreatDoor.St (Wf word zeroW ext_word wf_zero)
set_option linter.unusedVariables false
set_option linter.unusedSimpArgs false
/-- A node's ten cells from an offset on. -/
abbrev NCell (w : World) (b o : Nat) (n : Nd) : Prop :=
  w.cell? ⟨b, o, none⟩ = some (E n.k) ∧ w.cell? ⟨b, o + 1, none⟩ = some (U (word n.s 0)) ∧ w.cell? ⟨b, o + 2, none⟩ = some (U (word n.s 1)) ∧ w.cell? ⟨b, o + 3, none⟩ = some (U (word n.s 2)) ∧ w.cell? ⟨b, o + 4, none⟩ = some (U (word n.s 3)) ∧
  w.cell? ⟨b, o + 5, none⟩ = some (E n.a) ∧ w.cell? ⟨b, o + 6, none⟩ = some (E n.b) ∧ w.cell? ⟨b, o + 7, none⟩ = some (E n.mn) ∧ w.cell? ⟨b, o + 8, none⟩ = some (E n.mx) ∧ w.cell? ⟨b, o + 9, none⟩ = some (E n.n)
theorem NCell.below {w w' : World} {b o : Nat} {n : Nd} (h : NCell w b o n) (hb : Below w.heap.size w w') : NCell w' b o n := by
  obtain ⟨h0, h1, h2, h3, h4, h5, h6, h7, h8, h9⟩ := h
  exact ⟨(hb.cell (lt_cell h0)).trans h0, (hb.cell (lt_cell h1)).trans h1, (hb.cell (lt_cell h2)).trans h2, (hb.cell (lt_cell h3)).trans h3, (hb.cell (lt_cell h4)).trans h4, (hb.cell (lt_cell h5)).trans h5, (hb.cell (lt_cell h6)).trans h6, (hb.cell (lt_cell h7)).trans h7, (hb.cell (lt_cell h8)).trans h8, (hb.cell (lt_cell h9)).trans h9⟩
/-- Nodes in memory. -/
def Ns (w : World) (v : Value) (l : List Nd) : Prop := ∃ (ao : Option Addr) (c : Nat), v = .slice ao l.length c ∧ ∀ (i : Nat) (h : i < l.length), ∃ b o, ao = some ⟨b, o, none⟩ ∧ NCell w b (o + i * 10) l[i]
theorem Ns.below {w w' : World} {v : Value} {l : List Nd} (h : Ns w v l) (hb : Below w.heap.size w w') : Ns w' v l := by
  obtain ⟨ao, c, rfl, hc⟩ := h
  refine ⟨ao, c, rfl, fun i hi => ?_⟩
  obtain ⟨b, o, ha, h⟩ := hc i hi
  exact ⟨b, o, ha, h.below hb⟩
theorem Ns.at {w : World} {ao : Option Addr} {n c : Nat} {l : List Nd} (h : Ns w (.slice ao n c) l) {i : Nat} (hi : i < l.length) : ∃ b o, ao = some ⟨b, o, none⟩ ∧ NCell w b (o + i * 10) l[i] := by
  obtain ⟨ao', c', e, hc⟩ := h
  simp only [Value.slice.injEq] at e
  obtain ⟨rfl, rfl, rfl⟩ := e
  exact hc i hi
theorem kind_at {l : List Nd} {j : Nat} (h : j < l.length) : kindAt l (j : Int) = l[j].k := by
  unfold kindAt; rw [Int.toNat_natCast, List.getElem?_eq_getElem h]; rfl
theorem fits_other (v : Value) (n : Nd) (w : World) (h4 : (n.k == 4) = false) (h5 : (n.k == 5) = false) (h6 : (n.k == 6) = false) :
    Calls Tryz.prog 64 #[v, NV n] w fun e w' => e = .returned (.bool true) ∧ Below w.heap.size w w' := by
  go_enter Tryz.func64, Tryz.ntmps64
  go_wp2
  go_ret
  exact ⟨rfl, (Below.refl w.heap.size w).alloc (Nat.le_refl _) _⟩
set_option maxRecDepth 100000 in
theorem fits_4 (b0 o L c : Nat) (s : List Nat) (j i : Nat) (mn mx m k1 k2 : Int) (w : World) (hj : (j : Int) < (L : Int)) (hi : (i : Int) < (L : Int)) (h1 : w.cell? ⟨b0, o + j * 10, none⟩ = some (E k1)) (h2 : w.cell? ⟨b0, o + i * 10, none⟩ = some (E k2)) :
    Calls Tryz.prog 64 #[.slice (some ⟨b0, o, none⟩) L c, NV ⟨4, s, (j : Nat), (i : Nat), mn, mx, m⟩] w fun e w' => e = .returned (.bool (decide (k1 ≠ 4 ∧ k1 ≠ 5 ∧ k2 ≠ 5))) ∧ Below w.heap.size w w' := by
  have hj0 : (0 : Int) ≤ (j : Int) := by omega
  have hi0 : (0 : Int) ≤ (i : Int) := by omega
  have h1' := ((Below.refl w.heap.size w).alloc (Nat.le_refl _) (Obj.cells (NC ⟨4, s, (j : Nat), (i : Nat), mn, mx, m⟩) 45)).cell (lt_cell h1) |>.trans h1
  have h2' := ((Below.refl w.heap.size w).alloc (Nat.le_refl _) (Obj.cells (NC ⟨4, s, (j : Nat), (i : Nat), mn, mx, m⟩) 45)).cell (lt_cell h2) |>.trans h2
  go_enter Tryz.func64, Tryz.ntmps64
  go_wp2
  all_goals go_ret
  all_goals refine ⟨ret1 (congrArg Value.bool ?_), (Below.refl w.heap.size w).alloc (Nat.le_refl _) _⟩
  all_goals (rw [Bool.eq_iff_iff]; simp; try omega)
set_option maxRecDepth 100000 in
theorem fits_5 (b0 o L c : Nat) (s : List Nat) (j : Nat) (b mn mx m k1 : Int) (w : World) (hj : (j : Int) < (L : Int)) (h1 : w.cell? ⟨b0, o + j * 10, none⟩ = some (E k1)) :
    Calls Tryz.prog 64 #[.slice (some ⟨b0, o, none⟩) L c, NV ⟨5, s, (j : Nat), b, mn, mx, m⟩] w fun e w' => e = .returned (.bool (decide (k1 ≠ 5))) ∧ Below w.heap.size w w' := by
  have hj0 : (0 : Int) ≤ (j : Int) := by omega
  have h1' := ((Below.refl w.heap.size w).alloc (Nat.le_refl _) (Obj.cells (NC ⟨5, s, (j : Nat), b, mn, mx, m⟩) 45)).cell (lt_cell h1) |>.trans h1
  go_enter Tryz.func64, Tryz.ntmps64
  go_wp2
  all_goals go_ret
  all_goals refine ⟨ret1 (congrArg Value.bool ?_), (Below.refl w.heap.size w).alloc (Nat.le_refl _) _⟩
  all_goals (rw [Bool.eq_iff_iff]; simp; try omega)
theorem cell_of {w : World} {b : Nat} {c : Array Value} {t : TypeId} {f : Nat × Nat} (h : w.heap[b]? = some (.cells c t f)) (i : Nat) : w.cell? ⟨b, i, none⟩ = c[i]? := by
  simp only [World.cell?, h]; rfl
theorem cells178 (w : World) (t : TypeId) (B : Nat) (hB : B = w.heap.size) : ∀ j, j < [(1 : Int), 7, 8].length → (w.alloc (Obj.cells #[E 1, E 7, E 8] t)).cell? ⟨B, 0 + j, none⟩ = some (.int .i64 ([(1 : Int), 7, 8].getD j 0)) := by
  subst hB
  intro j hj
  rw [cell_of (heap_alloc_new w (Obj.cells #[E 1, E 7, E 8] t))]
  match j, hj with
  | 0, _ => rfl
  | 1, _ => rfl
  | 2, _ => rfl
set_option maxRecDepth 100000 in
set_option maxHeartbeats 1600000 in
theorem fits_6 (b0 o L c : Nat) (s : List Nat) (j : Nat) (b mn mx m k1 : Int) (w : World) (hj : (j : Int) < (L : Int)) (h1 : w.cell? ⟨b0, o + j * 10, none⟩ = some (E k1)) :
    Calls Tryz.prog 64 #[.slice (some ⟨b0, o, none⟩) L c, NV ⟨6, s, (j : Nat), b, mn, mx, m⟩] w fun e w' => e = .returned (.bool (decide (k1 = 1 ∨ k1 = 7 ∨ k1 = 8))) ∧ Below w.heap.size w w' := by
  have hj0 : (0 : Int) ≤ (j : Int) := by omega
  have h1' := ((Below.refl w.heap.size w).alloc (Nat.le_refl _) (Obj.cells (NC ⟨6, s, (j : Nat), b, mn, mx, m⟩) 45)).cell (lt_cell h1) |>.trans h1
  have HC := Lib.hid (Tryz.slices_Contains_int (w.heap.size + 1) 0 3 3 [1, 7, 8] k1 ((w.alloc (Obj.cells (NC ⟨6, s, (j : Nat), b, mn, mx, m⟩) 45)).alloc (Obj.cells #[E 1, E 7, E 8] 3)) (by simp) (by simp) (cells178 _ _ _ (by simp)))
  have h1'' := ((((Below.refl w.heap.size w).alloc (Nat.le_refl _) (Obj.cells (NC ⟨6, s, (j : Nat), b, mn, mx, m⟩) 45)).alloc (by simp) (Obj.cells #[E 1, E 7, E 8] 3)).cell (lt_cell h1)).trans h1
  go_enter Tryz.func64, Tryz.ntmps64
  go_wp2_with (go_at_call 82; refine HC.out.mono ?_; rintro e w' ⟨rfl, rfl⟩)
  go_ret
  refine ⟨ret1 (congrArg Value.bool ?_), ((Below.refl w.heap.size w).alloc (Nat.le_refl _) _).alloc (by simp) _⟩
  rw [Bool.eq_iff_iff]; simp
theorem fits_any (ao : Option Addr) (c : Nat) (l : List Nd) (n : Nd) (w : World) (h : Ns w (.slice ao l.length c) l) (ha : n.k = 4 ∨ n.k = 5 ∨ n.k = 6 → ∃ j, j < l.length ∧ n.a = (j : Nat)) (hb : n.k = 4 → ∃ j, j < l.length ∧ n.b = (j : Nat)) :
    Calls Tryz.prog 64 #[.slice ao l.length c, NV n] w fun e w' => e = .returned (.bool (decide (Fits l n))) ∧ Below w.heap.size w w' := by
  obtain ⟨k, s, a, b, mn, mx, m⟩ := n
  dsimp only at ha hb
  by_cases h4 : k = 4
  · subst h4
    obtain ⟨j, hj, rfl⟩ := ha (Or.inl rfl)
    obtain ⟨i, hi, rfl⟩ := hb rfl
    obtain ⟨p, o, rfl, hp⟩ := h.at hj
    obtain ⟨q, o', e, hq⟩ := h.at hi
    simp only [Option.some.injEq, Addr.mk.injEq, and_true] at e
    obtain ⟨rfl, rfl⟩ := e
    rw [show decide (Fits l ⟨4, s, (j : Nat), (i : Nat), mn, mx, m⟩) = decide (l[j].k ≠ 4 ∧ l[j].k ≠ 5 ∧ l[i].k ≠ 5) from by
      rw [decide_eq_decide]; unfold Fits; rw [if_pos rfl, kind_at hj, kind_at hi]]
    exact fits_4 p o l.length c s j i mn mx m _ _ w (by omega) (by omega) hp.1 hq.1
  by_cases h5 : k = 5
  · subst h5
    obtain ⟨j, hj, rfl⟩ := ha (Or.inr (Or.inl rfl))
    obtain ⟨p, o, rfl, hp⟩ := h.at hj
    rw [show decide (Fits l ⟨5, s, (j : Nat), b, mn, mx, m⟩) = decide (l[j].k ≠ 5) from by
      rw [decide_eq_decide]; unfold Fits; dsimp only; rw [if_neg (by decide), if_pos rfl, kind_at hj]]
    exact fits_5 p o l.length c s j b mn mx m _ w (by omega) hp.1
  by_cases h6 : k = 6
  · subst h6
    obtain ⟨j, hj, rfl⟩ := ha (Or.inr (Or.inr rfl))
    obtain ⟨p, o, rfl, hp⟩ := h.at hj
    rw [show decide (Fits l ⟨6, s, (j : Nat), b, mn, mx, m⟩) = decide (l[j].k = 1 ∨ l[j].k = 7 ∨ l[j].k = 8) from by
      rw [decide_eq_decide]; unfold Fits; dsimp only; rw [if_neg (by decide), if_neg (by decide), if_pos rfl, kind_at hj]]
    exact fits_6 p o l.length c s j b mn mx m _ w (by omega) hp.1
  rw [decide_eq_true (show Fits l ⟨k, s, a, b, mn, mx, m⟩ from by unfold Fits; dsimp only; rw [if_neg h4, if_neg h5, if_neg h6]; trivial)]
  exact fits_other _ ⟨k, s, a, b, mn, mx, m⟩ w (by simpa using h4) (by simpa using h5) (by simpa using h6)
end Go.Proofs.YtdjedjfanfbbcaaGreatDoor.Rx
