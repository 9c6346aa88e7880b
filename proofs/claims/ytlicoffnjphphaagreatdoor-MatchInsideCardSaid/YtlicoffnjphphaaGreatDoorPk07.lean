/- The texts RxW2 RxW3 RxOwn St1 StPop. -/
import Derived.Laws.OwnMore
import Derived.OwnWalk
import Derived.Lib.SmallJoins
import Derived.Test.YtlicoffnjphphaaGreatDoorChecked
import Derived.WalkKit
import Derived.WalkLawsBesides
import Derived.WalkSpells
import Derived.RowKit3
import Derived.Lib.Hide
import Derived.StillTailTactics
import Derived.Lib.Builder
import Derived.BigRegion
import Derived.Laws.BitsAllLaws
import Derived.Test.YtlicoffnjphphaaGreatDoorPk01
import Derived.Test.YtlicoffnjphphaaGreatDoorPk06
set_option linter.unusedVariables false
set_option linter.unusedSimpArgs false
namespace Go.Proofs.YtlicoffnjphphaaGreatDoor.Rx
open Go.RowKit Go.Shelf
open Go.Proofs.YtlicoffnjphphaaGreatDoor.St (Wf word zeroW ext_word wf_zero)
theorem word_eq {s t : List Nat} (hs : Wf s) (ht : Wf t) : s = t ↔ (word s 0 = word t 0 ∧ word s 1 = word t 1 ∧ word s 2 = word t 2 ∧ word s 3 = word t 3) := by
  constructor
  · rintro rfl; simp
  · rintro ⟨h0, h1, h2, h3⟩
    refine ext_word hs ht fun i hi => ?_
    match i, hi with
    | 0, _ => exact h0
    | 1, _ => exact h1
    | 2, _ => exact h2
    | 3, _ => exact h3
set_option maxRecDepth 100000 in
set_option maxHeartbeats 1600000 in
theorem run_eqN (n m : Nd) (hn : Wf n.s) (hm : Wf m.s) (w : World) : (Op.equalIn 10000 55 (NV n) (NV m)).run Tryz.prog w = .ok (decide (n = m)) w := by
  obtain ⟨k, s, a, b, mn, mx, x⟩ := n
  obtain ⟨k', s', a', b', mn', mx', x'⟩ := m
  dsimp only at hn hm
  have H4 := fun W => run_eq4g (word s 0) (word s 1) (word s 2) (word s 3) (word s' 0) (word s' 1) (word s' 2) (word s' 3) 9997 W
  have ne : ∀ {p q : Int}, p ≠ q → (p == q) = false := fun h => by simpa using h
  by_cases hk : k = k'
  · subst hk
    by_cases hs : s = s'
    · subst hs
      simp only [true_and, decide_true] at H4
      by_cases ha : a = a'
      · subst ha
        by_cases hb : b = b'
        · subst hb
          by_cases hmn : mn = mn'
          · subst hmn
            by_cases hmx : mx = mx'
            · subst hmx
              by_cases hx : x = x'
              · subst hx
                go_simp
              · have hB := ne hx
                rw [decide_eq_false (by simpa using hx)]
                go_simp
            · have hB := ne hmx
              rw [decide_eq_false (by simp [hmx])]
              go_simp
          · have hB := ne hmn
            rw [decide_eq_false (by simp [hmn])]
            go_simp
        · have hB := ne hb
          rw [decide_eq_false (by simp [hb])]
          go_simp
      · have hB := ne ha
        rw [decide_eq_false (by simp [ha])]
        go_simp
    · have h4 : (decide (word s 0 = word s' 0 ∧ word s 1 = word s' 1 ∧ word s 2 = word s' 2 ∧ word s 3 = word s' 3)) = false := by
        rw [decide_eq_false_iff_not, ← word_eq hn hm]; exact hs
      simp only [h4] at H4
      rw [decide_eq_false (by simp [hs])]
      go_simp
  · have hB := ne hk
    rw [decide_eq_false (by simp [hk])]
    go_simp
theorem lt_cell {W : World} {a : Addr} {v : Value} (h : W.cell? a = some v) : a.block < W.heap.size := by
  rcases Nat.lt_or_ge a.block W.heap.size with hl | hl
  · exact hl
  · exfalso
    have hn : W.heap[a.block]? = none := Array.getElem?_eq_none hl
    unfold World.cell? at h
    simp [hn] at h
/-- What a held region keeps of a node in a block. -/
abbrev NB (w : World) (b : Nat) (n : Nd) : Prop := w.heap[b]? = some (.cells (NC n) 55 (0, 0))
/-- A block with a node, in a world above another one. -/
abbrev NH (w0 w : World) (b : Nat) (n : Nd) : Prop :=
  w.cell? ⟨b, 0, none⟩ = some (E n.k) ∧ w.cell? ⟨b, 1, none⟩ = some (U (word n.s 0)) ∧ w.cell? ⟨b, 2, none⟩ = some (U (word n.s 1)) ∧ w.cell? ⟨b, 3, none⟩ = some (U (word n.s 2)) ∧ w.cell? ⟨b, 4, none⟩ = some (U (word n.s 3)) ∧
  w.cell? ⟨b, 5, none⟩ = some (E n.a) ∧ w.cell? ⟨b, 6, none⟩ = some (E n.b) ∧ w.cell? ⟨b, 7, none⟩ = some (E n.mn) ∧ w.cell? ⟨b, 8, none⟩ = some (E n.mx) ∧ w.cell? ⟨b, 9, none⟩ = some (E n.n) ∧ Below w0.heap.size w0 w
theorem NB.held {w0 w : World} {b : Nat} {n : Nd} (h : NB w b n) (hb : Below w0.heap.size w0 w) : NH w0 w b n := by
  refine ⟨?_, ?_, ?_, ?_, ?_, ?_, ?_, ?_, ?_, ?_, hb⟩ <;> simp [World.cell?, h]
theorem NH.below {w0 w w' : World} {b : Nat} {n : Nd} (h : NH w0 w b n) (hb : Below w.heap.size w w') : NH w0 w' b n := by
  obtain ⟨h0, h1, h2, h3, h4, h5, h6, h7, h8, h9, h⟩ := h
  exact ⟨(hb.cell (lt_cell h0)).trans h0, (hb.cell (lt_cell h1)).trans h1, (hb.cell (lt_cell h2)).trans h2, (hb.cell (lt_cell h3)).trans h3, (hb.cell (lt_cell h4)).trans h4, (hb.cell (lt_cell h5)).trans h5, (hb.cell (lt_cell h6)).trans h6, (hb.cell (lt_cell h7)).trans h7, (hb.cell (lt_cell h8)).trans h8, (hb.cell (lt_cell h9)).trans h9, h.trans (hb.mono h.size)⟩
theorem NH.drew {w0 w : World} {b : Nat} {n : Nd} (h : NH w0 w b n) : NH w0 w.drew b n := by
  obtain ⟨h0, h1, h2, h3, h4, h5, h6, h7, h8, h9, h⟩ := h
  exact ⟨h0, h1, h2, h3, h4, h5, h6, h7, h8, h9, h.drew⟩
theorem wf_plain {n : Nd} (h : Wf n.s) : Wf (plainN n).s := by
  unfold plainN
  split
  · exact h
  · repeat (split; exact wf_zero)
    exact wf_zero
theorem one_low (n : Nd) (w : World) (h : n.k < 0) : Calls Tryz.prog 77 #[NV n] w fun e w' => e = .returned (.bool false) ∧ Below w.heap.size w w' := by
  have h0B : decide (n.k < 0) = true := by simp; omega
  go_enter Tryz.func77, Tryz.ntmps77
  go_wp2
  go_region
  go_wp2
  go_ret
  exact ⟨rfl, ((Below.refl w.heap.size w).alloc (Nat.le_refl _) _).drew⟩
theorem one_high (n : Nd) (w : World) (h : 8 < n.k) : Calls Tryz.prog 77 #[NV n] w fun e w' => e = .returned (.bool false) ∧ Below w.heap.size w w' := by
  have h0B : decide (n.k < 0) = false := by simp; omega
  have h8B : decide (8 < n.k) = true := by simp; omega
  go_enter Tryz.func77, Tryz.ntmps77
  go_wp2
  go_region
  go_wp2
  go_ret
  exact ⟨rfl, ((Below.refl w.heap.size w).alloc (Nat.le_refl _) _).drew⟩
set_option maxRecDepth 100000 in
set_option maxHeartbeats 1600000 in
theorem one_ne (n : Nd) (w : World) (h0 : 0 ≤ n.k) (h8 : n.k ≤ 8) (hw : Wf n.s) (hne : n ≠ plainN n) : Calls Tryz.prog 77 #[NV n] w fun e w' => e = .returned (.bool false) ∧ Below w.heap.size w w' := by
  have CP := fun W => plain_any n W
  have HQ := fun W => run_eqN n (plainN n) hw (wf_plain hw) W
  have HB : ∀ W, (binOp .neq 55 (NV n) (NV (plainN n))).run Tryz.prog W = .ok (.bool true) W := fun W => by
    rw [run_neq_struct, HQ, decide_eq_false hne]; rfl
  have h0B : decide ((n).k < 0) = false := by simp; omega
  have h8B : decide (8 < (n).k) = false := by simp; omega
  have HG : ∀ x y W, (eqGuard .neq 55 x y (NV n) (NV (plainN n))).run Tryz.prog W = .ok () W := fun x y W => run_eqGuard_agg W _ _ _ _ _ _ (by kernel_rfl)
  generalize NV (plainN n) = v at CP HB HG
  clear HQ
  go_enter Tryz.func77, Tryz.ntmps77
  go_wp2
  have HN0 : NB (w.alloc (Obj.cells (NC n) 55)) w.heap.size n := heap_alloc_new _ _
  have HA0 := (Below.refl w.heap.size w).alloc (Nat.le_refl _) (Obj.cells (NC n) 55)
  have HS0 := NB.held (w0 := w) HN0 HA0
  go_region_held3 (fun w' => NH w w' w.heap.size n)
    (first
      | exact HS0.drew
      | assumption
      | exact NH.below (by assumption) (by assumption))
    (first
      | (go_at_call 100; refine (CP _).mono ?_; rintro e w' ⟨rfl, hbl⟩))
  rename_i hH
  have hH2 := Lib.hid hH
  obtain ⟨q0, q1, q2, q3, q4, q5, q6, q7, q8, q9, _⟩ := hH
  clear HS0 HA0 HN0
  go_wp2
  go_ret
  exact ⟨rfl, hH2.out.2.2.2.2.2.2.2.2.2.2⟩
set_option maxRecDepth 100000 in
set_option maxHeartbeats 1600000 in
theorem one_0  (w : World)  : Calls Tryz.prog 77 #[NV ⟨0, z4, 0, 0, 0, 0, 0⟩] w fun e w' => e = .returned (.bool (decide (OneN ⟨0, z4, 0, 0, 0, 0, 0⟩))) ∧ Below w.heap.size w w' := by
  have CP := fun W => plain_any ⟨0, z4, 0, 0, 0, 0, 0⟩ W
  have hpl : plainN ⟨0, z4, 0, 0, 0, 0, 0⟩ = ⟨0, z4, 0, 0, 0, 0, 0⟩ := rfl
  have HQ := fun W => run_eqN ⟨0, z4, 0, 0, 0, 0, 0⟩ (plainN ⟨0, z4, 0, 0, 0, 0, 0⟩) (by first | exact wf_zero | assumption) (by first | exact wf_zero | assumption) W
  have HB : ∀ W, (binOp .neq 55 (NV ⟨0, z4, 0, 0, 0, 0, 0⟩) (NV (plainN ⟨0, z4, 0, 0, 0, 0, 0⟩))).run Tryz.prog W = .ok (.bool false) W := fun W => by
    rw [run_neq_struct, HQ, hpl, decide_eq_true rfl]; rfl
  clear hpl
  have HG : ∀ x y W, (eqGuard .neq 55 x y (NV ⟨0, z4, 0, 0, 0, 0, 0⟩) (NV (plainN ⟨0, z4, 0, 0, 0, 0, 0⟩))).run Tryz.prog W = .ok () W := fun x y W => run_eqGuard_agg W _ _ _ _ _ _ (by kernel_rfl)
  generalize NV (plainN ⟨0, z4, 0, 0, 0, 0, 0⟩) = v at CP HB HG
  clear HQ
  go_enter Tryz.func77, Tryz.ntmps77
  go_wp2
  have HN0 : NB (w.alloc (Obj.cells (NC ⟨0, z4, 0, 0, 0, 0, 0⟩) 55)) w.heap.size ⟨0, z4, 0, 0, 0, 0, 0⟩ := heap_alloc_new _ _
  have HA0 := (Below.refl w.heap.size w).alloc (Nat.le_refl _) (Obj.cells (NC ⟨0, z4, 0, 0, 0, 0, 0⟩) 55)
  have HS0 := NB.held (w0 := w) HN0 HA0
  go_region_held3 (fun w' => NH w w' w.heap.size ⟨0, z4, 0, 0, 0, 0, 0⟩)
    (first
      | exact HS0.drew
      | assumption
      | exact NH.below (by assumption) (by assumption))
    (first
      | (go_at_call 100; refine (CP _).mono ?_; rintro e w' ⟨rfl, hbl⟩))
  rename_i hH
  have hH2 := Lib.hid hH
  obtain ⟨q0, q1, q2, q3, q4, q5, q6, q7, q8, q9, _⟩ := hH
  clear HS0 HA0 HN0
  go_wp2
  all_goals go_ret
  all_goals refine ⟨ret1 (congrArg Value.bool ?_), hH2.out.2.2.2.2.2.2.2.2.2.2⟩
  all_goals first
    | (rw [decide_eq_decide]; unfold OneN; simp; done)
    | (rw [decide_eq_decide]; unfold OneN; simp; omega)
    | (symm; rw [decide_eq_false_iff_not]; unfold OneN; simp; done)
    | (symm; rw [decide_eq_false_iff_not]; unfold OneN; simp; omega)
    | (symm; rw [decide_eq_true_iff]; unfold OneN; simp; done)
    | (symm; rw [decide_eq_true_iff]; unfold OneN; simp; omega)
    | (rw [Bool.eq_iff_iff]; unfold OneN; simp; omega)
set_option maxRecDepth 100000 in
set_option maxHeartbeats 1600000 in
theorem one_2  (w : World)  : Calls Tryz.prog 77 #[NV ⟨2, z4, 0, 0, 0, 0, 0⟩] w fun e w' => e = .returned (.bool (decide (OneN ⟨2, z4, 0, 0, 0, 0, 0⟩))) ∧ Below w.heap.size w w' := by
  have CP := fun W => plain_any ⟨2, z4, 0, 0, 0, 0, 0⟩ W
  have hpl : plainN ⟨2, z4, 0, 0, 0, 0, 0⟩ = ⟨2, z4, 0, 0, 0, 0, 0⟩ := rfl
  have HQ := fun W => run_eqN ⟨2, z4, 0, 0, 0, 0, 0⟩ (plainN ⟨2, z4, 0, 0, 0, 0, 0⟩) (by first | exact wf_zero | assumption) (by first | exact wf_zero | assumption) W
  have HB : ∀ W, (binOp .neq 55 (NV ⟨2, z4, 0, 0, 0, 0, 0⟩) (NV (plainN ⟨2, z4, 0, 0, 0, 0, 0⟩))).run Tryz.prog W = .ok (.bool false) W := fun W => by
    rw [run_neq_struct, HQ, hpl, decide_eq_true rfl]; rfl
  clear hpl
  have HG : ∀ x y W, (eqGuard .neq 55 x y (NV ⟨2, z4, 0, 0, 0, 0, 0⟩) (NV (plainN ⟨2, z4, 0, 0, 0, 0, 0⟩))).run Tryz.prog W = .ok () W := fun x y W => run_eqGuard_agg W _ _ _ _ _ _ (by kernel_rfl)
  generalize NV (plainN ⟨2, z4, 0, 0, 0, 0, 0⟩) = v at CP HB HG
  clear HQ
  go_enter Tryz.func77, Tryz.ntmps77
  go_wp2
  have HN0 : NB (w.alloc (Obj.cells (NC ⟨2, z4, 0, 0, 0, 0, 0⟩) 55)) w.heap.size ⟨2, z4, 0, 0, 0, 0, 0⟩ := heap_alloc_new _ _
  have HA0 := (Below.refl w.heap.size w).alloc (Nat.le_refl _) (Obj.cells (NC ⟨2, z4, 0, 0, 0, 0, 0⟩) 55)
  have HS0 := NB.held (w0 := w) HN0 HA0
  go_region_held3 (fun w' => NH w w' w.heap.size ⟨2, z4, 0, 0, 0, 0, 0⟩)
    (first
      | exact HS0.drew
      | assumption
      | exact NH.below (by assumption) (by assumption))
    (first
      | (go_at_call 100; refine (CP _).mono ?_; rintro e w' ⟨rfl, hbl⟩))
  rename_i hH
  have hH2 := Lib.hid hH
  obtain ⟨q0, q1, q2, q3, q4, q5, q6, q7, q8, q9, _⟩ := hH
  clear HS0 HA0 HN0
  go_wp2
  all_goals go_ret
  all_goals refine ⟨ret1 (congrArg Value.bool ?_), hH2.out.2.2.2.2.2.2.2.2.2.2⟩
  all_goals first
    | (rw [decide_eq_decide]; unfold OneN; simp; done)
    | (rw [decide_eq_decide]; unfold OneN; simp; omega)
    | (symm; rw [decide_eq_false_iff_not]; unfold OneN; simp; done)
    | (symm; rw [decide_eq_false_iff_not]; unfold OneN; simp; omega)
    | (symm; rw [decide_eq_true_iff]; unfold OneN; simp; done)
    | (symm; rw [decide_eq_true_iff]; unfold OneN; simp; omega)
    | (rw [Bool.eq_iff_iff]; unfold OneN; simp; omega)
set_option maxRecDepth 100000 in
set_option maxHeartbeats 1600000 in
theorem one_3  (w : World)  : Calls Tryz.prog 77 #[NV ⟨3, z4, 0, 0, 0, 0, 0⟩] w fun e w' => e = .returned (.bool (decide (OneN ⟨3, z4, 0, 0, 0, 0, 0⟩))) ∧ Below w.heap.size w w' := by
  have CP := fun W => plain_any ⟨3, z4, 0, 0, 0, 0, 0⟩ W
  have hpl : plainN ⟨3, z4, 0, 0, 0, 0, 0⟩ = ⟨3, z4, 0, 0, 0, 0, 0⟩ := rfl
  have HQ := fun W => run_eqN ⟨3, z4, 0, 0, 0, 0, 0⟩ (plainN ⟨3, z4, 0, 0, 0, 0, 0⟩) (by first | exact wf_zero | assumption) (by first | exact wf_zero | assumption) W
  have HB : ∀ W, (binOp .neq 55 (NV ⟨3, z4, 0, 0, 0, 0, 0⟩) (NV (plainN ⟨3, z4, 0, 0, 0, 0, 0⟩))).run Tryz.prog W = .ok (.bool false) W := fun W => by
    rw [run_neq_struct, HQ, hpl, decide_eq_true rfl]; rfl
  clear hpl
  have HG : ∀ x y W, (eqGuard .neq 55 x y (NV ⟨3, z4, 0, 0, 0, 0, 0⟩) (NV (plainN ⟨3, z4, 0, 0, 0, 0, 0⟩))).run Tryz.prog W = .ok () W := fun x y W => run_eqGuard_agg W _ _ _ _ _ _ (by kernel_rfl)
  generalize NV (plainN ⟨3, z4, 0, 0, 0, 0, 0⟩) = v at CP HB HG
  clear HQ
  go_enter Tryz.func77, Tryz.ntmps77
  go_wp2
  have HN0 : NB (w.alloc (Obj.cells (NC ⟨3, z4, 0, 0, 0, 0, 0⟩) 55)) w.heap.size ⟨3, z4, 0, 0, 0, 0, 0⟩ := heap_alloc_new _ _
  have HA0 := (Below.refl w.heap.size w).alloc (Nat.le_refl _) (Obj.cells (NC ⟨3, z4, 0, 0, 0, 0, 0⟩) 55)
  have HS0 := NB.held (w0 := w) HN0 HA0
  go_region_held3 (fun w' => NH w w' w.heap.size ⟨3, z4, 0, 0, 0, 0, 0⟩)
    (first
      | exact HS0.drew
      | assumption
      | exact NH.below (by assumption) (by assumption))
    (first
      | (go_at_call 100; refine (CP _).mono ?_; rintro e w' ⟨rfl, hbl⟩))
  rename_i hH
  have hH2 := Lib.hid hH
  obtain ⟨q0, q1, q2, q3, q4, q5, q6, q7, q8, q9, _⟩ := hH
  clear HS0 HA0 HN0
  go_wp2
  all_goals go_ret
  all_goals refine ⟨ret1 (congrArg Value.bool ?_), hH2.out.2.2.2.2.2.2.2.2.2.2⟩
  all_goals first
    | (rw [decide_eq_decide]; unfold OneN; simp; done)
    | (rw [decide_eq_decide]; unfold OneN; simp; omega)
    | (symm; rw [decide_eq_false_iff_not]; unfold OneN; simp; done)
    | (symm; rw [decide_eq_false_iff_not]; unfold OneN; simp; omega)
    | (symm; rw [decide_eq_true_iff]; unfold OneN; simp; done)
    | (symm; rw [decide_eq_true_iff]; unfold OneN; simp; omega)
    | (rw [Bool.eq_iff_iff]; unfold OneN; simp; omega)
set_option maxRecDepth 100000 in
set_option maxHeartbeats 1600000 in
theorem one_4 (a b : Int) (w : World)  : Calls Tryz.prog 77 #[NV ⟨4, z4, a, b, 0, 0, 0⟩] w fun e w' => e = .returned (.bool (decide (OneN ⟨4, z4, a, b, 0, 0, 0⟩))) ∧ Below w.heap.size w w' := by
  have CP := fun W => plain_any ⟨4, z4, a, b, 0, 0, 0⟩ W
  have hpl : plainN ⟨4, z4, a, b, 0, 0, 0⟩ = ⟨4, z4, a, b, 0, 0, 0⟩ := rfl
  have HQ := fun W => run_eqN ⟨4, z4, a, b, 0, 0, 0⟩ (plainN ⟨4, z4, a, b, 0, 0, 0⟩) (by first | exact wf_zero | assumption) (by first | exact wf_zero | assumption) W
  have HB : ∀ W, (binOp .neq 55 (NV ⟨4, z4, a, b, 0, 0, 0⟩) (NV (plainN ⟨4, z4, a, b, 0, 0, 0⟩))).run Tryz.prog W = .ok (.bool false) W := fun W => by
    rw [run_neq_struct, HQ, hpl, decide_eq_true rfl]; rfl
  clear hpl
  have HG : ∀ x y W, (eqGuard .neq 55 x y (NV ⟨4, z4, a, b, 0, 0, 0⟩) (NV (plainN ⟨4, z4, a, b, 0, 0, 0⟩))).run Tryz.prog W = .ok () W := fun x y W => run_eqGuard_agg W _ _ _ _ _ _ (by kernel_rfl)
  generalize NV (plainN ⟨4, z4, a, b, 0, 0, 0⟩) = v at CP HB HG
  clear HQ
  go_enter Tryz.func77, Tryz.ntmps77
  go_wp2
  have HN0 : NB (w.alloc (Obj.cells (NC ⟨4, z4, a, b, 0, 0, 0⟩) 55)) w.heap.size ⟨4, z4, a, b, 0, 0, 0⟩ := heap_alloc_new _ _
  have HA0 := (Below.refl w.heap.size w).alloc (Nat.le_refl _) (Obj.cells (NC ⟨4, z4, a, b, 0, 0, 0⟩) 55)
  have HS0 := NB.held (w0 := w) HN0 HA0
  go_region_held3 (fun w' => NH w w' w.heap.size ⟨4, z4, a, b, 0, 0, 0⟩)
    (first
      | exact HS0.drew
      | assumption
      | exact NH.below (by assumption) (by assumption))
    (first
      | (go_at_call 100; refine (CP _).mono ?_; rintro e w' ⟨rfl, hbl⟩))
  rename_i hH
  have hH2 := Lib.hid hH
  obtain ⟨q0, q1, q2, q3, q4, q5, q6, q7, q8, q9, _⟩ := hH
  clear HS0 HA0 HN0
  go_wp2
  all_goals go_ret
  all_goals refine ⟨ret1 (congrArg Value.bool ?_), hH2.out.2.2.2.2.2.2.2.2.2.2⟩
  all_goals first
    | (rw [decide_eq_decide]; unfold OneN; simp; done)
    | (rw [decide_eq_decide]; unfold OneN; simp; omega)
    | (symm; rw [decide_eq_false_iff_not]; unfold OneN; simp; done)
    | (symm; rw [decide_eq_false_iff_not]; unfold OneN; simp; omega)
    | (symm; rw [decide_eq_true_iff]; unfold OneN; simp; done)
    | (symm; rw [decide_eq_true_iff]; unfold OneN; simp; omega)
    | (rw [Bool.eq_iff_iff]; unfold OneN; simp; omega)
set_option maxRecDepth 100000 in
set_option maxHeartbeats 1600000 in
theorem one_5 (a b : Int) (w : World)  : Calls Tryz.prog 77 #[NV ⟨5, z4, a, b, 0, 0, 0⟩] w fun e w' => e = .returned (.bool (decide (OneN ⟨5, z4, a, b, 0, 0, 0⟩))) ∧ Below w.heap.size w w' := by
  have CP := fun W => plain_any ⟨5, z4, a, b, 0, 0, 0⟩ W
  have hpl : plainN ⟨5, z4, a, b, 0, 0, 0⟩ = ⟨5, z4, a, b, 0, 0, 0⟩ := rfl
  have HQ := fun W => run_eqN ⟨5, z4, a, b, 0, 0, 0⟩ (plainN ⟨5, z4, a, b, 0, 0, 0⟩) (by first | exact wf_zero | assumption) (by first | exact wf_zero | assumption) W
  have HB : ∀ W, (binOp .neq 55 (NV ⟨5, z4, a, b, 0, 0, 0⟩) (NV (plainN ⟨5, z4, a, b, 0, 0, 0⟩))).run Tryz.prog W = .ok (.bool false) W := fun W => by
    rw [run_neq_struct, HQ, hpl, decide_eq_true rfl]; rfl
  clear hpl
  have HG : ∀ x y W, (eqGuard .neq 55 x y (NV ⟨5, z4, a, b, 0, 0, 0⟩) (NV (plainN ⟨5, z4, a, b, 0, 0, 0⟩))).run Tryz.prog W = .ok () W := fun x y W => run_eqGuard_agg W _ _ _ _ _ _ (by kernel_rfl)
  generalize NV (plainN ⟨5, z4, a, b, 0, 0, 0⟩) = v at CP HB HG
  clear HQ
  go_enter Tryz.func77, Tryz.ntmps77
  go_wp2
  have HN0 : NB (w.alloc (Obj.cells (NC ⟨5, z4, a, b, 0, 0, 0⟩) 55)) w.heap.size ⟨5, z4, a, b, 0, 0, 0⟩ := heap_alloc_new _ _
  have HA0 := (Below.refl w.heap.size w).alloc (Nat.le_refl _) (Obj.cells (NC ⟨5, z4, a, b, 0, 0, 0⟩) 55)
  have HS0 := NB.held (w0 := w) HN0 HA0
  go_region_held3 (fun w' => NH w w' w.heap.size ⟨5, z4, a, b, 0, 0, 0⟩)
    (first
      | exact HS0.drew
      | assumption
      | exact NH.below (by assumption) (by assumption))
    (first
      | (go_at_call 100; refine (CP _).mono ?_; rintro e w' ⟨rfl, hbl⟩))
  rename_i hH
  have hH2 := Lib.hid hH
  obtain ⟨q0, q1, q2, q3, q4, q5, q6, q7, q8, q9, _⟩ := hH
  clear HS0 HA0 HN0
  go_wp2
  all_goals go_ret
  all_goals refine ⟨ret1 (congrArg Value.bool ?_), hH2.out.2.2.2.2.2.2.2.2.2.2⟩
  all_goals first
    | (rw [decide_eq_decide]; unfold OneN; simp; done)
    | (rw [decide_eq_decide]; unfold OneN; simp; omega)
    | (symm; rw [decide_eq_false_iff_not]; unfold OneN; simp; done)
    | (symm; rw [decide_eq_false_iff_not]; unfold OneN; simp; omega)
    | (symm; rw [decide_eq_true_iff]; unfold OneN; simp; done)
    | (symm; rw [decide_eq_true_iff]; unfold OneN; simp; omega)
    | (rw [Bool.eq_iff_iff]; unfold OneN; simp; omega)
set_option maxRecDepth 100000 in
set_option maxHeartbeats 1600000 in
theorem one_6 (a mn mx : Int) (w : World)  : Calls Tryz.prog 77 #[NV ⟨6, z4, a, 0, mn, mx, 0⟩] w fun e w' => e = .returned (.bool (decide (OneN ⟨6, z4, a, 0, mn, mx, 0⟩))) ∧ Below w.heap.size w w' := by
  have CP := fun W => plain_any ⟨6, z4, a, 0, mn, mx, 0⟩ W
  have hpl : plainN ⟨6, z4, a, 0, mn, mx, 0⟩ = ⟨6, z4, a, 0, mn, mx, 0⟩ := rfl
  have HQ := fun W => run_eqN ⟨6, z4, a, 0, mn, mx, 0⟩ (plainN ⟨6, z4, a, 0, mn, mx, 0⟩) (by first | exact wf_zero | assumption) (by first | exact wf_zero | assumption) W
  have HB : ∀ W, (binOp .neq 55 (NV ⟨6, z4, a, 0, mn, mx, 0⟩) (NV (plainN ⟨6, z4, a, 0, mn, mx, 0⟩))).run Tryz.prog W = .ok (.bool false) W := fun W => by
    rw [run_neq_struct, HQ, hpl, decide_eq_true rfl]; rfl
  clear hpl
  have HG : ∀ x y W, (eqGuard .neq 55 x y (NV ⟨6, z4, a, 0, mn, mx, 0⟩) (NV (plainN ⟨6, z4, a, 0, mn, mx, 0⟩))).run Tryz.prog W = .ok () W := fun x y W => run_eqGuard_agg W _ _ _ _ _ _ (by kernel_rfl)
  generalize NV (plainN ⟨6, z4, a, 0, mn, mx, 0⟩) = v at CP HB HG
  clear HQ
  go_enter Tryz.func77, Tryz.ntmps77
  go_wp2
  have HN0 : NB (w.alloc (Obj.cells (NC ⟨6, z4, a, 0, mn, mx, 0⟩) 55)) w.heap.size ⟨6, z4, a, 0, mn, mx, 0⟩ := heap_alloc_new _ _
  have HA0 := (Below.refl w.heap.size w).alloc (Nat.le_refl _) (Obj.cells (NC ⟨6, z4, a, 0, mn, mx, 0⟩) 55)
  have HS0 := NB.held (w0 := w) HN0 HA0
  go_region_held3 (fun w' => NH w w' w.heap.size ⟨6, z4, a, 0, mn, mx, 0⟩)
    (first
      | exact HS0.drew
      | assumption
      | exact NH.below (by assumption) (by assumption))
    (first
      | (go_at_call 100; refine (CP _).mono ?_; rintro e w' ⟨rfl, hbl⟩))
  rename_i hH
  have hH2 := Lib.hid hH
  obtain ⟨q0, q1, q2, q3, q4, q5, q6, q7, q8, q9, _⟩ := hH
  clear HS0 HA0 HN0
  go_wp2
  all_goals go_ret
  all_goals refine ⟨ret1 (congrArg Value.bool ?_), hH2.out.2.2.2.2.2.2.2.2.2.2⟩
  all_goals first
    | (rw [decide_eq_decide]; unfold OneN; simp; done)
    | (rw [decide_eq_decide]; unfold OneN; simp; omega)
    | (symm; rw [decide_eq_false_iff_not]; unfold OneN; simp; done)
    | (symm; rw [decide_eq_false_iff_not]; unfold OneN; simp; omega)
    | (symm; rw [decide_eq_true_iff]; unfold OneN; simp; done)
    | (symm; rw [decide_eq_true_iff]; unfold OneN; simp; omega)
    | (rw [Bool.eq_iff_iff]; unfold OneN; simp; omega)
set_option maxRecDepth 100000 in
set_option maxHeartbeats 1600000 in
theorem one_7 (a m : Int) (w : World)  : Calls Tryz.prog 77 #[NV ⟨7, z4, a, 0, 0, 0, m⟩] w fun e w' => e = .returned (.bool (decide (OneN ⟨7, z4, a, 0, 0, 0, m⟩))) ∧ Below w.heap.size w w' := by
  have CP := fun W => plain_any ⟨7, z4, a, 0, 0, 0, m⟩ W
  have hpl : plainN ⟨7, z4, a, 0, 0, 0, m⟩ = ⟨7, z4, a, 0, 0, 0, m⟩ := rfl
  have HQ := fun W => run_eqN ⟨7, z4, a, 0, 0, 0, m⟩ (plainN ⟨7, z4, a, 0, 0, 0, m⟩) (by first | exact wf_zero | assumption) (by first | exact wf_zero | assumption) W
  have HB : ∀ W, (binOp .neq 55 (NV ⟨7, z4, a, 0, 0, 0, m⟩) (NV (plainN ⟨7, z4, a, 0, 0, 0, m⟩))).run Tryz.prog W = .ok (.bool false) W := fun W => by
    rw [run_neq_struct, HQ, hpl, decide_eq_true rfl]; rfl
  clear hpl
  have HG : ∀ x y W, (eqGuard .neq 55 x y (NV ⟨7, z4, a, 0, 0, 0, m⟩) (NV (plainN ⟨7, z4, a, 0, 0, 0, m⟩))).run Tryz.prog W = .ok () W := fun x y W => run_eqGuard_agg W _ _ _ _ _ _ (by kernel_rfl)
  generalize NV (plainN ⟨7, z4, a, 0, 0, 0, m⟩) = v at CP HB HG
  clear HQ
  go_enter Tryz.func77, Tryz.ntmps77
  go_wp2
  have HN0 : NB (w.alloc (Obj.cells (NC ⟨7, z4, a, 0, 0, 0, m⟩) 55)) w.heap.size ⟨7, z4, a, 0, 0, 0, m⟩ := heap_alloc_new _ _
  have HA0 := (Below.refl w.heap.size w).alloc (Nat.le_refl _) (Obj.cells (NC ⟨7, z4, a, 0, 0, 0, m⟩) 55)
  have HS0 := NB.held (w0 := w) HN0 HA0
  go_region_held3 (fun w' => NH w w' w.heap.size ⟨7, z4, a, 0, 0, 0, m⟩)
    (first
      | exact HS0.drew
      | assumption
      | exact NH.below (by assumption) (by assumption))
    (first
      | (go_at_call 100; refine (CP _).mono ?_; rintro e w' ⟨rfl, hbl⟩))
  rename_i hH
  have hH2 := Lib.hid hH
  obtain ⟨q0, q1, q2, q3, q4, q5, q6, q7, q8, q9, _⟩ := hH
  clear HS0 HA0 HN0
  go_wp2
  all_goals go_ret
  all_goals refine ⟨ret1 (congrArg Value.bool ?_), hH2.out.2.2.2.2.2.2.2.2.2.2⟩
  all_goals first
    | (rw [decide_eq_decide]; unfold OneN; simp; done)
    | (rw [decide_eq_decide]; unfold OneN; simp; omega)
    | (symm; rw [decide_eq_false_iff_not]; unfold OneN; simp; done)
    | (symm; rw [decide_eq_false_iff_not]; unfold OneN; simp; omega)
    | (symm; rw [decide_eq_true_iff]; unfold OneN; simp; done)
    | (symm; rw [decide_eq_true_iff]; unfold OneN; simp; omega)
    | (rw [Bool.eq_iff_iff]; unfold OneN; simp; omega)
set_option maxRecDepth 100000 in
set_option maxHeartbeats 1600000 in
theorem one_8 (m : Int) (w : World)  : Calls Tryz.prog 77 #[NV ⟨8, z4, 0, 0, 0, 0, m⟩] w fun e w' => e = .returned (.bool (decide (OneN ⟨8, z4, 0, 0, 0, 0, m⟩))) ∧ Below w.heap.size w w' := by
  have CP := fun W => plain_any ⟨8, z4, 0, 0, 0, 0, m⟩ W
  have hpl : plainN ⟨8, z4, 0, 0, 0, 0, m⟩ = ⟨8, z4, 0, 0, 0, 0, m⟩ := rfl
  have HQ := fun W => run_eqN ⟨8, z4, 0, 0, 0, 0, m⟩ (plainN ⟨8, z4, 0, 0, 0, 0, m⟩) (by first | exact wf_zero | assumption) (by first | exact wf_zero | assumption) W
  have HB : ∀ W, (binOp .neq 55 (NV ⟨8, z4, 0, 0, 0, 0, m⟩) (NV (plainN ⟨8, z4, 0, 0, 0, 0, m⟩))).run Tryz.prog W = .ok (.bool false) W := fun W => by
    rw [run_neq_struct, HQ, hpl, decide_eq_true rfl]; rfl
  clear hpl
  have HG : ∀ x y W, (eqGuard .neq 55 x y (NV ⟨8, z4, 0, 0, 0, 0, m⟩) (NV (plainN ⟨8, z4, 0, 0, 0, 0, m⟩))).run Tryz.prog W = .ok () W := fun x y W => run_eqGuard_agg W _ _ _ _ _ _ (by kernel_rfl)
  generalize NV (plainN ⟨8, z4, 0, 0, 0, 0, m⟩) = v at CP HB HG
  clear HQ
  go_enter Tryz.func77, Tryz.ntmps77
  go_wp2
  have HN0 : NB (w.alloc (Obj.cells (NC ⟨8, z4, 0, 0, 0, 0, m⟩) 55)) w.heap.size ⟨8, z4, 0, 0, 0, 0, m⟩ := heap_alloc_new _ _
  have HA0 := (Below.refl w.heap.size w).alloc (Nat.le_refl _) (Obj.cells (NC ⟨8, z4, 0, 0, 0, 0, m⟩) 55)
  have HS0 := NB.held (w0 := w) HN0 HA0
  go_region_held3 (fun w' => NH w w' w.heap.size ⟨8, z4, 0, 0, 0, 0, m⟩)
    (first
      | exact HS0.drew
      | assumption
      | exact NH.below (by assumption) (by assumption))
    (first
      | (go_at_call 100; refine (CP _).mono ?_; rintro e w' ⟨rfl, hbl⟩))
  rename_i hH
  have hH2 := Lib.hid hH
  obtain ⟨q0, q1, q2, q3, q4, q5, q6, q7, q8, q9, _⟩ := hH
  clear HS0 HA0 HN0
  go_wp2
  all_goals go_ret
  all_goals refine ⟨ret1 (congrArg Value.bool ?_), hH2.out.2.2.2.2.2.2.2.2.2.2⟩
  all_goals first
    | (rw [decide_eq_decide]; unfold OneN; simp; done)
    | (rw [decide_eq_decide]; unfold OneN; simp; omega)
    | (symm; rw [decide_eq_false_iff_not]; unfold OneN; simp; done)
    | (symm; rw [decide_eq_false_iff_not]; unfold OneN; simp; omega)
    | (symm; rw [decide_eq_true_iff]; unfold OneN; simp; done)
    | (symm; rw [decide_eq_true_iff]; unfold OneN; simp; omega)
    | (rw [Bool.eq_iff_iff]; unfold OneN; simp; omega)
set_option maxRecDepth 100000 in
set_option maxHeartbeats 1600000 in
theorem one_1 (s : List Nat) (w : World) (hs : Wf s) : Calls Tryz.prog 77 #[NV ⟨1, s, 0, 0, 0, 0, 0⟩] w fun e w' => e = .returned (.bool (decide (OneN ⟨1, s, 0, 0, 0, 0, 0⟩))) ∧ Below w.heap.size w w' := by
  have CP := fun W => plain_any ⟨1, s, 0, 0, 0, 0, 0⟩ W
  have hpl : plainN ⟨1, s, 0, 0, 0, 0, 0⟩ = ⟨1, s, 0, 0, 0, 0, 0⟩ := rfl
  have HQ := fun W => run_eqN ⟨1, s, 0, 0, 0, 0, 0⟩ (plainN ⟨1, s, 0, 0, 0, 0, 0⟩) (by first | exact wf_zero | assumption) (by first | exact wf_zero | assumption) W
  have HB : ∀ W, (binOp .neq 55 (NV ⟨1, s, 0, 0, 0, 0, 0⟩) (NV (plainN ⟨1, s, 0, 0, 0, 0, 0⟩))).run Tryz.prog W = .ok (.bool false) W := fun W => by
    rw [run_neq_struct, HQ, hpl, decide_eq_true rfl]; rfl
  clear hpl
  have HG : ∀ x y W, (eqGuard .neq 55 x y (NV ⟨1, s, 0, 0, 0, 0, 0⟩) (NV (plainN ⟨1, s, 0, 0, 0, 0, 0⟩))).run Tryz.prog W = .ok () W := fun x y W => run_eqGuard_agg W _ _ _ _ _ _ (by kernel_rfl)
  generalize NV (plainN ⟨1, s, 0, 0, 0, 0, 0⟩) = v at CP HB HG
  clear HQ
  go_enter Tryz.func77, Tryz.ntmps77
  go_wp2
  have HN0 : NB (w.alloc (Obj.cells (NC ⟨1, s, 0, 0, 0, 0, 0⟩) 55)) w.heap.size ⟨1, s, 0, 0, 0, 0, 0⟩ := heap_alloc_new _ _
  have HA0 := (Below.refl w.heap.size w).alloc (Nat.le_refl _) (Obj.cells (NC ⟨1, s, 0, 0, 0, 0, 0⟩) 55)
  have HS0 := NB.held (w0 := w) HN0 HA0
  go_region_held3 (fun w' => NH w w' w.heap.size ⟨1, s, 0, 0, 0, 0, 0⟩)
    (first
      | exact HS0.drew
      | assumption
      | exact NH.below (by assumption) (by assumption))
    (first
      | (go_at_call 100; refine (CP _).mono ?_; rintro e w' ⟨rfl, hbl⟩))
  rename_i hH
  have hH2 := Lib.hid hH
  obtain ⟨q0, q1, q2, q3, q4, q5, q6, q7, q8, q9, _⟩ := hH
  clear HS0 HA0 HN0
  have HO := Lib.hid (show decide (OneN ⟨1, s, 0, 0, 0, 0, 0⟩) = !decide (s = z4) from by
    by_cases h : s = z4
    · subst h; rw [decide_eq_true rfl]; show decide _ = false; rw [decide_eq_false_iff_not]; unfold OneN; simp
    · rw [decide_eq_false h]; show decide _ = true; rw [decide_eq_true_iff]; unfold OneN; simp [h])
  have H4 : ∀ W, (Op.equalIn 10000 53 (.agg #[U (word s 0), U (word s 1), U (word s 2), U (word s 3)]) (.agg #[.int .u64 0, .int .u64 0, .int .u64 0, .int .u64 0])).run Tryz.prog W = .ok (decide (s = z4)) W := fun W => by
    have h := run_eq4g (word s 0) (word s 1) (word s 2) (word s 3) 0 0 0 0 9998 W
    rw [show (decide (word s 0 = 0 ∧ word s 1 = 0 ∧ word s 2 = 0 ∧ word s 3 = 0)) = decide (s = z4) from by
      rw [decide_eq_decide]; exact (word_eq hs wf_zero).symm] at h
    exact h
  generalize decide (s = z4) = b at H4 HO
  go_wp2
  go_ret
  exact ⟨by rw [HO.out]; exact ret1 rfl, hH2.out.2.2.2.2.2.2.2.2.2.2⟩
theorem one_fields {n : Nd} (h : plainN n = n) (h0 : 0 ≤ n.k) (h8 : n.k ≤ 8) :
    (∃ s, n = ⟨1, s, 0, 0, 0, 0, 0⟩) ∨ n = ⟨0, z4, 0, 0, 0, 0, 0⟩ ∨ n = ⟨2, z4, 0, 0, 0, 0, 0⟩ ∨ n = ⟨3, z4, 0, 0, 0, 0, 0⟩ ∨ (∃ a b, n = ⟨4, z4, a, b, 0, 0, 0⟩) ∨ (∃ a b, n = ⟨5, z4, a, b, 0, 0, 0⟩) ∨ (∃ a mn mx, n = ⟨6, z4, a, 0, mn, mx, 0⟩) ∨ (∃ a m, n = ⟨7, z4, a, 0, 0, 0, m⟩) ∨ (∃ m, n = ⟨8, z4, 0, 0, 0, 0, m⟩) := by
  obtain ⟨k, s, a, b, mn, mx, m⟩ := n
  dsimp only at h0 h8
  have hk : k = 0 ∨ k = 1 ∨ k = 2 ∨ k = 3 ∨ k = 4 ∨ k = 5 ∨ k = 6 ∨ k = 7 ∨ k = 8 := by omega
  rcases hk with rfl | rfl | rfl | rfl | rfl | rfl | rfl | rfl | rfl <;> (rw [← h]; unfold plainN; simp)
theorem one_plain {n : Nd} (h : OneN n) : plainN n = n := by
  obtain ⟨k, s, a, b, mn, mx, m⟩ := n
  unfold OneN at h
  dsimp only at h
  rcases h with ⟨hk, rfl, rfl, rfl, rfl, rfl, rfl⟩ | ⟨rfl, hs, rfl, rfl, rfl, rfl, rfl⟩ | ⟨hk, rfl, rfl, rfl, rfl⟩ | ⟨rfl, rfl, rfl, rfl, h6, h7, h8⟩ | ⟨rfl, rfl, rfl, rfl, rfl, h6, h7⟩ | ⟨rfl, rfl, rfl, rfl, rfl, rfl, h6, h7⟩
  · rcases hk with rfl | rfl | rfl <;> rfl
  · rfl
  · rcases hk with rfl | rfl <;> rfl
  · rfl
  · rfl
  · rfl
theorem one_kind {n : Nd} (h : OneN n) : 0 ≤ n.k ∧ n.k ≤ 8 := by
  unfold OneN at h; omega
theorem one_any (n : Nd) (w : World) (hw : Wf n.s) : Calls Tryz.prog 77 #[NV n] w fun e w' => e = .returned (.bool (decide (OneN n))) ∧ Below w.heap.size w w' := by
  by_cases hl : n.k < 0
  · rw [decide_eq_false (fun h => by have := one_kind h; omega)]; exact one_low n w hl
  by_cases hh : 8 < n.k
  · rw [decide_eq_false (fun h => by have := one_kind h; omega)]; exact one_high n w hh
  by_cases hp : n = plainN n
  · rcases one_fields hp.symm (by omega) (by omega) with ⟨s, rfl⟩ | rfl | rfl | rfl | ⟨a, b, rfl⟩ | ⟨a, b, rfl⟩ | ⟨a, mn, mx, rfl⟩ | ⟨a, m, rfl⟩ | ⟨m, rfl⟩
    · exact one_1 s w hw
    · exact one_0 w
    · exact one_2 w
    · exact one_3 w
    · exact one_4 a b w
    · exact one_5 a b w
    · exact one_6 a mn mx w
    · exact one_7 a m w
    · exact one_8 m w
  · rw [decide_eq_false (fun h => hp (one_plain h).symm)]
    exact one_ne n w (by omega) (by omega) hw hp
/-- A node's ten cells from an offset on. -/
abbrev NCell (w : World) (b o : Nat) (n : Nd) : Prop :=
  w.cell? ⟨b, o, none⟩ = some (E n.k) ∧ w.cell? ⟨b, o + 1, none⟩ = some (U (word n.s 0)) ∧ w.cell? ⟨b, o + 2, none⟩ = some (U (word n.s 1)) ∧ w.cell? ⟨b, o + 3, none⟩ = some (U (word n.s 2)) ∧ w.cell? ⟨b, o + 4, none⟩ = some (U (word n.s 3)) ∧
  w.cell? ⟨b, o + 5, none⟩ = some (E n.a) ∧ w.cell? ⟨b, o + 6, none⟩ = some (E n.b) ∧ w.cell? ⟨b, o + 7, none⟩ = some (E n.mn) ∧ w.cell? ⟨b, o + 8, none⟩ = some (E n.mx) ∧ w.cell? ⟨b, o + 9, none⟩ = some (E n.n)
theorem NCell.below {w w' : World} {b o : Nat} {n : Nd} (h : NCell w b o n) (hb : Below w.heap.size w w') : NCell w' b o n := by
  obtain ⟨h0, h1, h2, h3, h4, h5, h6, h7, h8, h9⟩ := h
  exact ⟨(hb.cell (lt_cell h0)).trans h0, (hb.cell (lt_cell h1)).trans h1, (hb.cell (lt_cell h2)).trans h2, (hb.cell (lt_cell h3)).trans h3, (hb.cell (lt_cell h4)).trans h4, (hb.cell (lt_cell h5)).trans h5, (hb.cell (lt_cell h6)).trans h6, (hb.cell (lt_cell h7)).trans h7, (hb.cell (lt_cell h8)).trans h8, (hb.cell (lt_cell h9)).trans h9⟩
/-- Nodes in memory. -/
def Ns (w : World) (v : Value) (l : List Nd) : Prop := ∃ (ao : Option Addr) (c : Nat), v = .slice ao l.length c ∧ ∀ (i : Nat) (h : i < l.length), ∃ b o, ao = some ⟨b, o, none⟩ ∧ NCell w b (o + i * 10) l[i]
theorem Ns.below {w w' : World} {v : Value} {l : List Nd} (h : Ns w v l) (hb : Below w.heap.size w w') : Ns w' v l := by
  obtain ⟨ao, c, rfl, hc⟩ := h
  refine ⟨ao, c, rfl, fun i hi => ?_⟩
  obtain ⟨b, o, ha, h⟩ := hc i hi
  exact ⟨b, o, ha, h.below hb⟩
theorem Ns.at {w : World} {ao : Option Addr} {n c : Nat} {l : List Nd} (h : Ns w (.slice ao n c) l) {i : Nat} (hi : i < l.length) : ∃ b o, ao = some ⟨b, o, none⟩ ∧ NCell w b (o + i * 10) l[i] := by
  obtain ⟨ao', c', e, hc⟩ := h
  simp only [Value.slice.injEq] at e
  obtain ⟨rfl, rfl, rfl⟩ := e
  exact hc i hi
theorem kind_at {l : List Nd} {j : Nat} (h : j < l.length) : kindAt l (j : Int) = l[j].k := by
  unfold kindAt; rw [Int.toNat_natCast, List.getElem?_eq_getElem h]; rfl
theorem fits_other (v : Value) (n : Nd) (w : World) (h4 : (n.k == 4) = false) (h5 : (n.k == 5) = false) (h6 : (n.k == 6) = false) :
    Calls Tryz.prog 78 #[v, NV n] w fun e w' => e = .returned (.bool true) ∧ Below w.heap.size w w' := by
  go_enter Tryz.func78, Tryz.ntmps78
  go_wp2
  go_ret
  exact ⟨rfl, (Below.refl w.heap.size w).alloc (Nat.le_refl _) _⟩
set_option maxRecDepth 100000 in
theorem fits_4 (b0 o L c : Nat) (s : List Nat) (j i : Nat) (mn mx m k1 k2 : Int) (w : World) (hj : (j : Int) < (L : Int)) (hi : (i : Int) < (L : Int)) (h1 : w.cell? ⟨b0, o + j * 10, none⟩ = some (E k1)) (h2 : w.cell? ⟨b0, o + i * 10, none⟩ = some (E k2)) :
    Calls Tryz.prog 78 #[.slice (some ⟨b0, o, none⟩) L c, NV ⟨4, s, (j : Nat), (i : Nat), mn, mx, m⟩] w fun e w' => e = .returned (.bool (decide (k1 ≠ 4 ∧ k1 ≠ 5 ∧ k2 ≠ 5))) ∧ Below w.heap.size w w' := by
  have hj0 : (0 : Int) ≤ (j : Int) := by omega
  have hi0 : (0 : Int) ≤ (i : Int) := by omega
  have h1' := ((Below.refl w.heap.size w).alloc (Nat.le_refl _) (Obj.cells (NC ⟨4, s, (j : Nat), (i : Nat), mn, mx, m⟩) 55)).cell (lt_cell h1) |>.trans h1
  have h2' := ((Below.refl w.heap.size w).alloc (Nat.le_refl _) (Obj.cells (NC ⟨4, s, (j : Nat), (i : Nat), mn, mx, m⟩) 55)).cell (lt_cell h2) |>.trans h2
  go_enter Tryz.func78, Tryz.ntmps78
  go_wp2
  all_goals go_ret
  all_goals refine ⟨ret1 (congrArg Value.bool ?_), (Below.refl w.heap.size w).alloc (Nat.le_refl _) _⟩
  all_goals (rw [Bool.eq_iff_iff]; simp; try omega)
set_option maxRecDepth 100000 in
theorem fits_5 (b0 o L c : Nat) (s : List Nat) (j : Nat) (b mn mx m k1 : Int) (w : World) (hj : (j : Int) < (L : Int)) (h1 : w.cell? ⟨b0, o + j * 10, none⟩ = some (E k1)) :
    Calls Tryz.prog 78 #[.slice (some ⟨b0, o, none⟩) L c, NV ⟨5, s, (j : Nat), b, mn, mx, m⟩] w fun e w' => e = .returned (.bool (decide (k1 ≠ 5))) ∧ Below w.heap.size w w' := by
  have hj0 : (0 : Int) ≤ (j : Int) := by omega
  have h1' := ((Below.refl w.heap.size w).alloc (Nat.le_refl _) (Obj.cells (NC ⟨5, s, (j : Nat), b, mn, mx, m⟩) 55)).cell (lt_cell h1) |>.trans h1
  go_enter Tryz.func78, Tryz.ntmps78
  go_wp2
  all_goals go_ret
  all_goals refine ⟨ret1 (congrArg Value.bool ?_), (Below.refl w.heap.size w).alloc (Nat.le_refl _) _⟩
  all_goals (rw [Bool.eq_iff_iff]; simp; try omega)
theorem cell_of {w : World} {b : Nat} {c : Array Value} {t : TypeId} {f : Nat × Nat} (h : w.heap[b]? = some (.cells c t f)) (i : Nat) : w.cell? ⟨b, i, none⟩ = c[i]? := by
  simp only [World.cell?, h]; rfl
theorem cells178 (w : World) (t : TypeId) (B : Nat) (hB : B = w.heap.size) : ∀ j, j < [(1 : Int), 7, 8].length → (w.alloc (Obj.cells #[E 1, E 7, E 8] t)).cell? ⟨B, 0 + j, none⟩ = some (.int .i64 ([(1 : Int), 7, 8].getD j 0)) := by
  subst hB
  intro j hj
  rw [cell_of (heap_alloc_new w (Obj.cells #[E 1, E 7, E 8] t))]
  match j, hj with
  | 0, _ => rfl
  | 1, _ => rfl
  | 2, _ => rfl
set_option maxRecDepth 100000 in
set_option maxHeartbeats 1600000 in
theorem fits_6 (b0 o L c : Nat) (s : List Nat) (j : Nat) (b mn mx m k1 : Int) (w : World) (hj : (j : Int) < (L : Int)) (h1 : w.cell? ⟨b0, o + j * 10, none⟩ = some (E k1)) :
    Calls Tryz.prog 78 #[.slice (some ⟨b0, o, none⟩) L c, NV ⟨6, s, (j : Nat), b, mn, mx, m⟩] w fun e w' => e = .returned (.bool (decide (k1 = 1 ∨ k1 = 7 ∨ k1 = 8))) ∧ Below w.heap.size w w' := by
  have hj0 : (0 : Int) ≤ (j : Int) := by omega
  have h1' := ((Below.refl w.heap.size w).alloc (Nat.le_refl _) (Obj.cells (NC ⟨6, s, (j : Nat), b, mn, mx, m⟩) 55)).cell (lt_cell h1) |>.trans h1
  have HC := Lib.hid (Tryz.slices_Contains_int (w.heap.size + 1) 0 3 3 [1, 7, 8] k1 ((w.alloc (Obj.cells (NC ⟨6, s, (j : Nat), b, mn, mx, m⟩) 55)).alloc (Obj.cells #[E 1, E 7, E 8] 3)) (by simp) (by simp) (cells178 _ _ _ (by simp)))
  have h1'' := ((((Below.refl w.heap.size w).alloc (Nat.le_refl _) (Obj.cells (NC ⟨6, s, (j : Nat), b, mn, mx, m⟩) 55)).alloc (by simp) (Obj.cells #[E 1, E 7, E 8] 3)).cell (lt_cell h1)).trans h1
  go_enter Tryz.func78, Tryz.ntmps78
  go_wp2_with (go_at_call 101; refine HC.out.mono ?_; rintro e w' ⟨rfl, rfl⟩)
  go_ret
  refine ⟨ret1 (congrArg Value.bool ?_), ((Below.refl w.heap.size w).alloc (Nat.le_refl _) _).alloc (by simp) _⟩
  rw [Bool.eq_iff_iff]; simp
theorem fits_any (ao : Option Addr) (c : Nat) (l : List Nd) (n : Nd) (w : World) (h : Ns w (.slice ao l.length c) l) (ha : n.k = 4 ∨ n.k = 5 ∨ n.k = 6 → ∃ j, j < l.length ∧ n.a = (j : Nat)) (hb : n.k = 4 → ∃ j, j < l.length ∧ n.b = (j : Nat)) :
    Calls Tryz.prog 78 #[.slice ao l.length c, NV n] w fun e w' => e = .returned (.bool (decide (Fits l n))) ∧ Below w.heap.size w w' := by
  obtain ⟨k, s, a, b, mn, mx, m⟩ := n
  dsimp only at ha hb
  by_cases h4 : k = 4
  · subst h4
    obtain ⟨j, hj, rfl⟩ := ha (Or.inl rfl)
    obtain ⟨i, hi, rfl⟩ := hb rfl
    obtain ⟨p, o, rfl, hp⟩ := h.at hj
    obtain ⟨q, o', e, hq⟩ := h.at hi
    simp only [Option.some.injEq, Addr.mk.injEq, and_true] at e
    obtain ⟨rfl, rfl⟩ := e
    rw [show decide (Fits l ⟨4, s, (j : Nat), (i : Nat), mn, mx, m⟩) = decide (l[j].k ≠ 4 ∧ l[j].k ≠ 5 ∧ l[i].k ≠ 5) from by
      rw [decide_eq_decide]; unfold Fits; rw [if_pos rfl, kind_at hj, kind_at hi]]
    exact fits_4 p o l.length c s j i mn mx m _ _ w (by omega) (by omega) hp.1 hq.1
  by_cases h5 : k = 5
  · subst h5
    obtain ⟨j, hj, rfl⟩ := ha (Or.inr (Or.inl rfl))
    obtain ⟨p, o, rfl, hp⟩ := h.at hj
    rw [show decide (Fits l ⟨5, s, (j : Nat), b, mn, mx, m⟩) = decide (l[j].k ≠ 5) from by
      rw [decide_eq_decide]; unfold Fits; dsimp only; rw [if_neg (by decide), if_pos rfl, kind_at hj]]
    exact fits_5 p o l.length c s j b mn mx m _ w (by omega) hp.1
  by_cases h6 : k = 6
  · subst h6
    obtain ⟨j, hj, rfl⟩ := ha (Or.inr (Or.inr rfl))
    obtain ⟨p, o, rfl, hp⟩ := h.at hj
    rw [show decide (Fits l ⟨6, s, (j : Nat), b, mn, mx, m⟩) = decide (l[j].k = 1 ∨ l[j].k = 7 ∨ l[j].k = 8) from by
      rw [decide_eq_decide]; unfold Fits; dsimp only; rw [if_neg (by decide), if_neg (by decide), if_pos rfl, kind_at hj]]
    exact fits_6 p o l.length c s j b mn mx m _ w (by omega) hp.1
  rw [decide_eq_true (show Fits l ⟨k, s, a, b, mn, mx, m⟩ from by unfold Fits; dsimp only; rw [if_neg h4, if_neg h5, if_neg h6]; trivial)]
  exact fits_other _ ⟨k, s, a, b, mn, mx, m⟩ w (by simpa using h4) (by simpa using h5) (by simpa using h6)
open Go.Proofs.YtlicoffnjphphaaGreatDoor.St (Wf word zeroW)
theorem infoNd : (Tryz.prog.info? 55).map (fun i => (i.zero, i.size, i.bytes)) = some (some (NV ⟨0, z4, 0, 0, 0, 0, 0⟩), 10, 80) := by kernel_rfl
/-- The cells of nodes, one behind another. -/
def flat (l : List Nd) : List Value := l.flatMap fun n => (NC n).toList
theorem flat_append (l m : List Nd) : flat (l ++ m) = flat l ++ flat m := by unfold flat; rw [List.flatMap_append]
theorem flat_one (n : Nd) : flat [n] = (NC n).toList := by simp [flat]
theorem flat_get : ∀ (l : List Nd) (i : Nat) (h : i < l.length) (r : Nat), r < 10 → (flat l)[i * 10 + r]? = (NC l[i])[r]?
  | n :: l, 0, _, r, hr => by
    unfold flat
    rw [List.flatMap_cons, List.getElem?_append_left (by simp; omega)]
    simp
  | n :: l, i + 1, h, r, hr => by
    have := flat_get l i (by simpa using h) r hr
    unfold flat at *
    rw [List.flatMap_cons, List.getElem?_append_right (by simp; omega)]
    rw [show (i + 1) * 10 + r - (NC n).toList.length = i * 10 + r by simp; omega, this]
    simp
theorem flat_cells : ∀ (l : List Nd), ∀ u ∈ flat l, u.oneCell' = true := by
  intro l u hu
  obtain ⟨n, _, h⟩ := List.mem_flatMap.1 hu
  simp only [List.mem_cons, List.not_mem_nil, or_false] at h
  rcases h with rfl | rfl | rfl | rfl | rfl | rfl | rfl | rfl | rfl | rfl <;> rfl
theorem ncell_flat {w : World} {b o : Nat} {l : List Nd} {i : Nat} (hi : i < l.length) (h : ∀ r, r < 10 → w.cell? ⟨b, o + i * 10 + r, none⟩ = (flat l)[i * 10 + r]?) : NCell w b (o + i * 10) l[i] := by
  have g : ∀ r, r < 10 → w.cell? ⟨b, o + i * 10 + r, none⟩ = (NC l[i])[r]? := fun r hr => (h r hr).trans (flat_get l i hi r hr)
  exact ⟨g 0 (by decide), g 1 (by decide), g 2 (by decide), g 3 (by decide), g 4 (by decide), g 5 (by decide), g 6 (by decide), g 7 (by decide), g 8 (by decide), g 9 (by decide)⟩
/-- What an own row holds. -/
theorem own_ns {w : World} {B : Nat} {v : Value} {l : List Nd} (h : w.ownsRow B 55 10 v l.length (flat l)) : Ns w v l := by
  rcases h.2 with ⟨rfl, h0⟩ | ⟨g, cap, cur, rfl, h1, h2, h3, h4, h5, h6⟩
  · refine ⟨none, 0, by rw [h0], fun i hi => ?_⟩
    omega
  · refine ⟨some ⟨g, 0, none⟩, cap, rfl, fun i hi => ⟨g, 0, rfl, ncell_flat hi fun r hr => ?_⟩⟩
    rw [Lib.cell_of_heap h2, ← h6, Nat.zero_add, List.getElem?_take_of_lt (by omega)]
    simp
end Go.Proofs.YtlicoffnjphphaaGreatDoor.Rx
namespace Go.Proofs.YtlicoffnjphphaaGreatDoor.St
open Go.RowKit
abbrev wc (ws : List Nat) : Array Value := (ws.map fun n : Nat => Value.int .u64 (n : Int)).toArray
abbrev SV (ws : List Nat) : Value := .agg (wc ws)
abbrev SB (w : World) (b : Nat) (ws : List Nat) : Prop := w.heap[b]? = some (.cells (wc ws) 53 (0, 0))
theorem SB.cell {w : World} {b : Nat} {ws : List Nat} (h : SB w b ws) (hw : Wf ws) {i : Nat} (hi : i < 4) : w.cell? ⟨b, i, none⟩ = some (.int .u64 (word ws i : Int)) := by
  rw [Lib.cell_of_heap h]; simp [word_get hw hi]
theorem heap_set_at {w : World} {b : Nat} {c : Array Value} {t : TypeId} {f : Nat × Nat} (h : w.heap[b]? = some (.cells c t f)) (i : Nat) (v : Value) : (w.setCell ⟨b, i, none⟩ v).heap[b]? = some (.cells (c.setIfInBounds i v) t f) := by
  simp only [World.setCell, Array.getElem?_modify, if_true, h]; rfl
theorem heap_set_other {w : World} {b b' : Nat} {o : Obj} (h : w.heap[b']? = some o) (hb : b ≠ b') (i : Nat) (v : Value) : (w.setCell ⟨b, i, none⟩ v).heap[b']? = some o := by
  simp only [World.setCell, Array.getElem?_modify, h]
  rw [if_neg hb]
theorem SB.set {w : World} {b : Nat} {ws : List Nat} (h : SB w b ws) (i v : Nat) : SB (w.setCell ⟨b, i, none⟩ (.int .u64 (v : Int))) b (ws.set i v) := by
  unfold SB
  rw [heap_set_at h]
  simp [wc, List.map_set]
theorem SV_eq {ws : List Nat} (h : Wf ws) : SV ws = .agg #[.int .u64 (word ws 0 : Int), .int .u64 (word ws 1 : Int), .int .u64 (word ws 2 : Int), .int .u64 (word ws 3 : Int)] := by
  obtain ⟨hl, _⟩ := h
  match ws, hl with
  | [a, b, c, d], _ => rfl
theorem SB.drew {w : World} {b : Nat} {ws : List Nat} (h : SB w b ws) : SB w.drew b ws := h
theorem pow64 (c : Nat) : 2 ^ (c % 64) < 18446744073709551616 := Nat.pow_lt_pow_right (a := 2) (n := 64) (by decide) (Nat.mod_lt _ (by decide))
theorem wrap_pow (c : Nat) : IntKind.u64.wrap (2 ^ (c % 64)) = ((2 ^ (c % 64) : Nat) : Int) := by
  rw [IntKind.wrap_u64]
  have : (2 ^ (c % 64) : Nat) < 18446744073709551616 := pow64 c
  have e : ((2 ^ (c % 64) : Nat) : Int) = (2 : Int) ^ (c % 64) := by simp
  rw [← e]
  generalize 2 ^ (c % 64) = p at *
  omega
theorem or_word {ws : List Nat} (h : Wf ws) (i c : Nat) : bits BinOp.or IntKind.u64 (word ws i : Int) (IntKind.u64.wrap (2 ^ (c % 64))) = ((word ws i ||| 2 ^ (c % 64) : Nat) : Int) := by
  rw [wrap_pow]
  exact u64_or_nat _ _ (word_lt h i) (pow64 c)
theorem SB.same {w : World} {b : Nat} {ws : List Nat} (h : SB w b ws) (hw : Wf ws) {i : Nat} (hi : i < 4) : SB (w.setCell ⟨b, i, none⟩ (.int .u64 (word ws i : Int))) b ws := by
  have h1 := h.set i (word ws i)
  have : ws.set i (word ws i) = ws := by
    apply List.ext_getElem?
    intro k
    rw [List.getElem?_set]
    by_cases hk : i = k
    · subst hk
      rw [if_pos rfl, if_pos (by rw [hw.len]; exact hi), word_get hw hi]
    · rw [if_neg hk]
  rwa [this] at h1
theorem SB.again {w : World} {b : Nat} {ws : List Nat} (h : SB w b ws) (hw : Wf ws) :
    SB ((((w.setCell ⟨b, 0, none⟩ (.int .u64 (word ws 0 : Int))).setCell ⟨b, 1, none⟩ (.int .u64 (word ws 1 : Int))).setCell ⟨b, 2, none⟩ (.int .u64 (word ws 2 : Int))).setCell ⟨b, 3, none⟩ (.int .u64 (word ws 3 : Int))) b ws :=
  (((h.same hw (by omega)).same hw (by omega)).same hw (by omega)).same hw (by omega)
theorem below_again {B : Nat} {w0 w : World} {b : Nat} (h : Below B w0 w) (hb : B ≤ b) (x0 x1 x2 x3 : Value) :
    Below B w0 ((((w.setCell ⟨b, 0, none⟩ x0).setCell ⟨b, 1, none⟩ x1).setCell ⟨b, 2, none⟩ x2).setCell ⟨b, 3, none⟩ x3) :=
  (((h.setCell (p := ⟨b, 0, none⟩) hb _).setCell (p := ⟨b, 1, none⟩) hb _).setCell (p := ⟨b, 2, none⟩) hb _).setCell (p := ⟨b, 3, none⟩) hb _
set_option maxHeartbeats 400000 in
theorem of_any (l : List UInt8) (w : World) (hl : l.length ≤ 1000000) :
    Calls Tryz.prog 83 #[.string ⟨l.toArray⟩] w fun e w' => e = .returned (SV (ofL l)) ∧ Below w.heap.size w w' := by
  go_enter Tryz.func83, Tryz.ntmps83
  go_wp2
  go_loopw [3, 6] (fun _ i wr => ∃ k : Nat, k ≤ l.length ∧ i = .int .i64 k ∧ SB wr w.heap.size (ofL (l.take k)) ∧ Below w.heap.size w wr) (fun _ i _ => l.length - (intOf i).toNat)
  case atStart => exact ⟨0, Nat.zero_le _, rfl, heap_alloc_new w _, (Below.refl _ w).alloc (Nat.le_refl _) _⟩
  case round =>
    obtain ⟨k, hk, rfl, hS, hB⟩ := hrel
    by_cases hlt : k < l.length
    · have hcell : ((ByteArray.mk l.toArray)[k]'hlt) = l[k] := rfl
      have hw := wf_ofL (l.take k)
      have hsn : ofL (l.take (k + 1)) = add1 (ofL (l.take k)) l[k].toNat := by rw [List.take_succ_eq_append_getElem hlt, ofL_snoc]
      have HSN := Lib.hid hsn
      clear hsn
      generalize ofL (l.take k) = ws at *
      have hc0 := UInt8.toNat_lt l[k]
      have en : ((l[k].toNat : Int) / 64).toNat = l[k].toNat / 64 := by omega
      have c1 := hS.cell hw (i := ((l[k].toNat : Int) / 64).toNat) (by omega)
      have f1 := Lib.frozen_of_heap hS ((l[k].toNat : Int) / 64).toNat
      have c1' := hS.cell hw (i := l[k].toNat / 64) (by omega)
      have f1' := Lib.frozen_of_heap hS (l[k].toNat / 64)
      clear en
      have h0 : 0 ≤ (l[k].toNat : Int) / 64 := by omega
      have h1 : (l[k].toNat : Int) / 64 < 4 := by omega
      generalize l[k] = c at *
      have ho := or_word hw (c.toNat / 64) c.toNat
      go_wp2
      go_region
      go_wp2
      go_roundw
      case rel => exact ⟨k + 1, by omega, by go_num, by rw [HSN.out]; exact SB.set hS _ _, hB.drew.setCell (Nat.le_refl _) _⟩
      case measure => simp [intOf]; omega
    · obtain rfl : k = l.length := by omega
      have hw := wf_ofL (l.take l.length)
      have g0 := hS.cell hw (i := 0) (by omega)
      have g1 := hS.cell hw (i := 1) (by omega)
      have g2 := hS.cell hw (i := 2) (by omega)
      have g3 := hS.cell hw (i := 3) (by omega)
      have f0 := Lib.frozen_of_heap hS 0
      have f1 := Lib.frozen_of_heap hS 1
      have f2 := Lib.frozen_of_heap hS 2
      have f3 := Lib.frozen_of_heap hS 3
      have hSV := SV_eq hw
      rw [List.take_of_length_le (Nat.le_refl _)] at *
      have HSV := Lib.hid hSV
      generalize hws : ofL l = ws at *
      have HWS := Lib.hid hws
      clear hws
      have hS4 := hS.again hw
      have hB4 := below_again hB (Nat.le_refl _) (.int .u64 (word ws 0 : Int)) (.int .u64 (word ws 1 : Int)) (.int .u64 (word ws 2 : Int)) (.int .u64 (word ws 3 : Int))
      clear hS hSV
      go_wp2
      generalize (((wr.setCell { block := w.heap.size, off := 0 } (Value.int IntKind.u64 ↑(word ws 0))).setCell { block := w.heap.size, off := 1 } (Value.int IntKind.u64 ↑(word ws 1))).setCell { block := w.heap.size, off := 2 } (Value.int IntKind.u64 ↑(word ws 2))).setCell { block := w.heap.size, off := 3 } (Value.int IntKind.u64 ↑(word ws 3)) = W at *
      have k0 := hS4.cell hw (i := 0) (by omega)
      have k1 := hS4.cell hw (i := 1) (by omega)
      have k2 := hS4.cell hw (i := 2) (by omega)
      have k3 := hS4.cell hw (i := 3) (by omega)
      exact bodyPost_ret (v := SV ws) (by rw [HSV.out]; simp [results, Tryz.results83, go_sem, k0, k1, k2, k3]) rfl ⟨by rw [HWS.out], hB4⟩
def val : List Nat → Nat
  | [] => 0
  | b :: r => b + 256 * val r
def s1 (b : Nat) : Nat := (b / 2 &&& 85) + (b &&& 85)
def s2 (b : Nat) : Nat := (b / 4 &&& 51) + (b &&& 51)
def s3 (b : Nat) : Nat := (b / 16 + b) &&& 15
end Go.Proofs.YtlicoffnjphphaaGreatDoor.St
