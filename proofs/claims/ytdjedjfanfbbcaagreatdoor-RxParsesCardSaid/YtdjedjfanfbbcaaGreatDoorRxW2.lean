/- Patterns: whether a node may be alone: the walk. -/
import Derived.Test.YtdjedjfanfbbcaaGreatDoorRxW1
namespace Go.Proofs.YtdjedjfanfbbcaaGreatDoor.Rx
open Go.RowKit Go.Shelf
open Go.Proofs.YtdjedjfanfbbcaaGreatDoor.St (Wf word zeroW ext_word wf_zero)
set_option linter.unusedVariables false
set_option linter.unusedSimpArgs false
theorem word_eq {s t : List Nat} (hs : Wf s) (ht : Wf t) : s = t ↔ (word s 0 = word t 0 ∧ word s 1 = word t 1 ∧ word s 2 = word t 2 ∧ word s 3 = word t 3) := by
  constructor
  · rintro rfl; simp
  · rintro ⟨h0, h1, h2, h3⟩
    refine ext_word hs ht fun i hi => ?_
    match i, hi with
    | 0, _ => exact h0
    | 1, _ => exact h1
    | 2, _ => exact h2
    | 3, _ => exact h3
set_option maxRecDepth 100000 in
set_option maxHeartbeats 1600000 in
theorem run_eqN (n m : Nd) (hn : Wf n.s) (hm : Wf m.s) (w : World) : (Op.equalIn 10000 45 (NV n) (NV m)).run Tryz.prog w = .ok (decide (n = m)) w := by
  obtain ⟨k, s, a, b, mn, mx, x⟩ := n
  obtain ⟨k', s', a', b', mn', mx', x'⟩ := m
  dsimp only at hn hm
  have H4 := fun W => run_eq4g (word s 0) (word s 1) (word s 2) (word s 3) (word s' 0) (word s' 1) (word s' 2) (word s' 3) 9997 W
  have ne : ∀ {p q : Int}, p ≠ q → (p == q) = false := fun h => by simpa using h
  by_cases hk : k = k'
  · subst hk
    by_cases hs : s = s'
    · subst hs
      simp only [true_and, decide_true] at H4
      by_cases ha : a = a'
      · subst ha
        by_cases hb : b = b'
        · subst hb
          by_cases hmn : mn = mn'
          · subst hmn
            by_cases hmx : mx = mx'
            · subst hmx
              by_cases hx : x = x'
              · subst hx
                go_simp
              · have hB := ne hx
                rw [decide_eq_false (by simpa using hx)]
                go_simp
            · have hB := ne hmx
              rw [decide_eq_false (by simp [hmx])]
              go_simp
          · have hB := ne hmn
            rw [decide_eq_false (by simp [hmn])]
            go_simp
        · have hB := ne hb
          rw [decide_eq_false (by simp [hb])]
          go_simp
      · have hB := ne ha
        rw [decide_eq_false (by simp [ha])]
        go_simp
    · have h4 : (decide (word s 0 = word s' 0 ∧ word s 1 = word s' 1 ∧ word s 2 = word s' 2 ∧ word s 3 = word s' 3)) = false := by
        rw [decide_eq_false_iff_not, ← word_eq hn hm]; exact hs
      simp only [h4] at H4
      rw [decide_eq_false (by simp [hs])]
      go_simp
  · have hB := ne hk
    rw [decide_eq_false (by simp [hk])]
    go_simp
theorem lt_cell {W : World} {a : Addr} {v : Value} (h : W.cell? a = some v) : a.block < W.heap.size := by
  rcases Nat.lt_or_ge a.block W.heap.size with hl | hl
  · exact hl
  · exfalso
    have hn : W.heap[a.block]? = none := Array.getElem?_eq_none hl
    unfold World.cell? at h
    simp [hn] at h
/-- What a held region keeps of a node in a block. -/
abbrev NB (w : World) (b : Nat) (n : Nd) : Prop := w.heap[b]? = some (.cells (NC n) 45 (0, 0))
/-- A block with a node, in a world above another one. -/
abbrev NH (w0 w : World) (b : Nat) (n : Nd) : Prop :=
  w.cell? ⟨b, 0, none⟩ = some (E n.k) ∧ w.cell? ⟨b, 1, none⟩ = some (U (word n.s 0)) ∧ w.cell? ⟨b, 2, none⟩ = some (U (word n.s 1)) ∧ w.cell? ⟨b, 3, none⟩ = some (U (word n.s 2)) ∧ w.cell? ⟨b, 4, none⟩ = some (U (word n.s 3)) ∧
  w.cell? ⟨b, 5, none⟩ = some (E n.a) ∧ w.cell? ⟨b, 6, none⟩ = some (E n.b) ∧ w.cell? ⟨b, 7, none⟩ = some (E n.mn) ∧ w.cell? ⟨b, 8, none⟩ = some (E n.mx) ∧ w.cell? ⟨b, 9, none⟩ = some (E n.n) ∧ Below w0.heap.size w0 w
theorem NB.held {w0 w : World} {b : Nat} {n : Nd} (h : NB w b n) (hb : Below w0.heap.size w0 w) : NH w0 w b n := by
  refine ⟨?_, ?_, ?_, ?_, ?_, ?_, ?_, ?_, ?_, ?_, hb⟩ <;> simp [World.cell?, h]
theorem NH.below {w0 w w' : World} {b : Nat} {n : Nd} (h : NH w0 w b n) (hb : Below w.heap.size w w') : NH w0 w' b n := by
  obtain ⟨h0, h1, h2, h3, h4, h5, h6, h7, h8, h9, h⟩ := h
  exact ⟨(hb.cell (lt_cell h0)).trans h0, (hb.cell (lt_cell h1)).trans h1, (hb.cell (lt_cell h2)).trans h2, (hb.cell (lt_cell h3)).trans h3, (hb.cell (lt_cell h4)).trans h4, (hb.cell (lt_cell h5)).trans h5, (hb.cell (lt_cell h6)).trans h6, (hb.cell (lt_cell h7)).trans h7, (hb.cell (lt_cell h8)).trans h8, (hb.cell (lt_cell h9)).trans h9, h.trans (hb.mono h.size)⟩
theorem NH.drew {w0 w : World} {b : Nat} {n : Nd} (h : NH w0 w b n) : NH w0 w.drew b n := by
  obtain ⟨h0, h1, h2, h3, h4, h5, h6, h7, h8, h9, h⟩ := h
  exact ⟨h0, h1, h2, h3, h4, h5, h6, h7, h8, h9, h.drew⟩
theorem wf_plain {n : Nd} (h : Wf n.s) : Wf (plainN n).s := by
  unfold plainN
  split
  · exact h
  · repeat (split; exact wf_zero)
    exact wf_zero
theorem one_low (n : Nd) (w : World) (h : n.k < 0) : Calls Tryz.prog 63 #[NV n] w fun e w' => e = .returned (.bool false) ∧ Below w.heap.size w w' := by
  have h0B : decide (n.k < 0) = true := by simp; omega
  go_enter Tryz.func63, Tryz.ntmps63
  go_wp2
  go_region
  go_wp2
  go_ret
  exact ⟨rfl, ((Below.refl w.heap.size w).alloc (Nat.le_refl _) _).drew⟩
theorem one_high (n : Nd) (w : World) (h : 8 < n.k) : Calls Tryz.prog 63 #[NV n] w fun e w' => e = .returned (.bool false) ∧ Below w.heap.size w w' := by
  have h0B : decide (n.k < 0) = false := by simp; omega
  have h8B : decide (8 < n.k) = true := by simp; omega
  go_enter Tryz.func63, Tryz.ntmps63
  go_wp2
  go_region
  go_wp2
  go_ret
  exact ⟨rfl, ((Below.refl w.heap.size w).alloc (Nat.le_refl _) _).drew⟩
set_option maxRecDepth 100000 in
set_option maxHeartbeats 1600000 in
theorem one_ne (n : Nd) (w : World) (h0 : 0 ≤ n.k) (h8 : n.k ≤ 8) (hw : Wf n.s) (hne : n ≠ plainN n) : Calls Tryz.prog 63 #[NV n] w fun e w' => e = .returned (.bool false) ∧ Below w.heap.size w w' := by
  have CP := fun W => plain_any n W
  have HQ := fun W => run_eqN n (plainN n) hw (wf_plain hw) W
  have HB : ∀ W, (binOp .neq 45 (NV n) (NV (plainN n))).run Tryz.prog W = .ok (.bool true) W := fun W => by
    rw [run_neq_struct, HQ, decide_eq_false hne]; rfl
  have h0B : decide ((n).k < 0) = false := by simp; omega
  have h8B : decide (8 < (n).k) = false := by simp; omega
  have HG : ∀ x y W, (eqGuard .neq 45 x y (NV n) (NV (plainN n))).run Tryz.prog W = .ok () W := fun x y W => run_eqGuard_agg W _ _ _ _ _ _ (by kernel_rfl)
  generalize NV (plainN n) = v at CP HB HG
  clear HQ
  go_enter Tryz.func63, Tryz.ntmps63
  go_wp2
  have HN0 : NB (w.alloc (Obj.cells (NC n) 45)) w.heap.size n := heap_alloc_new _ _
  have HA0 := (Below.refl w.heap.size w).alloc (Nat.le_refl _) (Obj.cells (NC n) 45)
  have HS0 := NB.held (w0 := w) HN0 HA0
  go_region_held3 (fun w' => NH w w' w.heap.size n)
    (first
      | exact HS0.drew
      | assumption
      | exact NH.below (by assumption) (by assumption))
    (first
      | (go_at_call 81; refine (CP _).mono ?_; rintro e w' ⟨rfl, hbl⟩))
  rename_i hH
  have hH2 := Lib.hid hH
  obtain ⟨q0, q1, q2, q3, q4, q5, q6, q7, q8, q9, _⟩ := hH
  clear HS0 HA0 HN0
  go_wp2
  go_ret
  exact ⟨rfl, hH2.out.2.2.2.2.2.2.2.2.2.2⟩
set_option maxRecDepth 100000 in
set_option maxHeartbeats 1600000 in
theorem one_0  (w : World)  : Calls Tryz.prog 63 #[NV ⟨0, z4, 0, 0, 0, 0, 0⟩] w fun e w' => e = .returned (.bool (decide (OneN ⟨0, z4, 0, 0, 0, 0, 0⟩))) ∧ Below w.heap.size w w' := by
  have CP := fun W => plain_any ⟨0, z4, 0, 0, 0, 0, 0⟩ W
  have hpl : plainN ⟨0, z4, 0, 0, 0, 0, 0⟩ = ⟨0, z4, 0, 0, 0, 0, 0⟩ := rfl
  have HQ := fun W => run_eqN ⟨0, z4, 0, 0, 0, 0, 0⟩ (plainN ⟨0, z4, 0, 0, 0, 0, 0⟩) (by first | exact wf_zero | assumption) (by first | exact wf_zero | assumption) W
  have HB : ∀ W, (binOp .neq 45 (NV ⟨0, z4, 0, 0, 0, 0, 0⟩) (NV (plainN ⟨0, z4, 0, 0, 0, 0, 0⟩))).run Tryz.prog W = .ok (.bool false) W := fun W => by
    rw [run_neq_struct, HQ, hpl, decide_eq_true rfl]; rfl
  clear hpl
  have HG : ∀ x y W, (eqGuard .neq 45 x y (NV ⟨0, z4, 0, 0, 0, 0, 0⟩) (NV (plainN ⟨0, z4, 0, 0, 0, 0, 0⟩))).run Tryz.prog W = .ok () W := fun x y W => run_eqGuard_agg W _ _ _ _ _ _ (by kernel_rfl)
  generalize NV (plainN ⟨0, z4, 0, 0, 0, 0, 0⟩) = v at CP HB HG
  clear HQ
  go_enter Tryz.func63, Tryz.ntmps63
  go_wp2
  have HN0 : NB (w.alloc (Obj.cells (NC ⟨0, z4, 0, 0, 0, 0, 0⟩) 45)) w.heap.size ⟨0, z4, 0, 0, 0, 0, 0⟩ := heap_alloc_new _ _
  have HA0 := (Below.refl w.heap.size w).alloc (Nat.le_refl _) (Obj.cells (NC ⟨0, z4, 0, 0, 0, 0, 0⟩) 45)
  have HS0 := NB.held (w0 := w) HN0 HA0
  go_region_held3 (fun w' => NH w w' w.heap.size ⟨0, z4, 0, 0, 0, 0, 0⟩)
    (first
      | exact HS0.drew
      | assumption
      | exact NH.below (by assumption) (by assumption))
    (first
      | (go_at_call 81; refine (CP _).mono ?_; rintro e w' ⟨rfl, hbl⟩))
  rename_i hH
  have hH2 := Lib.hid hH
  obtain ⟨q0, q1, q2, q3, q4, q5, q6, q7, q8, q9, _⟩ := hH
  clear HS0 HA0 HN0
  go_wp2
  all_goals go_ret
  all_goals refine ⟨ret1 (congrArg Value.bool ?_), hH2.out.2.2.2.2.2.2.2.2.2.2⟩
  all_goals first
    | (rw [decide_eq_decide]; unfold OneN; simp; done)
    | (rw [decide_eq_decide]; unfold OneN; simp; omega)
    | (symm; rw [decide_eq_false_iff_not]; unfold OneN; simp; done)
    | (symm; rw [decide_eq_false_iff_not]; unfold OneN; simp; omega)
    | (symm; rw [decide_eq_true_iff]; unfold OneN; simp; done)
    | (symm; rw [decide_eq_true_iff]; unfold OneN; simp; omega)
    | (rw [Bool.eq_iff_iff]; unfold OneN; simp; omega)
set_option maxRecDepth 100000 in
set_option maxHeartbeats 1600000 in
theorem one_2  (w : World)  : Calls Tryz.prog 63 #[NV ⟨2, z4, 0, 0, 0, 0, 0⟩] w fun e w' => e = .returned (.bool (decide (OneN ⟨2, z4, 0, 0, 0, 0, 0⟩))) ∧ Below w.heap.size w w' := by
  have CP := fun W => plain_any ⟨2, z4, 0, 0, 0, 0, 0⟩ W
  have hpl : plainN ⟨2, z4, 0, 0, 0, 0, 0⟩ = ⟨2, z4, 0, 0, 0, 0, 0⟩ := rfl
  have HQ := fun W => run_eqN ⟨2, z4, 0, 0, 0, 0, 0⟩ (plainN ⟨2, z4, 0, 0, 0, 0, 0⟩) (by first | exact wf_zero | assumption) (by first | exact wf_zero | assumption) W
  have HB : ∀ W, (binOp .neq 45 (NV ⟨2, z4, 0, 0, 0, 0, 0⟩) (NV (plainN ⟨2, z4, 0, 0, 0, 0, 0⟩))).run Tryz.prog W = .ok (.bool false) W := fun W => by
    rw [run_neq_struct, HQ, hpl, decide_eq_true rfl]; rfl
  clear hpl
  have HG : ∀ x y W, (eqGuard .neq 45 x y (NV ⟨2, z4, 0, 0, 0, 0, 0⟩) (NV (plainN ⟨2, z4, 0, 0, 0, 0, 0⟩))).run Tryz.prog W = .ok () W := fun x y W => run_eqGuard_agg W _ _ _ _ _ _ (by kernel_rfl)
  generalize NV (plainN ⟨2, z4, 0, 0, 0, 0, 0⟩) = v at CP HB HG
  clear HQ
  go_enter Tryz.func63, Tryz.ntmps63
  go_wp2
  have HN0 : NB (w.alloc (Obj.cells (NC ⟨2, z4, 0, 0, 0, 0, 0⟩) 45)) w.heap.size ⟨2, z4, 0, 0, 0, 0, 0⟩ := heap_alloc_new _ _
  have HA0 := (Below.refl w.heap.size w).alloc (Nat.le_refl _) (Obj.cells (NC ⟨2, z4, 0, 0, 0, 0, 0⟩) 45)
  have HS0 := NB.held (w0 := w) HN0 HA0
  go_region_held3 (fun w' => NH w w' w.heap.size ⟨2, z4, 0, 0, 0, 0, 0⟩)
    (first
      | exact HS0.drew
      | assumption
      | exact NH.below (by assumption) (by assumption))
    (first
      | (go_at_call 81; refine (CP _).mono ?_; rintro e w' ⟨rfl, hbl⟩))
  rename_i hH
  have hH2 := Lib.hid hH
  obtain ⟨q0, q1, q2, q3, q4, q5, q6, q7, q8, q9, _⟩ := hH
  clear HS0 HA0 HN0
  go_wp2
  all_goals go_ret
  all_goals refine ⟨ret1 (congrArg Value.bool ?_), hH2.out.2.2.2.2.2.2.2.2.2.2⟩
  all_goals first
    | (rw [decide_eq_decide]; unfold OneN; simp; done)
    | (rw [decide_eq_decide]; unfold OneN; simp; omega)
    | (symm; rw [decide_eq_false_iff_not]; unfold OneN; simp; done)
    | (symm; rw [decide_eq_false_iff_not]; unfold OneN; simp; omega)
    | (symm; rw [decide_eq_true_iff]; unfold OneN; simp; done)
    | (symm; rw [decide_eq_true_iff]; unfold OneN; simp; omega)
    | (rw [Bool.eq_iff_iff]; unfold OneN; simp; omega)
set_option maxRecDepth 100000 in
set_option maxHeartbeats 1600000 in
theorem one_3  (w : World)  : Calls Tryz.prog 63 #[NV ⟨3, z4, 0, 0, 0, 0, 0⟩] w fun e w' => e = .returned (.bool (decide (OneN ⟨3, z4, 0, 0, 0, 0, 0⟩))) ∧ Below w.heap.size w w' := by
  have CP := fun W => plain_any ⟨3, z4, 0, 0, 0, 0, 0⟩ W
  have hpl : plainN ⟨3, z4, 0, 0, 0, 0, 0⟩ = ⟨3, z4, 0, 0, 0, 0, 0⟩ := rfl
  have HQ := fun W => run_eqN ⟨3, z4, 0, 0, 0, 0, 0⟩ (plainN ⟨3, z4, 0, 0, 0, 0, 0⟩) (by first | exact wf_zero | assumption) (by first | exact wf_zero | assumption) W
  have HB : ∀ W, (binOp .neq 45 (NV ⟨3, z4, 0, 0, 0, 0, 0⟩) (NV (plainN ⟨3, z4, 0, 0, 0, 0, 0⟩))).run Tryz.prog W = .ok (.bool false) W := fun W => by
    rw [run_neq_struct, HQ, hpl, decide_eq_true rfl]; rfl
  clear hpl
  have HG : ∀ x y W, (eqGuard .neq 45 x y (NV ⟨3, z4, 0, 0, 0, 0, 0⟩) (NV (plainN ⟨3, z4, 0, 0, 0, 0, 0⟩))).run Tryz.prog W = .ok () W := fun x y W => run_eqGuard_agg W _ _ _ _ _ _ (by kernel_rfl)
  generalize NV (plainN ⟨3, z4, 0, 0, 0, 0, 0⟩) = v at CP HB HG
  clear HQ
  go_enter Tryz.func63, Tryz.ntmps63
  go_wp2
  have HN0 : NB (w.alloc (Obj.cells (NC ⟨3, z4, 0, 0, 0, 0, 0⟩) 45)) w.heap.size ⟨3, z4, 0, 0, 0, 0, 0⟩ := heap_alloc_new _ _
  have HA0 := (Below.refl w.heap.size w).alloc (Nat.le_refl _) (Obj.cells (NC ⟨3, z4, 0, 0, 0, 0, 0⟩) 45)
  have HS0 := NB.held (w0 := w) HN0 HA0
  go_region_held3 (fun w' => NH w w' w.heap.size ⟨3, z4, 0, 0, 0, 0, 0⟩)
    (first
      | exact HS0.drew
      | assumption
      | exact NH.below (by assumption) (by assumption))
    (first
      | (go_at_call 81; refine (CP _).mono ?_; rintro e w' ⟨rfl, hbl⟩))
  rename_i hH
  have hH2 := Lib.hid hH
  obtain ⟨q0, q1, q2, q3, q4, q5, q6, q7, q8, q9, _⟩ := hH
  clear HS0 HA0 HN0
  go_wp2
  all_goals go_ret
  all_goals refine ⟨ret1 (congrArg Value.bool ?_), hH2.out.2.2.2.2.2.2.2.2.2.2⟩
  all_goals first
    | (rw [decide_eq_decide]; unfold OneN; simp; done)
    | (rw [decide_eq_decide]; unfold OneN; simp; omega)
    | (symm; rw [decide_eq_false_iff_not]; unfold OneN; simp; done)
    | (symm; rw [decide_eq_false_iff_not]; unfold OneN; simp; omega)
    | (symm; rw [decide_eq_true_iff]; unfold OneN; simp; done)
    | (symm; rw [decide_eq_true_iff]; unfold OneN; simp; omega)
    | (rw [Bool.eq_iff_iff]; unfold OneN; simp; omega)
set_option maxRecDepth 100000 in
set_option maxHeartbeats 1600000 in
theorem one_4 (a b : Int) (w : World)  : Calls Tryz.prog 63 #[NV ⟨4, z4, a, b, 0, 0, 0⟩] w fun e w' => e = .returned (.bool (decide (OneN ⟨4, z4, a, b, 0, 0, 0⟩))) ∧ Below w.heap.size w w' := by
  have CP := fun W => plain_any ⟨4, z4, a, b, 0, 0, 0⟩ W
  have hpl : plainN ⟨4, z4, a, b, 0, 0, 0⟩ = ⟨4, z4, a, b, 0, 0, 0⟩ := rfl
  have HQ := fun W => run_eqN ⟨4, z4, a, b, 0, 0, 0⟩ (plainN ⟨4, z4, a, b, 0, 0, 0⟩) (by first | exact wf_zero | assumption) (by first | exact wf_zero | assumption) W
  have HB : ∀ W, (binOp .neq 45 (NV ⟨4, z4, a, b, 0, 0, 0⟩) (NV (plainN ⟨4, z4, a, b, 0, 0, 0⟩))).run Tryz.prog W = .ok (.bool false) W := fun W => by
    rw [run_neq_struct, HQ, hpl, decide_eq_true rfl]; rfl
  clear hpl
  have HG : ∀ x y W, (eqGuard .neq 45 x y (NV ⟨4, z4, a, b, 0, 0, 0⟩) (NV (plainN ⟨4, z4, a, b, 0, 0, 0⟩))).run Tryz.prog W = .ok () W := fun x y W => run_eqGuard_agg W _ _ _ _ _ _ (by kernel_rfl)
  generalize NV (plainN ⟨4, z4, a, b, 0, 0, 0⟩) = v at CP HB HG
  clear HQ
  go_enter Tryz.func63, Tryz.ntmps63
  go_wp2
  have HN0 : NB (w.alloc (Obj.cells (NC ⟨4, z4, a, b, 0, 0, 0⟩) 45)) w.heap.size ⟨4, z4, a, b, 0, 0, 0⟩ := heap_alloc_new _ _
  have HA0 := (Below.refl w.heap.size w).alloc (Nat.le_refl _) (Obj.cells (NC ⟨4, z4, a, b, 0, 0, 0⟩) 45)
  have HS0 := NB.held (w0 := w) HN0 HA0
  go_region_held3 (fun w' => NH w w' w.heap.size ⟨4, z4, a, b, 0, 0, 0⟩)
    (first
      | exact HS0.drew
      | assumption
      | exact NH.below (by assumption) (by assumption))
    (first
      | (go_at_call 81; refine (CP _).mono ?_; rintro e w' ⟨rfl, hbl⟩))
  rename_i hH
  have hH2 := Lib.hid hH
  obtain ⟨q0, q1, q2, q3, q4, q5, q6, q7, q8, q9, _⟩ := hH
  clear HS0 HA0 HN0
  go_wp2
  all_goals go_ret
  all_goals refine ⟨ret1 (congrArg Value.bool ?_), hH2.out.2.2.2.2.2.2.2.2.2.2⟩
  all_goals first
    | (rw [decide_eq_decide]; unfold OneN; simp; done)
    | (rw [decide_eq_decide]; unfold OneN; simp; omega)
    | (symm; rw [decide_eq_false_iff_not]; unfold OneN; simp; done)
    | (symm; rw [decide_eq_false_iff_not]; unfold OneN; simp; omega)
    | (symm; rw [decide_eq_true_iff]; unfold OneN; simp; done)
    | (symm; rw [decide_eq_true_iff]; unfold OneN; simp; omega)
    | (rw [Bool.eq_iff_iff]; unfold OneN; simp; omega)
set_option maxRecDepth 100000 in
set_option maxHeartbeats 1600000 in
theorem one_5 (a b : Int) (w : World)  : Calls Tryz.prog 63 #[NV ⟨5, z4, a, b, 0, 0, 0⟩] w fun e w' => e = .returned (.bool (decide (OneN ⟨5, z4, a, b, 0, 0, 0⟩))) ∧ Below w.heap.size w w' := by
  have CP := fun W => plain_any ⟨5, z4, a, b, 0, 0, 0⟩ W
  have hpl : plainN ⟨5, z4, a, b, 0, 0, 0⟩ = ⟨5, z4, a, b, 0, 0, 0⟩ := rfl
  have HQ := fun W => run_eqN ⟨5, z4, a, b, 0, 0, 0⟩ (plainN ⟨5, z4, a, b, 0, 0, 0⟩) (by first | exact wf_zero | assumption) (by first | exact wf_zero | assumption) W
  have HB : ∀ W, (binOp .neq 45 (NV ⟨5, z4, a, b, 0, 0, 0⟩) (NV (plainN ⟨5, z4, a, b, 0, 0, 0⟩))).run Tryz.prog W = .ok (.bool false) W := fun W => by
    rw [run_neq_struct, HQ, hpl, decide_eq_true rfl]; rfl
  clear hpl
  have HG : ∀ x y W, (eqGuard .neq 45 x y (NV ⟨5, z4, a, b, 0, 0, 0⟩) (NV (plainN ⟨5, z4, a, b, 0, 0, 0⟩))).run Tryz.prog W = .ok () W := fun x y W => run_eqGuard_agg W _ _ _ _ _ _ (by kernel_rfl)
  generalize NV (plainN ⟨5, z4, a, b, 0, 0, 0⟩) = v at CP HB HG
  clear HQ
  go_enter Tryz.func63, Tryz.ntmps63
  go_wp2
  have HN0 : NB (w.alloc (Obj.cells (NC ⟨5, z4, a, b, 0, 0, 0⟩) 45)) w.heap.size ⟨5, z4, a, b, 0, 0, 0⟩ := heap_alloc_new _ _
  have HA0 := (Below.refl w.heap.size w).alloc (Nat.le_refl _) (Obj.cells (NC ⟨5, z4, a, b, 0, 0, 0⟩) 45)
  have HS0 := NB.held (w0 := w) HN0 HA0
  go_region_held3 (fun w' => NH w w' w.heap.size ⟨5, z4, a, b, 0, 0, 0⟩)
    (first
      | exact HS0.drew
      | assumption
      | exact NH.below (by assumption) (by assumption))
    (first
      | (go_at_call 81; refine (CP _).mono ?_; rintro e w' ⟨rfl, hbl⟩))
  rename_i hH
  have hH2 := Lib.hid hH
  obtain ⟨q0, q1, q2, q3, q4, q5, q6, q7, q8, q9, _⟩ := hH
  clear HS0 HA0 HN0
  go_wp2
  all_goals go_ret
  all_goals refine ⟨ret1 (congrArg Value.bool ?_), hH2.out.2.2.2.2.2.2.2.2.2.2⟩
  all_goals first
    | (rw [decide_eq_decide]; unfold OneN; simp; done)
    | (rw [decide_eq_decide]; unfold OneN; simp; omega)
    | (symm; rw [decide_eq_false_iff_not]; unfold OneN; simp; done)
    | (symm; rw [decide_eq_false_iff_not]; unfold OneN; simp; omega)
    | (symm; rw [decide_eq_true_iff]; unfold OneN; simp; done)
    | (symm; rw [decide_eq_true_iff]; unfold OneN; simp; omega)
    | (rw [Bool.eq_iff_iff]; unfold OneN; simp; omega)
set_option maxRecDepth 100000 in
set_option maxHeartbeats 1600000 in
theorem one_6 (a mn mx : Int) (w : World)  : Calls Tryz.prog 63 #[NV ⟨6, z4, a, 0, mn, mx, 0⟩] w fun e w' => e = .returned (.bool (decide (OneN ⟨6, z4, a, 0, mn, mx, 0⟩))) ∧ Below w.heap.size w w' := by
  have CP := fun W => plain_any ⟨6, z4, a, 0, mn, mx, 0⟩ W
  have hpl : plainN ⟨6, z4, a, 0, mn, mx, 0⟩ = ⟨6, z4, a, 0, mn, mx, 0⟩ := rfl
  have HQ := fun W => run_eqN ⟨6, z4, a, 0, mn, mx, 0⟩ (plainN ⟨6, z4, a, 0, mn, mx, 0⟩) (by first | exact wf_zero | assumption) (by first | exact wf_zero | assumption) W
  have HB : ∀ W, (binOp .neq 45 (NV ⟨6, z4, a, 0, mn, mx, 0⟩) (NV (plainN ⟨6, z4, a, 0, mn, mx, 0⟩))).run Tryz.prog W = .ok (.bool false) W := fun W => by
    rw [run_neq_struct, HQ, hpl, decide_eq_true rfl]; rfl
  clear hpl
  have HG : ∀ x y W, (eqGuard .neq 45 x y (NV ⟨6, z4, a, 0, mn, mx, 0⟩) (NV (plainN ⟨6, z4, a, 0, mn, mx, 0⟩))).run Tryz.prog W = .ok () W := fun x y W => run_eqGuard_agg W _ _ _ _ _ _ (by kernel_rfl)
  generalize NV (plainN ⟨6, z4, a, 0, mn, mx, 0⟩) = v at CP HB HG
  clear HQ
  go_enter Tryz.func63, Tryz.ntmps63
  go_wp2
  have HN0 : NB (w.alloc (Obj.cells (NC ⟨6, z4, a, 0, mn, mx, 0⟩) 45)) w.heap.size ⟨6, z4, a, 0, mn, mx, 0⟩ := heap_alloc_new _ _
  have HA0 := (Below.refl w.heap.size w).alloc (Nat.le_refl _) (Obj.cells (NC ⟨6, z4, a, 0, mn, mx, 0⟩) 45)
  have HS0 := NB.held (w0 := w) HN0 HA0
  go_region_held3 (fun w' => NH w w' w.heap.size ⟨6, z4, a, 0, mn, mx, 0⟩)
    (first
      | exact HS0.drew
      | assumption
      | exact NH.below (by assumption) (by assumption))
    (first
      | (go_at_call 81; refine (CP _).mono ?_; rintro e w' ⟨rfl, hbl⟩))
  rename_i hH
  have hH2 := Lib.hid hH
  obtain ⟨q0, q1, q2, q3, q4, q5, q6, q7, q8, q9, _⟩ := hH
  clear HS0 HA0 HN0
  go_wp2
  all_goals go_ret
  all_goals refine ⟨ret1 (congrArg Value.bool ?_), hH2.out.2.2.2.2.2.2.2.2.2.2⟩
  all_goals first
    | (rw [decide_eq_decide]; unfold OneN; simp; done)
    | (rw [decide_eq_decide]; unfold OneN; simp; omega)
    | (symm; rw [decide_eq_false_iff_not]; unfold OneN; simp; done)
    | (symm; rw [decide_eq_false_iff_not]; unfold OneN; simp; omega)
    | (symm; rw [decide_eq_true_iff]; unfold OneN; simp; done)
    | (symm; rw [decide_eq_true_iff]; unfold OneN; simp; omega)
    | (rw [Bool.eq_iff_iff]; unfold OneN; simp; omega)
set_option maxRecDepth 100000 in
set_option maxHeartbeats 1600000 in
theorem one_7 (a m : Int) (w : World)  : Calls Tryz.prog 63 #[NV ⟨7, z4, a, 0, 0, 0, m⟩] w fun e w' => e = .returned (.bool (decide (OneN ⟨7, z4, a, 0, 0, 0, m⟩))) ∧ Below w.heap.size w w' := by
  have CP := fun W => plain_any ⟨7, z4, a, 0, 0, 0, m⟩ W
  have hpl : plainN ⟨7, z4, a, 0, 0, 0, m⟩ = ⟨7, z4, a, 0, 0, 0, m⟩ := rfl
  have HQ := fun W => run_eqN ⟨7, z4, a, 0, 0, 0, m⟩ (plainN ⟨7, z4, a, 0, 0, 0, m⟩) (by first | exact wf_zero | assumption) (by first | exact wf_zero | assumption) W
  have HB : ∀ W, (binOp .neq 45 (NV ⟨7, z4, a, 0, 0, 0, m⟩) (NV (plainN ⟨7, z4, a, 0, 0, 0, m⟩))).run Tryz.prog W = .ok (.bool false) W := fun W => by
    rw [run_neq_struct, HQ, hpl, decide_eq_true rfl]; rfl
  clear hpl
  have HG : ∀ x y W, (eqGuard .neq 45 x y (NV ⟨7, z4, a, 0, 0, 0, m⟩) (NV (plainN ⟨7, z4, a, 0, 0, 0, m⟩))).run Tryz.prog W = .ok () W := fun x y W => run_eqGuard_agg W _ _ _ _ _ _ (by kernel_rfl)
  generalize NV (plainN ⟨7, z4, a, 0, 0, 0, m⟩) = v at CP HB HG
  clear HQ
  go_enter Tryz.func63, Tryz.ntmps63
  go_wp2
  have HN0 : NB (w.alloc (Obj.cells (NC ⟨7, z4, a, 0, 0, 0, m⟩) 45)) w.heap.size ⟨7, z4, a, 0, 0, 0, m⟩ := heap_alloc_new _ _
  have HA0 := (Below.refl w.heap.size w).alloc (Nat.le_refl _) (Obj.cells (NC ⟨7, z4, a, 0, 0, 0, m⟩) 45)
  have HS0 := NB.held (w0 := w) HN0 HA0
  go_region_held3 (fun w' => NH w w' w.heap.size ⟨7, z4, a, 0, 0, 0, m⟩)
    (first
      | exact HS0.drew
      | assumption
      | exact NH.below (by assumption) (by assumption))
    (first
      | (go_at_call 81; refine (CP _).mono ?_; rintro e w' ⟨rfl, hbl⟩))
  rename_i hH
  have hH2 := Lib.hid hH
  obtain ⟨q0, q1, q2, q3, q4, q5, q6, q7, q8, q9, _⟩ := hH
  clear HS0 HA0 HN0
  go_wp2
  all_goals go_ret
  all_goals refine ⟨ret1 (congrArg Value.bool ?_), hH2.out.2.2.2.2.2.2.2.2.2.2⟩
  all_goals first
    | (rw [decide_eq_decide]; unfold OneN; simp; done)
    | (rw [decide_eq_decide]; unfold OneN; simp; omega)
    | (symm; rw [decide_eq_false_iff_not]; unfold OneN; simp; done)
    | (symm; rw [decide_eq_false_iff_not]; unfold OneN; simp; omega)
    | (symm; rw [decide_eq_true_iff]; unfold OneN; simp; done)
    | (symm; rw [decide_eq_true_iff]; unfold OneN; simp; omega)
    | (rw [Bool.eq_iff_iff]; unfold OneN; simp; omega)
set_option maxRecDepth 100000 in
set_option maxHeartbeats 1600000 in
theorem one_8 (m : Int) (w : World)  : Calls Tryz.prog 63 #[NV ⟨8, z4, 0, 0, 0, 0, m⟩] w fun e w' => e = .returned (.bool (decide (OneN ⟨8, z4, 0, 0, 0, 0, m⟩))) ∧ Below w.heap.size w w' := by
  have CP := fun W => plain_any ⟨8, z4, 0, 0, 0, 0, m⟩ W
  have hpl : plainN ⟨8, z4, 0, 0, 0, 0, m⟩ = ⟨8, z4, 0, 0, 0, 0, m⟩ := rfl
  have HQ := fun W => run_eqN ⟨8, z4, 0, 0, 0, 0, m⟩ (plainN ⟨8, z4, 0, 0, 0, 0, m⟩) (by first | exact wf_zero | assumption) (by first | exact wf_zero | assumption) W
  have HB : ∀ W, (binOp .neq 45 (NV ⟨8, z4, 0, 0, 0, 0, m⟩) (NV (plainN ⟨8, z4, 0, 0, 0, 0, m⟩))).run Tryz.prog W = .ok (.bool false) W := fun W => by
    rw [run_neq_struct, HQ, hpl, decide_eq_true rfl]; rfl
  clear hpl
  have HG : ∀ x y W, (eqGuard .neq 45 x y (NV ⟨8, z4, 0, 0, 0, 0, m⟩) (NV (plainN ⟨8, z4, 0, 0, 0, 0, m⟩))).run Tryz.prog W = .ok () W := fun x y W => run_eqGuard_agg W _ _ _ _ _ _ (by kernel_rfl)
  generalize NV (plainN ⟨8, z4, 0, 0, 0, 0, m⟩) = v at CP HB HG
  clear HQ
  go_enter Tryz.func63, Tryz.ntmps63
  go_wp2
  have HN0 : NB (w.alloc (Obj.cells (NC ⟨8, z4, 0, 0, 0, 0, m⟩) 45)) w.heap.size ⟨8, z4, 0, 0, 0, 0, m⟩ := heap_alloc_new _ _
  have HA0 := (Below.refl w.heap.size w).alloc (Nat.le_refl _) (Obj.cells (NC ⟨8, z4, 0, 0, 0, 0, m⟩) 45)
  have HS0 := NB.held (w0 := w) HN0 HA0
  go_region_held3 (fun w' => NH w w' w.heap.size ⟨8, z4, 0, 0, 0, 0, m⟩)
    (first
      | exact HS0.drew
      | assumption
      | exact NH.below (by assumption) (by assumption))
    (first
      | (go_at_call 81; refine (CP _).mono ?_; rintro e w' ⟨rfl, hbl⟩))
  rename_i hH
  have hH2 := Lib.hid hH
  obtain ⟨q0, q1, q2, q3, q4, q5, q6, q7, q8, q9, _⟩ := hH
  clear HS0 HA0 HN0
  go_wp2
  all_goals go_ret
  all_goals refine ⟨ret1 (congrArg Value.bool ?_), hH2.out.2.2.2.2.2.2.2.2.2.2⟩
  all_goals first
    | (rw [decide_eq_decide]; unfold OneN; simp; done)
    | (rw [decide_eq_decide]; unfold OneN; simp; omega)
    | (symm; rw [decide_eq_false_iff_not]; unfold OneN; simp; done)
    | (symm; rw [decide_eq_false_iff_not]; unfold OneN; simp; omega)
    | (symm; rw [decide_eq_true_iff]; unfold OneN; simp; done)
    | (symm; rw [decide_eq_true_iff]; unfold OneN; simp; omega)
    | (rw [Bool.eq_iff_iff]; unfold OneN; simp; omega)
set_option maxRecDepth 100000 in
set_option maxHeartbeats 1600000 in
theorem one_1 (s : List Nat) (w : World) (hs : Wf s) : Calls Tryz.prog 63 #[NV ⟨1, s, 0, 0, 0, 0, 0⟩] w fun e w' => e = .returned (.bool (decide (OneN ⟨1, s, 0, 0, 0, 0, 0⟩))) ∧ Below w.heap.size w w' := by
  have CP := fun W => plain_any ⟨1, s, 0, 0, 0, 0, 0⟩ W
  have hpl : plainN ⟨1, s, 0, 0, 0, 0, 0⟩ = ⟨1, s, 0, 0, 0, 0, 0⟩ := rfl
  have HQ := fun W => run_eqN ⟨1, s, 0, 0, 0, 0, 0⟩ (plainN ⟨1, s, 0, 0, 0, 0, 0⟩) (by first | exact wf_zero | assumption) (by first | exact wf_zero | assumption) W
  have HB : ∀ W, (binOp .neq 45 (NV ⟨1, s, 0, 0, 0, 0, 0⟩) (NV (plainN ⟨1, s, 0, 0, 0, 0, 0⟩))).run Tryz.prog W = .ok (.bool false) W := fun W => by
    rw [run_neq_struct, HQ, hpl, decide_eq_true rfl]; rfl
  clear hpl
  have HG : ∀ x y W, (eqGuard .neq 45 x y (NV ⟨1, s, 0, 0, 0, 0, 0⟩) (NV (plainN ⟨1, s, 0, 0, 0, 0, 0⟩))).run Tryz.prog W = .ok () W := fun x y W => run_eqGuard_agg W _ _ _ _ _ _ (by kernel_rfl)
  generalize NV (plainN ⟨1, s, 0, 0, 0, 0, 0⟩) = v at CP HB HG
  clear HQ
  go_enter Tryz.func63, Tryz.ntmps63
  go_wp2
  have HN0 : NB (w.alloc (Obj.cells (NC ⟨1, s, 0, 0, 0, 0, 0⟩) 45)) w.heap.size ⟨1, s, 0, 0, 0, 0, 0⟩ := heap_alloc_new _ _
  have HA0 := (Below.refl w.heap.size w).alloc (Nat.le_refl _) (Obj.cells (NC ⟨1, s, 0, 0, 0, 0, 0⟩) 45)
  have HS0 := NB.held (w0 := w) HN0 HA0
  go_region_held3 (fun w' => NH w w' w.heap.size ⟨1, s, 0, 0, 0, 0, 0⟩)
    (first
      | exact HS0.drew
      | assumption
      | exact NH.below (by assumption) (by assumption))
    (first
      | (go_at_call 81; refine (CP _).mono ?_; rintro e w' ⟨rfl, hbl⟩))
  rename_i hH
  have hH2 := Lib.hid hH
  obtain ⟨q0, q1, q2, q3, q4, q5, q6, q7, q8, q9, _⟩ := hH
  clear HS0 HA0 HN0
  have HO := Lib.hid (show decide (OneN ⟨1, s, 0, 0, 0, 0, 0⟩) = !decide (s = z4) from by
    by_cases h : s = z4
    · subst h; rw [decide_eq_true rfl]; show decide _ = false; rw [decide_eq_false_iff_not]; unfold OneN; simp
    · rw [decide_eq_false h]; show decide _ = true; rw [decide_eq_true_iff]; unfold OneN; simp [h])
  have H4 : ∀ W, (Op.equalIn 10000 43 (.agg #[U (word s 0), U (word s 1), U (word s 2), U (word s 3)]) (.agg #[.int .u64 0, .int .u64 0, .int .u64 0, .int .u64 0])).run Tryz.prog W = .ok (decide (s = z4)) W := fun W => by
    have h := run_eq4g (word s 0) (word s 1) (word s 2) (word s 3) 0 0 0 0 9998 W
    rw [show (decide (word s 0 = 0 ∧ word s 1 = 0 ∧ word s 2 = 0 ∧ word s 3 = 0)) = decide (s = z4) from by
      rw [decide_eq_decide]; exact (word_eq hs wf_zero).symm] at h
    exact h
  generalize decide (s = z4) = b at H4 HO
  go_wp2
  go_ret
  exact ⟨by rw [HO.out]; exact ret1 rfl, hH2.out.2.2.2.2.2.2.2.2.2.2⟩
theorem one_fields {n : Nd} (h : plainN n = n) (h0 : 0 ≤ n.k) (h8 : n.k ≤ 8) :
    (∃ s, n = ⟨1, s, 0, 0, 0, 0, 0⟩) ∨ n = ⟨0, z4, 0, 0, 0, 0, 0⟩ ∨ n = ⟨2, z4, 0, 0, 0, 0, 0⟩ ∨ n = ⟨3, z4, 0, 0, 0, 0, 0⟩ ∨ (∃ a b, n = ⟨4, z4, a, b, 0, 0, 0⟩) ∨ (∃ a b, n = ⟨5, z4, a, b, 0, 0, 0⟩) ∨ (∃ a mn mx, n = ⟨6, z4, a, 0, mn, mx, 0⟩) ∨ (∃ a m, n = ⟨7, z4, a, 0, 0, 0, m⟩) ∨ (∃ m, n = ⟨8, z4, 0, 0, 0, 0, m⟩) := by
  obtain ⟨k, s, a, b, mn, mx, m⟩ := n
  dsimp only at h0 h8
  have hk : k = 0 ∨ k = 1 ∨ k = 2 ∨ k = 3 ∨ k = 4 ∨ k = 5 ∨ k = 6 ∨ k = 7 ∨ k = 8 := by omega
  rcases hk with rfl | rfl | rfl | rfl | rfl | rfl | rfl | rfl | rfl <;> (rw [← h]; unfold plainN; simp)
theorem one_plain {n : Nd} (h : OneN n) : plainN n = n := by
  obtain ⟨k, s, a, b, mn, mx, m⟩ := n
  unfold OneN at h
  dsimp only at h
  rcases h with ⟨hk, rfl, rfl, rfl, rfl, rfl, rfl⟩ | ⟨rfl, hs, rfl, rfl, rfl, rfl, rfl⟩ | ⟨hk, rfl, rfl, rfl, rfl⟩ | ⟨rfl, rfl, rfl, rfl, h6, h7, h8⟩ | ⟨rfl, rfl, rfl, rfl, rfl, h6, h7⟩ | ⟨rfl, rfl, rfl, rfl, rfl, rfl, h6, h7⟩
  · rcases hk with rfl | rfl | rfl <;> rfl
  · rfl
  · rcases hk with rfl | rfl <;> rfl
  · rfl
  · rfl
  · rfl
theorem one_kind {n : Nd} (h : OneN n) : 0 ≤ n.k ∧ n.k ≤ 8 := by
  unfold OneN at h; omega
theorem one_any (n : Nd) (w : World) (hw : Wf n.s) : Calls Tryz.prog 63 #[NV n] w fun e w' => e = .returned (.bool (decide (OneN n))) ∧ Below w.heap.size w w' := by
  by_cases hl : n.k < 0
  · rw [decide_eq_false (fun h => by have := one_kind h; omega)]; exact one_low n w hl
  by_cases hh : 8 < n.k
  · rw [decide_eq_false (fun h => by have := one_kind h; omega)]; exact one_high n w hh
  by_cases hp : n = plainN n
  · rcases one_fields hp.symm (by omega) (by omega) with ⟨s, rfl⟩ | rfl | rfl | rfl | ⟨a, b, rfl⟩ | ⟨a, b, rfl⟩ | ⟨a, mn, mx, rfl⟩ | ⟨a, m, rfl⟩ | ⟨m, rfl⟩
    · exact one_1 s w hw
    · exact one_0 w
    · exact one_2 w
    · exact one_3 w
    · exact one_4 a b w
    · exact one_5 a b w
    · exact one_6 a mn mx w
    · exact one_7 a m w
    · exact one_8 m w
  · rw [decide_eq_false (fun h => hp (one_plain h).symm)]
    exact one_ne n w (by omega) (by omega) hw hp
end Go.Proofs.YtdjedjfanfbbcaaGreatDoor.Rx
