/- The texts RxW2 RxW3 RxC0 MtC Tk. -/
import Derived.Laws.OwnMore
import Derived.OwnWalk
import Derived.Lib.SmallJoins
import Derived.Laws.CopyOwn
import Derived.Deep.MidRow
import Derived.Deep.WholeRow
import Derived.Deep.RegionHeld
import Derived.Tactics
import Derived.RegionTactic
import Derived.Deep.AppendLies
import Derived.Test.YtlicoffnjphphaaGreatDoorQk05
set_option linter.unusedVariables false
set_option linter.unusedSimpArgs false
set_option maxHeartbeats 1600000
set_option maxRecDepth 100000
namespace Go.Proofs.YtlicoffnjphphaaGreatDoor.Rx
open Go.RowKit Go.Shelf
open Go.Proofs.YtlicoffnjphphaaGreatDoor.St (Wf word zeroW ext_word wf_zero)
theorem word_eq {s t : List Nat} (hs : Wf s) (ht : Wf t) : s = t ↔ (word s 0 = word t 0 ∧ word s 1 = word t 1 ∧ word s 2 = word t 2 ∧ word s 3 = word t 3) := by
 constructor
 · rintro rfl; simp
 ·
  rintro ⟨h0, h1, h2, h3⟩;refine ext_word hs ht fun i hi => ?_
  match i, hi with
  | 0, _ => exact h0
  | 1, _ => exact h1
  | 2, _ => exact h2
  | 3, _ => exact h3
theorem run_eqN (n m : Nd) (hn : Wf n.s) (hm : Wf m.s) (w : World) : (Op.equalIn 10000 55 (NV n) (NV m)).run Tryz.prog w = .ok (decide (n = m)) w := by
 obtain ⟨k, s, a, b, mn, mx, x⟩ := n;obtain ⟨k', s', a', b', mn', mx', x'⟩ := m;dsimp only at hn hm;(have H4 := fun W => run_eq4g (word s 0) (word s 1) (word s 2) (word s 3) (word s' 0) (word s' 1) (word s' 2) (word s' 3) 9997 W);(have ne : ∀ {p q : Int}, p ≠ q → (p == q) = false := fun h => by simpa using h);by_cases hk : k = k'
 ·
  subst hk;by_cases hs : s = s'
  ·
   subst hs;simp only [true_and, decide_true] at H4;by_cases ha : a = a'
   ·
    subst ha;by_cases hb : b = b'
    ·
     subst hb;by_cases hmn : mn = mn'
     ·
      subst hmn;by_cases hmx : mx = mx'
      ·
       subst hmx;by_cases hx : x = x'
       · subst hx;go_simp
       · have hB := ne hx;rw [decide_eq_false (by simpa using hx)];go_simp
      · have hB := ne hmx;rw [decide_eq_false (by simp [hmx])];go_simp
     · have hB := ne hmn;rw [decide_eq_false (by simp [hmn])];go_simp
    · have hB := ne hb;rw [decide_eq_false (by simp [hb])];go_simp
   · have hB := ne ha;rw [decide_eq_false (by simp [ha])];go_simp
  ·
   have h4 : (decide (word s 0 = word s' 0 ∧ word s 1 = word s' 1 ∧ word s 2 = word s' 2 ∧ word s 3 = word s' 3)) = false := by
    rw [decide_eq_false_iff_not, ← word_eq hn hm]; exact hs
   simp only [h4] at H4;rw [decide_eq_false (by simp [hs])];go_simp
 · have hB := ne hk;rw [decide_eq_false (by simp [hk])];go_simp
theorem lt_cell {W : World} {a : Addr} {v : Value} (h : W.cell? a = some v) : a.block < W.heap.size := by
 rcases Nat.lt_or_ge a.block W.heap.size with hl | hl
 · exact hl
 · exfalso;have hn : W.heap[a.block]? = none := Array.getElem?_eq_none hl;unfold World.cell? at h;simp [hn] at h
/-- What a held region keeps of a node in a block. -/
abbrev NB (w : World) (b : Nat) (n : Nd) : Prop := w.heap[b]? = some (.cells (NC n) 55 (0, 0))
/-- A block with a node, in a world above another one. -/
abbrev NH (w0 w : World) (b : Nat) (n : Nd) : Prop :=
 w.cell? ⟨b, 0, none⟩ = some (E n.k) ∧ w.cell? ⟨b, 1, none⟩ = some (U (word n.s 0)) ∧ w.cell? ⟨b, 2, none⟩ = some (U (word n.s 1)) ∧ w.cell? ⟨b, 3, none⟩ = some (U (word n.s 2)) ∧ w.cell? ⟨b, 4, none⟩ = some (U (word n.s 3)) ∧
 w.cell? ⟨b, 5, none⟩ = some (E n.a) ∧ w.cell? ⟨b, 6, none⟩ = some (E n.b) ∧ w.cell? ⟨b, 7, none⟩ = some (E n.mn) ∧ w.cell? ⟨b, 8, none⟩ = some (E n.mx) ∧ w.cell? ⟨b, 9, none⟩ = some (E n.n) ∧ Below w0.heap.size w0 w
theorem NB.held {w0 w : World} {b : Nat} {n : Nd} (h : NB w b n) (hb : Below w0.heap.size w0 w) : NH w0 w b n := by
 refine ⟨?_, ?_, ?_, ?_, ?_, ?_, ?_, ?_, ?_, ?_, hb⟩ <;> simp [World.cell?, h]
theorem NH.below {w0 w w' : World} {b : Nat} {n : Nd} (h : NH w0 w b n) (hb : Below w.heap.size w w') : NH w0 w' b n := by
 obtain ⟨h0, h1, h2, h3, h4, h5, h6, h7, h8, h9, h⟩ := h;exact ⟨(hb.cell (lt_cell h0)).trans h0, (hb.cell (lt_cell h1)).trans h1, (hb.cell (lt_cell h2)).trans h2, (hb.cell (lt_cell h3)).trans h3, (hb.cell (lt_cell h4)).trans h4, (hb.cell (lt_cell h5)).trans h5, (hb.cell (lt_cell h6)).trans h6, (hb.cell (lt_cell h7)).trans h7, (hb.cell (lt_cell h8)).trans h8, (hb.cell (lt_cell h9)).trans h9, h.trans (hb.mono h.size)⟩
theorem NH.drew {w0 w : World} {b : Nat} {n : Nd} (h : NH w0 w b n) : NH w0 w.drew b n := by
 obtain ⟨h0, h1, h2, h3, h4, h5, h6, h7, h8, h9, h⟩ := h;exact ⟨h0, h1, h2, h3, h4, h5, h6, h7, h8, h9, h.drew⟩
theorem wf_plain {n : Nd} (h : Wf n.s) : Wf (plainN n).s := by
 unfold plainN;split
 · exact h
 ·
  repeat (split; exact wf_zero)
  exact wf_zero
theorem one_low (n : Nd) (w : World) (h : n.k < 0) : Calls Tryz.prog 77 #[NV n] w fun e w' => e = .returned (.bool false) ∧ Below w.heap.size w w' := by
 (have h0B : decide (n.k < 0) = true := by simp; omega);go_enter Tryz.func77, Tryz.ntmps77;go_wp2;go_region;go_wp2;go_ret;exact ⟨rfl, ((Below.refl w.heap.size w).alloc (Nat.le_refl _) _).drew⟩
theorem one_high (n : Nd) (w : World) (h : 8 < n.k) : Calls Tryz.prog 77 #[NV n] w fun e w' => e = .returned (.bool false) ∧ Below w.heap.size w w' := by
 (have h0B : decide (n.k < 0) = false := by simp; omega);(have h8B : decide (8 < n.k) = true := by simp; omega);go_enter Tryz.func77, Tryz.ntmps77;go_wp2;go_region;go_wp2;go_ret;exact ⟨rfl, ((Below.refl w.heap.size w).alloc (Nat.le_refl _) _).drew⟩
theorem one_ne (n : Nd) (w : World) (h0 : 0 ≤ n.k) (h8 : n.k ≤ 8) (hw : Wf n.s) (hne : n ≠ plainN n) : Calls Tryz.prog 77 #[NV n] w fun e w' => e = .returned (.bool false) ∧ Below w.heap.size w w' := by
 (have CP := fun W => plain_any n W);(have HQ := fun W => run_eqN n (plainN n) hw (wf_plain hw) W);have HB : ∀ W, (binOp .neq 55 (NV n) (NV (plainN n))).run Tryz.prog W = .ok (.bool true) W := fun W => by
  rw [run_neq_struct, HQ, decide_eq_false hne]; rfl
 (have h0B : decide ((n).k < 0) = false := by simp; omega);(have h8B : decide (8 < (n).k) = false := by simp; omega);(have HG : ∀ x y W, (eqGuard .neq 55 x y (NV n) (NV (plainN n))).run Tryz.prog W = .ok () W := fun x y W => run_eqGuard_agg W _ _ _ _ _ _ (by kernel_rfl));generalize NV (plainN n) = v at CP HB HG;clear HQ;go_enter Tryz.func77, Tryz.ntmps77;go_wp2;have HN0 : NB (w.alloc (Obj.cells (NC n) 55)) w.heap.size n := heap_alloc_new _ _;have HA0 := (Below.refl w.heap.size w).alloc (Nat.le_refl _) (Obj.cells (NC n) 55);have HS0 := NB.held (w0 := w) HN0 HA0
 go_region_held3 (fun w' => NH w w' w.heap.size n)
  (first
   | exact HS0.drew
   | assumption
   | exact NH.below (by assumption) (by assumption))
  (first
   | (go_at_call 100; refine (CP _).mono ?_; rintro e w' ⟨rfl, hbl⟩))
 rename_i hH;have hH2 := Lib.hid hH;obtain ⟨q0, q1, q2, q3, q4, q5, q6, q7, q8, q9, _⟩ := hH;clear HS0 HA0 HN0;go_wp2;go_ret;exact ⟨rfl, hH2.out.2.2.2.2.2.2.2.2.2.2⟩
theorem one_0  (w : World)  : Calls Tryz.prog 77 #[NV ⟨0, z4, 0, 0, 0, 0, 0⟩] w fun e w' => e = .returned (.bool (decide (OneN ⟨0, z4, 0, 0, 0, 0, 0⟩))) ∧ Below w.heap.size w w' := by
 (have CP := fun W => plain_any ⟨0, z4, 0, 0, 0, 0, 0⟩ W);have hpl : plainN ⟨0, z4, 0, 0, 0, 0, 0⟩ = ⟨0, z4, 0, 0, 0, 0, 0⟩ := rfl;(have HQ := fun W => run_eqN ⟨0, z4, 0, 0, 0, 0, 0⟩ (plainN ⟨0, z4, 0, 0, 0, 0, 0⟩) (by first | exact wf_zero | assumption) (by first | exact wf_zero | assumption) W);have HB : ∀ W, (binOp .neq 55 (NV ⟨0, z4, 0, 0, 0, 0, 0⟩) (NV (plainN ⟨0, z4, 0, 0, 0, 0, 0⟩))).run Tryz.prog W = .ok (.bool false) W := fun W => by
  rw [run_neq_struct, HQ, hpl, decide_eq_true rfl]; rfl
 clear hpl;(have HG : ∀ x y W, (eqGuard .neq 55 x y (NV ⟨0, z4, 0, 0, 0, 0, 0⟩) (NV (plainN ⟨0, z4, 0, 0, 0, 0, 0⟩))).run Tryz.prog W = .ok () W := fun x y W => run_eqGuard_agg W _ _ _ _ _ _ (by kernel_rfl));generalize NV (plainN ⟨0, z4, 0, 0, 0, 0, 0⟩) = v at CP HB HG;clear HQ;go_enter Tryz.func77, Tryz.ntmps77;go_wp2;have HN0 : NB (w.alloc (Obj.cells (NC ⟨0, z4, 0, 0, 0, 0, 0⟩) 55)) w.heap.size ⟨0, z4, 0, 0, 0, 0, 0⟩ := heap_alloc_new _ _;have HA0 := (Below.refl w.heap.size w).alloc (Nat.le_refl _) (Obj.cells (NC ⟨0, z4, 0, 0, 0, 0, 0⟩) 55);have HS0 := NB.held (w0 := w) HN0 HA0
 go_region_held3 (fun w' => NH w w' w.heap.size ⟨0, z4, 0, 0, 0, 0, 0⟩)
  (first
   | exact HS0.drew
   | assumption
   | exact NH.below (by assumption) (by assumption))
  (first
   | (go_at_call 100; refine (CP _).mono ?_; rintro e w' ⟨rfl, hbl⟩))
 rename_i hH;have hH2 := Lib.hid hH;obtain ⟨q0, q1, q2, q3, q4, q5, q6, q7, q8, q9, _⟩ := hH;clear HS0 HA0 HN0;go_wp2;(all_goals go_ret);(all_goals refine ⟨ret1 (congrArg Value.bool ?_), hH2.out.2.2.2.2.2.2.2.2.2.2⟩);all_goals first
  | (rw [decide_eq_decide]; unfold OneN; simp; done)
  | (rw [decide_eq_decide]; unfold OneN; simp; omega)
  | (symm; rw [decide_eq_false_iff_not]; unfold OneN; simp; done)
  | (symm; rw [decide_eq_false_iff_not]; unfold OneN; simp; omega)
  | (symm; rw [decide_eq_true_iff]; unfold OneN; simp; done)
  | (symm; rw [decide_eq_true_iff]; unfold OneN; simp; omega)
  | (rw [Bool.eq_iff_iff]; unfold OneN; simp; omega)
theorem one_2  (w : World)  : Calls Tryz.prog 77 #[NV ⟨2, z4, 0, 0, 0, 0, 0⟩] w fun e w' => e = .returned (.bool (decide (OneN ⟨2, z4, 0, 0, 0, 0, 0⟩))) ∧ Below w.heap.size w w' := by
 (have CP := fun W => plain_any ⟨2, z4, 0, 0, 0, 0, 0⟩ W);have hpl : plainN ⟨2, z4, 0, 0, 0, 0, 0⟩ = ⟨2, z4, 0, 0, 0, 0, 0⟩ := rfl;(have HQ := fun W => run_eqN ⟨2, z4, 0, 0, 0, 0, 0⟩ (plainN ⟨2, z4, 0, 0, 0, 0, 0⟩) (by first | exact wf_zero | assumption) (by first | exact wf_zero | assumption) W);have HB : ∀ W, (binOp .neq 55 (NV ⟨2, z4, 0, 0, 0, 0, 0⟩) (NV (plainN ⟨2, z4, 0, 0, 0, 0, 0⟩))).run Tryz.prog W = .ok (.bool false) W := fun W => by
  rw [run_neq_struct, HQ, hpl, decide_eq_true rfl]; rfl
 clear hpl;(have HG : ∀ x y W, (eqGuard .neq 55 x y (NV ⟨2, z4, 0, 0, 0, 0, 0⟩) (NV (plainN ⟨2, z4, 0, 0, 0, 0, 0⟩))).run Tryz.prog W = .ok () W := fun x y W => run_eqGuard_agg W _ _ _ _ _ _ (by kernel_rfl));generalize NV (plainN ⟨2, z4, 0, 0, 0, 0, 0⟩) = v at CP HB HG;clear HQ;go_enter Tryz.func77, Tryz.ntmps77;go_wp2;have HN0 : NB (w.alloc (Obj.cells (NC ⟨2, z4, 0, 0, 0, 0, 0⟩) 55)) w.heap.size ⟨2, z4, 0, 0, 0, 0, 0⟩ := heap_alloc_new _ _;have HA0 := (Below.refl w.heap.size w).alloc (Nat.le_refl _) (Obj.cells (NC ⟨2, z4, 0, 0, 0, 0, 0⟩) 55);have HS0 := NB.held (w0 := w) HN0 HA0
 go_region_held3 (fun w' => NH w w' w.heap.size ⟨2, z4, 0, 0, 0, 0, 0⟩)
  (first
   | exact HS0.drew
   | assumption
   | exact NH.below (by assumption) (by assumption))
  (first
   | (go_at_call 100; refine (CP _).mono ?_; rintro e w' ⟨rfl, hbl⟩))
 rename_i hH;have hH2 := Lib.hid hH;obtain ⟨q0, q1, q2, q3, q4, q5, q6, q7, q8, q9, _⟩ := hH;clear HS0 HA0 HN0;go_wp2;(all_goals go_ret);(all_goals refine ⟨ret1 (congrArg Value.bool ?_), hH2.out.2.2.2.2.2.2.2.2.2.2⟩);all_goals first
  | (rw [decide_eq_decide]; unfold OneN; simp; done)
  | (rw [decide_eq_decide]; unfold OneN; simp; omega)
  | (symm; rw [decide_eq_false_iff_not]; unfold OneN; simp; done)
  | (symm; rw [decide_eq_false_iff_not]; unfold OneN; simp; omega)
  | (symm; rw [decide_eq_true_iff]; unfold OneN; simp; done)
  | (symm; rw [decide_eq_true_iff]; unfold OneN; simp; omega)
  | (rw [Bool.eq_iff_iff]; unfold OneN; simp; omega)
theorem one_3  (w : World)  : Calls Tryz.prog 77 #[NV ⟨3, z4, 0, 0, 0, 0, 0⟩] w fun e w' => e = .returned (.bool (decide (OneN ⟨3, z4, 0, 0, 0, 0, 0⟩))) ∧ Below w.heap.size w w' := by
 (have CP := fun W => plain_any ⟨3, z4, 0, 0, 0, 0, 0⟩ W);have hpl : plainN ⟨3, z4, 0, 0, 0, 0, 0⟩ = ⟨3, z4, 0, 0, 0, 0, 0⟩ := rfl;(have HQ := fun W => run_eqN ⟨3, z4, 0, 0, 0, 0, 0⟩ (plainN ⟨3, z4, 0, 0, 0, 0, 0⟩) (by first | exact wf_zero | assumption) (by first | exact wf_zero | assumption) W);have HB : ∀ W, (binOp .neq 55 (NV ⟨3, z4, 0, 0, 0, 0, 0⟩) (NV (plainN ⟨3, z4, 0, 0, 0, 0, 0⟩))).run Tryz.prog W = .ok (.bool false) W := fun W => by
  rw [run_neq_struct, HQ, hpl, decide_eq_true rfl]; rfl
 clear hpl;(have HG : ∀ x y W, (eqGuard .neq 55 x y (NV ⟨3, z4, 0, 0, 0, 0, 0⟩) (NV (plainN ⟨3, z4, 0, 0, 0, 0, 0⟩))).run Tryz.prog W = .ok () W := fun x y W => run_eqGuard_agg W _ _ _ _ _ _ (by kernel_rfl));generalize NV (plainN ⟨3, z4, 0, 0, 0, 0, 0⟩) = v at CP HB HG;clear HQ;go_enter Tryz.func77, Tryz.ntmps77;go_wp2;have HN0 : NB (w.alloc (Obj.cells (NC ⟨3, z4, 0, 0, 0, 0, 0⟩) 55)) w.heap.size ⟨3, z4, 0, 0, 0, 0, 0⟩ := heap_alloc_new _ _;have HA0 := (Below.refl w.heap.size w).alloc (Nat.le_refl _) (Obj.cells (NC ⟨3, z4, 0, 0, 0, 0, 0⟩) 55);have HS0 := NB.held (w0 := w) HN0 HA0
 go_region_held3 (fun w' => NH w w' w.heap.size ⟨3, z4, 0, 0, 0, 0, 0⟩)
  (first
   | exact HS0.drew
   | assumption
   | exact NH.below (by assumption) (by assumption))
  (first
   | (go_at_call 100; refine (CP _).mono ?_; rintro e w' ⟨rfl, hbl⟩))
 rename_i hH;have hH2 := Lib.hid hH;obtain ⟨q0, q1, q2, q3, q4, q5, q6, q7, q8, q9, _⟩ := hH;clear HS0 HA0 HN0;go_wp2;(all_goals go_ret);(all_goals refine ⟨ret1 (congrArg Value.bool ?_), hH2.out.2.2.2.2.2.2.2.2.2.2⟩);all_goals first
  | (rw [decide_eq_decide]; unfold OneN; simp; done)
  | (rw [decide_eq_decide]; unfold OneN; simp; omega)
  | (symm; rw [decide_eq_false_iff_not]; unfold OneN; simp; done)
  | (symm; rw [decide_eq_false_iff_not]; unfold OneN; simp; omega)
  | (symm; rw [decide_eq_true_iff]; unfold OneN; simp; done)
  | (symm; rw [decide_eq_true_iff]; unfold OneN; simp; omega)
  | (rw [Bool.eq_iff_iff]; unfold OneN; simp; omega)
theorem one_4 (a b : Int) (w : World)  : Calls Tryz.prog 77 #[NV ⟨4, z4, a, b, 0, 0, 0⟩] w fun e w' => e = .returned (.bool (decide (OneN ⟨4, z4, a, b, 0, 0, 0⟩))) ∧ Below w.heap.size w w' := by
 (have CP := fun W => plain_any ⟨4, z4, a, b, 0, 0, 0⟩ W);have hpl : plainN ⟨4, z4, a, b, 0, 0, 0⟩ = ⟨4, z4, a, b, 0, 0, 0⟩ := rfl;(have HQ := fun W => run_eqN ⟨4, z4, a, b, 0, 0, 0⟩ (plainN ⟨4, z4, a, b, 0, 0, 0⟩) (by first | exact wf_zero | assumption) (by first | exact wf_zero | assumption) W);have HB : ∀ W, (binOp .neq 55 (NV ⟨4, z4, a, b, 0, 0, 0⟩) (NV (plainN ⟨4, z4, a, b, 0, 0, 0⟩))).run Tryz.prog W = .ok (.bool false) W := fun W => by
  rw [run_neq_struct, HQ, hpl, decide_eq_true rfl]; rfl
 clear hpl;(have HG : ∀ x y W, (eqGuard .neq 55 x y (NV ⟨4, z4, a, b, 0, 0, 0⟩) (NV (plainN ⟨4, z4, a, b, 0, 0, 0⟩))).run Tryz.prog W = .ok () W := fun x y W => run_eqGuard_agg W _ _ _ _ _ _ (by kernel_rfl));generalize NV (plainN ⟨4, z4, a, b, 0, 0, 0⟩) = v at CP HB HG;clear HQ;go_enter Tryz.func77, Tryz.ntmps77;go_wp2;have HN0 : NB (w.alloc (Obj.cells (NC ⟨4, z4, a, b, 0, 0, 0⟩) 55)) w.heap.size ⟨4, z4, a, b, 0, 0, 0⟩ := heap_alloc_new _ _;have HA0 := (Below.refl w.heap.size w).alloc (Nat.le_refl _) (Obj.cells (NC ⟨4, z4, a, b, 0, 0, 0⟩) 55);have HS0 := NB.held (w0 := w) HN0 HA0
 go_region_held3 (fun w' => NH w w' w.heap.size ⟨4, z4, a, b, 0, 0, 0⟩)
  (first
   | exact HS0.drew
   | assumption
   | exact NH.below (by assumption) (by assumption))
  (first
   | (go_at_call 100; refine (CP _).mono ?_; rintro e w' ⟨rfl, hbl⟩))
 rename_i hH;have hH2 := Lib.hid hH;obtain ⟨q0, q1, q2, q3, q4, q5, q6, q7, q8, q9, _⟩ := hH;clear HS0 HA0 HN0;go_wp2;(all_goals go_ret);(all_goals refine ⟨ret1 (congrArg Value.bool ?_), hH2.out.2.2.2.2.2.2.2.2.2.2⟩);all_goals first
  | (rw [decide_eq_decide]; unfold OneN; simp; done)
  | (rw [decide_eq_decide]; unfold OneN; simp; omega)
  | (symm; rw [decide_eq_false_iff_not]; unfold OneN; simp; done)
  | (symm; rw [decide_eq_false_iff_not]; unfold OneN; simp; omega)
  | (symm; rw [decide_eq_true_iff]; unfold OneN; simp; done)
  | (symm; rw [decide_eq_true_iff]; unfold OneN; simp; omega)
  | (rw [Bool.eq_iff_iff]; unfold OneN; simp; omega)
theorem one_5 (a b : Int) (w : World)  : Calls Tryz.prog 77 #[NV ⟨5, z4, a, b, 0, 0, 0⟩] w fun e w' => e = .returned (.bool (decide (OneN ⟨5, z4, a, b, 0, 0, 0⟩))) ∧ Below w.heap.size w w' := by
 (have CP := fun W => plain_any ⟨5, z4, a, b, 0, 0, 0⟩ W);have hpl : plainN ⟨5, z4, a, b, 0, 0, 0⟩ = ⟨5, z4, a, b, 0, 0, 0⟩ := rfl;(have HQ := fun W => run_eqN ⟨5, z4, a, b, 0, 0, 0⟩ (plainN ⟨5, z4, a, b, 0, 0, 0⟩) (by first | exact wf_zero | assumption) (by first | exact wf_zero | assumption) W);have HB : ∀ W, (binOp .neq 55 (NV ⟨5, z4, a, b, 0, 0, 0⟩) (NV (plainN ⟨5, z4, a, b, 0, 0, 0⟩))).run Tryz.prog W = .ok (.bool false) W := fun W => by
  rw [run_neq_struct, HQ, hpl, decide_eq_true rfl]; rfl
 clear hpl;(have HG : ∀ x y W, (eqGuard .neq 55 x y (NV ⟨5, z4, a, b, 0, 0, 0⟩) (NV (plainN ⟨5, z4, a, b, 0, 0, 0⟩))).run Tryz.prog W = .ok () W := fun x y W => run_eqGuard_agg W _ _ _ _ _ _ (by kernel_rfl));generalize NV (plainN ⟨5, z4, a, b, 0, 0, 0⟩) = v at CP HB HG;clear HQ;go_enter Tryz.func77, Tryz.ntmps77;go_wp2;have HN0 : NB (w.alloc (Obj.cells (NC ⟨5, z4, a, b, 0, 0, 0⟩) 55)) w.heap.size ⟨5, z4, a, b, 0, 0, 0⟩ := heap_alloc_new _ _;have HA0 := (Below.refl w.heap.size w).alloc (Nat.le_refl _) (Obj.cells (NC ⟨5, z4, a, b, 0, 0, 0⟩) 55);have HS0 := NB.held (w0 := w) HN0 HA0
 go_region_held3 (fun w' => NH w w' w.heap.size ⟨5, z4, a, b, 0, 0, 0⟩)
  (first
   | exact HS0.drew
   | assumption
   | exact NH.below (by assumption) (by assumption))
  (first
   | (go_at_call 100; refine (CP _).mono ?_; rintro e w' ⟨rfl, hbl⟩))
 rename_i hH;have hH2 := Lib.hid hH;obtain ⟨q0, q1, q2, q3, q4, q5, q6, q7, q8, q9, _⟩ := hH;clear HS0 HA0 HN0;go_wp2;(all_goals go_ret);(all_goals refine ⟨ret1 (congrArg Value.bool ?_), hH2.out.2.2.2.2.2.2.2.2.2.2⟩);all_goals first
  | (rw [decide_eq_decide]; unfold OneN; simp; done)
  | (rw [decide_eq_decide]; unfold OneN; simp; omega)
  | (symm; rw [decide_eq_false_iff_not]; unfold OneN; simp; done)
  | (symm; rw [decide_eq_false_iff_not]; unfold OneN; simp; omega)
  | (symm; rw [decide_eq_true_iff]; unfold OneN; simp; done)
  | (symm; rw [decide_eq_true_iff]; unfold OneN; simp; omega)
  | (rw [Bool.eq_iff_iff]; unfold OneN; simp; omega)
theorem one_6 (a mn mx : Int) (w : World)  : Calls Tryz.prog 77 #[NV ⟨6, z4, a, 0, mn, mx, 0⟩] w fun e w' => e = .returned (.bool (decide (OneN ⟨6, z4, a, 0, mn, mx, 0⟩))) ∧ Below w.heap.size w w' := by
 (have CP := fun W => plain_any ⟨6, z4, a, 0, mn, mx, 0⟩ W);have hpl : plainN ⟨6, z4, a, 0, mn, mx, 0⟩ = ⟨6, z4, a, 0, mn, mx, 0⟩ := rfl;(have HQ := fun W => run_eqN ⟨6, z4, a, 0, mn, mx, 0⟩ (plainN ⟨6, z4, a, 0, mn, mx, 0⟩) (by first | exact wf_zero | assumption) (by first | exact wf_zero | assumption) W);have HB : ∀ W, (binOp .neq 55 (NV ⟨6, z4, a, 0, mn, mx, 0⟩) (NV (plainN ⟨6, z4, a, 0, mn, mx, 0⟩))).run Tryz.prog W = .ok (.bool false) W := fun W => by
  rw [run_neq_struct, HQ, hpl, decide_eq_true rfl]; rfl
 clear hpl;(have HG : ∀ x y W, (eqGuard .neq 55 x y (NV ⟨6, z4, a, 0, mn, mx, 0⟩) (NV (plainN ⟨6, z4, a, 0, mn, mx, 0⟩))).run Tryz.prog W = .ok () W := fun x y W => run_eqGuard_agg W _ _ _ _ _ _ (by kernel_rfl));generalize NV (plainN ⟨6, z4, a, 0, mn, mx, 0⟩) = v at CP HB HG;clear HQ;go_enter Tryz.func77, Tryz.ntmps77;go_wp2;have HN0 : NB (w.alloc (Obj.cells (NC ⟨6, z4, a, 0, mn, mx, 0⟩) 55)) w.heap.size ⟨6, z4, a, 0, mn, mx, 0⟩ := heap_alloc_new _ _;have HA0 := (Below.refl w.heap.size w).alloc (Nat.le_refl _) (Obj.cells (NC ⟨6, z4, a, 0, mn, mx, 0⟩) 55);have HS0 := NB.held (w0 := w) HN0 HA0
 go_region_held3 (fun w' => NH w w' w.heap.size ⟨6, z4, a, 0, mn, mx, 0⟩)
  (first
   | exact HS0.drew
   | assumption
   | exact NH.below (by assumption) (by assumption))
  (first
   | (go_at_call 100; refine (CP _).mono ?_; rintro e w' ⟨rfl, hbl⟩))
 rename_i hH;have hH2 := Lib.hid hH;obtain ⟨q0, q1, q2, q3, q4, q5, q6, q7, q8, q9, _⟩ := hH;clear HS0 HA0 HN0;go_wp2;(all_goals go_ret);(all_goals refine ⟨ret1 (congrArg Value.bool ?_), hH2.out.2.2.2.2.2.2.2.2.2.2⟩);all_goals first
  | (rw [decide_eq_decide]; unfold OneN; simp; done)
  | (rw [decide_eq_decide]; unfold OneN; simp; omega)
  | (symm; rw [decide_eq_false_iff_not]; unfold OneN; simp; done)
  | (symm; rw [decide_eq_false_iff_not]; unfold OneN; simp; omega)
  | (symm; rw [decide_eq_true_iff]; unfold OneN; simp; done)
  | (symm; rw [decide_eq_true_iff]; unfold OneN; simp; omega)
  | (rw [Bool.eq_iff_iff]; unfold OneN; simp; omega)
theorem one_7 (a m : Int) (w : World)  : Calls Tryz.prog 77 #[NV ⟨7, z4, a, 0, 0, 0, m⟩] w fun e w' => e = .returned (.bool (decide (OneN ⟨7, z4, a, 0, 0, 0, m⟩))) ∧ Below w.heap.size w w' := by
 (have CP := fun W => plain_any ⟨7, z4, a, 0, 0, 0, m⟩ W);have hpl : plainN ⟨7, z4, a, 0, 0, 0, m⟩ = ⟨7, z4, a, 0, 0, 0, m⟩ := rfl;(have HQ := fun W => run_eqN ⟨7, z4, a, 0, 0, 0, m⟩ (plainN ⟨7, z4, a, 0, 0, 0, m⟩) (by first | exact wf_zero | assumption) (by first | exact wf_zero | assumption) W);have HB : ∀ W, (binOp .neq 55 (NV ⟨7, z4, a, 0, 0, 0, m⟩) (NV (plainN ⟨7, z4, a, 0, 0, 0, m⟩))).run Tryz.prog W = .ok (.bool false) W := fun W => by
  rw [run_neq_struct, HQ, hpl, decide_eq_true rfl]; rfl
 clear hpl;(have HG : ∀ x y W, (eqGuard .neq 55 x y (NV ⟨7, z4, a, 0, 0, 0, m⟩) (NV (plainN ⟨7, z4, a, 0, 0, 0, m⟩))).run Tryz.prog W = .ok () W := fun x y W => run_eqGuard_agg W _ _ _ _ _ _ (by kernel_rfl));generalize NV (plainN ⟨7, z4, a, 0, 0, 0, m⟩) = v at CP HB HG;clear HQ;go_enter Tryz.func77, Tryz.ntmps77;go_wp2;have HN0 : NB (w.alloc (Obj.cells (NC ⟨7, z4, a, 0, 0, 0, m⟩) 55)) w.heap.size ⟨7, z4, a, 0, 0, 0, m⟩ := heap_alloc_new _ _;have HA0 := (Below.refl w.heap.size w).alloc (Nat.le_refl _) (Obj.cells (NC ⟨7, z4, a, 0, 0, 0, m⟩) 55);have HS0 := NB.held (w0 := w) HN0 HA0
 go_region_held3 (fun w' => NH w w' w.heap.size ⟨7, z4, a, 0, 0, 0, m⟩)
  (first
   | exact HS0.drew
   | assumption
   | exact NH.below (by assumption) (by assumption))
  (first
   | (go_at_call 100; refine (CP _).mono ?_; rintro e w' ⟨rfl, hbl⟩))
 rename_i hH;have hH2 := Lib.hid hH;obtain ⟨q0, q1, q2, q3, q4, q5, q6, q7, q8, q9, _⟩ := hH;clear HS0 HA0 HN0;go_wp2;(all_goals go_ret);(all_goals refine ⟨ret1 (congrArg Value.bool ?_), hH2.out.2.2.2.2.2.2.2.2.2.2⟩);all_goals first
  | (rw [decide_eq_decide]; unfold OneN; simp; done)
  | (rw [decide_eq_decide]; unfold OneN; simp; omega)
  | (symm; rw [decide_eq_false_iff_not]; unfold OneN; simp; done)
  | (symm; rw [decide_eq_false_iff_not]; unfold OneN; simp; omega)
  | (symm; rw [decide_eq_true_iff]; unfold OneN; simp; done)
  | (symm; rw [decide_eq_true_iff]; unfold OneN; simp; omega)
  | (rw [Bool.eq_iff_iff]; unfold OneN; simp; omega)
theorem one_8 (m : Int) (w : World)  : Calls Tryz.prog 77 #[NV ⟨8, z4, 0, 0, 0, 0, m⟩] w fun e w' => e = .returned (.bool (decide (OneN ⟨8, z4, 0, 0, 0, 0, m⟩))) ∧ Below w.heap.size w w' := by
 (have CP := fun W => plain_any ⟨8, z4, 0, 0, 0, 0, m⟩ W);have hpl : plainN ⟨8, z4, 0, 0, 0, 0, m⟩ = ⟨8, z4, 0, 0, 0, 0, m⟩ := rfl;(have HQ := fun W => run_eqN ⟨8, z4, 0, 0, 0, 0, m⟩ (plainN ⟨8, z4, 0, 0, 0, 0, m⟩) (by first | exact wf_zero | assumption) (by first | exact wf_zero | assumption) W);have HB : ∀ W, (binOp .neq 55 (NV ⟨8, z4, 0, 0, 0, 0, m⟩) (NV (plainN ⟨8, z4, 0, 0, 0, 0, m⟩))).run Tryz.prog W = .ok (.bool false) W := fun W => by
  rw [run_neq_struct, HQ, hpl, decide_eq_true rfl]; rfl
 clear hpl;(have HG : ∀ x y W, (eqGuard .neq 55 x y (NV ⟨8, z4, 0, 0, 0, 0, m⟩) (NV (plainN ⟨8, z4, 0, 0, 0, 0, m⟩))).run Tryz.prog W = .ok () W := fun x y W => run_eqGuard_agg W _ _ _ _ _ _ (by kernel_rfl));generalize NV (plainN ⟨8, z4, 0, 0, 0, 0, m⟩) = v at CP HB HG;clear HQ;go_enter Tryz.func77, Tryz.ntmps77;go_wp2;have HN0 : NB (w.alloc (Obj.cells (NC ⟨8, z4, 0, 0, 0, 0, m⟩) 55)) w.heap.size ⟨8, z4, 0, 0, 0, 0, m⟩ := heap_alloc_new _ _;have HA0 := (Below.refl w.heap.size w).alloc (Nat.le_refl _) (Obj.cells (NC ⟨8, z4, 0, 0, 0, 0, m⟩) 55);have HS0 := NB.held (w0 := w) HN0 HA0
 go_region_held3 (fun w' => NH w w' w.heap.size ⟨8, z4, 0, 0, 0, 0, m⟩)
  (first
   | exact HS0.drew
   | assumption
   | exact NH.below (by assumption) (by assumption))
  (first
   | (go_at_call 100; refine (CP _).mono ?_; rintro e w' ⟨rfl, hbl⟩))
 rename_i hH;have hH2 := Lib.hid hH;obtain ⟨q0, q1, q2, q3, q4, q5, q6, q7, q8, q9, _⟩ := hH;clear HS0 HA0 HN0;go_wp2;(all_goals go_ret);(all_goals refine ⟨ret1 (congrArg Value.bool ?_), hH2.out.2.2.2.2.2.2.2.2.2.2⟩);all_goals first
  | (rw [decide_eq_decide]; unfold OneN; simp; done)
  | (rw [decide_eq_decide]; unfold OneN; simp; omega)
  | (symm; rw [decide_eq_false_iff_not]; unfold OneN; simp; done)
  | (symm; rw [decide_eq_false_iff_not]; unfold OneN; simp; omega)
  | (symm; rw [decide_eq_true_iff]; unfold OneN; simp; done)
  | (symm; rw [decide_eq_true_iff]; unfold OneN; simp; omega)
  | (rw [Bool.eq_iff_iff]; unfold OneN; simp; omega)
theorem one_1 (s : List Nat) (w : World) (hs : Wf s) : Calls Tryz.prog 77 #[NV ⟨1, s, 0, 0, 0, 0, 0⟩] w fun e w' => e = .returned (.bool (decide (OneN ⟨1, s, 0, 0, 0, 0, 0⟩))) ∧ Below w.heap.size w w' := by
 (have CP := fun W => plain_any ⟨1, s, 0, 0, 0, 0, 0⟩ W);have hpl : plainN ⟨1, s, 0, 0, 0, 0, 0⟩ = ⟨1, s, 0, 0, 0, 0, 0⟩ := rfl;(have HQ := fun W => run_eqN ⟨1, s, 0, 0, 0, 0, 0⟩ (plainN ⟨1, s, 0, 0, 0, 0, 0⟩) (by first | exact wf_zero | assumption) (by first | exact wf_zero | assumption) W);have HB : ∀ W, (binOp .neq 55 (NV ⟨1, s, 0, 0, 0, 0, 0⟩) (NV (plainN ⟨1, s, 0, 0, 0, 0, 0⟩))).run Tryz.prog W = .ok (.bool false) W := fun W => by
  rw [run_neq_struct, HQ, hpl, decide_eq_true rfl]; rfl
 clear hpl;(have HG : ∀ x y W, (eqGuard .neq 55 x y (NV ⟨1, s, 0, 0, 0, 0, 0⟩) (NV (plainN ⟨1, s, 0, 0, 0, 0, 0⟩))).run Tryz.prog W = .ok () W := fun x y W => run_eqGuard_agg W _ _ _ _ _ _ (by kernel_rfl));generalize NV (plainN ⟨1, s, 0, 0, 0, 0, 0⟩) = v at CP HB HG;clear HQ;go_enter Tryz.func77, Tryz.ntmps77;go_wp2;have HN0 : NB (w.alloc (Obj.cells (NC ⟨1, s, 0, 0, 0, 0, 0⟩) 55)) w.heap.size ⟨1, s, 0, 0, 0, 0, 0⟩ := heap_alloc_new _ _;have HA0 := (Below.refl w.heap.size w).alloc (Nat.le_refl _) (Obj.cells (NC ⟨1, s, 0, 0, 0, 0, 0⟩) 55);have HS0 := NB.held (w0 := w) HN0 HA0
 go_region_held3 (fun w' => NH w w' w.heap.size ⟨1, s, 0, 0, 0, 0, 0⟩)
  (first
   | exact HS0.drew
   | assumption
   | exact NH.below (by assumption) (by assumption))
  (first
   | (go_at_call 100; refine (CP _).mono ?_; rintro e w' ⟨rfl, hbl⟩))
 rename_i hH;have hH2 := Lib.hid hH;obtain ⟨q0, q1, q2, q3, q4, q5, q6, q7, q8, q9, _⟩ := hH;clear HS0 HA0 HN0;have HO := Lib.hid (show decide (OneN ⟨1, s, 0, 0, 0, 0, 0⟩) = !decide (s = z4) from by
  by_cases h : s = z4
  · subst h; rw [decide_eq_true rfl]; show decide _ = false; rw [decide_eq_false_iff_not]; unfold OneN; simp
  · rw [decide_eq_false h]; show decide _ = true; rw [decide_eq_true_iff]; unfold OneN; simp [h])
 have H4 : ∀ W, (Op.equalIn 10000 53 (.agg #[U (word s 0), U (word s 1), U (word s 2), U (word s 3)]) (.agg #[.int .u64 0, .int .u64 0, .int .u64 0, .int .u64 0])).run Tryz.prog W = .ok (decide (s = z4)) W := fun W => by
  have h := run_eq4g (word s 0) (word s 1) (word s 2) (word s 3) 0 0 0 0 9998 W;rw [show (decide (word s 0 = 0 ∧ word s 1 = 0 ∧ word s 2 = 0 ∧ word s 3 = 0)) = decide (s = z4) from by
   rw [decide_eq_decide]; exact (word_eq hs wf_zero).symm] at h
  exact h
 generalize decide (s = z4) = b at H4 HO;go_wp2;go_ret;exact ⟨by rw [HO.out]; exact ret1 rfl, hH2.out.2.2.2.2.2.2.2.2.2.2⟩
theorem one_fields {n : Nd} (h : plainN n = n) (h0 : 0 ≤ n.k) (h8 : n.k ≤ 8) :
  (∃ s, n = ⟨1, s, 0, 0, 0, 0, 0⟩) ∨ n = ⟨0, z4, 0, 0, 0, 0, 0⟩ ∨ n = ⟨2, z4, 0, 0, 0, 0, 0⟩ ∨ n = ⟨3, z4, 0, 0, 0, 0, 0⟩ ∨ (∃ a b, n = ⟨4, z4, a, b, 0, 0, 0⟩) ∨ (∃ a b, n = ⟨5, z4, a, b, 0, 0, 0⟩) ∨ (∃ a mn mx, n = ⟨6, z4, a, 0, mn, mx, 0⟩) ∨ (∃ a m, n = ⟨7, z4, a, 0, 0, 0, m⟩) ∨ (∃ m, n = ⟨8, z4, 0, 0, 0, 0, m⟩) := by
 obtain ⟨k, s, a, b, mn, mx, m⟩ := n;dsimp only at h0 h8;(have hk : k = 0 ∨ k = 1 ∨ k = 2 ∨ k = 3 ∨ k = 4 ∨ k = 5 ∨ k = 6 ∨ k = 7 ∨ k = 8 := by omega);rcases hk with rfl | rfl | rfl | rfl | rfl | rfl | rfl | rfl | rfl <;> (rw [← h]; unfold plainN; simp)
theorem one_plain {n : Nd} (h : OneN n) : plainN n = n := by
 obtain ⟨k, s, a, b, mn, mx, m⟩ := n;unfold OneN at h;dsimp only at h;rcases h with ⟨hk, rfl, rfl, rfl, rfl, rfl, rfl⟩ | ⟨rfl, hs, rfl, rfl, rfl, rfl, rfl⟩ | ⟨hk, rfl, rfl, rfl, rfl⟩ | ⟨rfl, rfl, rfl, rfl, h6, h7, h8⟩ | ⟨rfl, rfl, rfl, rfl, rfl, h6, h7⟩ | ⟨rfl, rfl, rfl, rfl, rfl, rfl, h6, h7⟩
 · rcases hk with rfl | rfl | rfl <;> rfl
 · rfl
 · rcases hk with rfl | rfl <;> rfl
 · rfl
 · rfl
 · rfl
theorem one_kind {n : Nd} (h : OneN n) : 0 ≤ n.k ∧ n.k ≤ 8 := by
 unfold OneN at h; omega
theorem one_any (n : Nd) (w : World) (hw : Wf n.s) : Calls Tryz.prog 77 #[NV n] w fun e w' => e = .returned (.bool (decide (OneN n))) ∧ Below w.heap.size w w' := by
 by_cases hl : n.k < 0
 · rw [decide_eq_false (fun h => by have := one_kind h; omega)]; exact one_low n w hl
 by_cases hh : 8 < n.k
 · rw [decide_eq_false (fun h => by have := one_kind h; omega)]; exact one_high n w hh
 by_cases hp : n = plainN n
 ·
  rcases one_fields hp.symm (by omega) (by omega) with ⟨s, rfl⟩ | rfl | rfl | rfl | ⟨a, b, rfl⟩ | ⟨a, b, rfl⟩ | ⟨a, mn, mx, rfl⟩ | ⟨a, m, rfl⟩ | ⟨m, rfl⟩
  · exact one_1 s w hw
  · exact one_0 w
  · exact one_2 w
  · exact one_3 w
  · exact one_4 a b w
  · exact one_5 a b w
  · exact one_6 a mn mx w
  · exact one_7 a m w
  · exact one_8 m w
 · rw [decide_eq_false (fun h => hp (one_plain h).symm)];exact one_ne n w (by omega) (by omega) hw hp
/-- A node's ten cells from an offset on. -/
abbrev NCell (w : World) (b o : Nat) (n : Nd) : Prop :=
 w.cell? ⟨b, o, none⟩ = some (E n.k) ∧ w.cell? ⟨b, o + 1, none⟩ = some (U (word n.s 0)) ∧ w.cell? ⟨b, o + 2, none⟩ = some (U (word n.s 1)) ∧ w.cell? ⟨b, o + 3, none⟩ = some (U (word n.s 2)) ∧ w.cell? ⟨b, o + 4, none⟩ = some (U (word n.s 3)) ∧
 w.cell? ⟨b, o + 5, none⟩ = some (E n.a) ∧ w.cell? ⟨b, o + 6, none⟩ = some (E n.b) ∧ w.cell? ⟨b, o + 7, none⟩ = some (E n.mn) ∧ w.cell? ⟨b, o + 8, none⟩ = some (E n.mx) ∧ w.cell? ⟨b, o + 9, none⟩ = some (E n.n)
theorem NCell.below {w w' : World} {b o : Nat} {n : Nd} (h : NCell w b o n) (hb : Below w.heap.size w w') : NCell w' b o n := by
 obtain ⟨h0, h1, h2, h3, h4, h5, h6, h7, h8, h9⟩ := h;exact ⟨(hb.cell (lt_cell h0)).trans h0, (hb.cell (lt_cell h1)).trans h1, (hb.cell (lt_cell h2)).trans h2, (hb.cell (lt_cell h3)).trans h3, (hb.cell (lt_cell h4)).trans h4, (hb.cell (lt_cell h5)).trans h5, (hb.cell (lt_cell h6)).trans h6, (hb.cell (lt_cell h7)).trans h7, (hb.cell (lt_cell h8)).trans h8, (hb.cell (lt_cell h9)).trans h9⟩
/-- Nodes in memory. -/
def Ns (w : World) (v : Value) (l : List Nd) : Prop := ∃ (ao : Option Addr) (c : Nat), v = .slice ao l.length c ∧ ∀ (i : Nat) (h : i < l.length), ∃ b o, ao = some ⟨b, o, none⟩ ∧ NCell w b (o + i * 10) l[i]
theorem Ns.below {w w' : World} {v : Value} {l : List Nd} (h : Ns w v l) (hb : Below w.heap.size w w') : Ns w' v l := by
 obtain ⟨ao, c, rfl, hc⟩ := h;refine ⟨ao, c, rfl, fun i hi => ?_⟩;obtain ⟨b, o, ha, h⟩ := hc i hi;exact ⟨b, o, ha, h.below hb⟩
theorem Ns.at {w : World} {ao : Option Addr} {n c : Nat} {l : List Nd} (h : Ns w (.slice ao n c) l) {i : Nat} (hi : i < l.length) : ∃ b o, ao = some ⟨b, o, none⟩ ∧ NCell w b (o + i * 10) l[i] := by
 obtain ⟨ao', c', e, hc⟩ := h;simp only [Value.slice.injEq] at e;obtain ⟨rfl, rfl, rfl⟩ := e;exact hc i hi
theorem kind_at {l : List Nd} {j : Nat} (h : j < l.length) : kindAt l (j : Int) = l[j].k := by
 unfold kindAt; rw [Int.toNat_natCast, List.getElem?_eq_getElem h]; rfl
theorem fits_other (v : Value) (n : Nd) (w : World) (h4 : (n.k == 4) = false) (h5 : (n.k == 5) = false) (h6 : (n.k == 6) = false) :
  Calls Tryz.prog 78 #[v, NV n] w fun e w' => e = .returned (.bool true) ∧ Below w.heap.size w w' := by
 go_enter Tryz.func78, Tryz.ntmps78;go_wp2;go_ret;exact ⟨rfl, (Below.refl w.heap.size w).alloc (Nat.le_refl _) _⟩
theorem fits_4 (b0 o L c : Nat) (s : List Nat) (j i : Nat) (mn mx m k1 k2 : Int) (w : World) (hj : (j : Int) < (L : Int)) (hi : (i : Int) < (L : Int)) (h1 : w.cell? ⟨b0, o + j * 10, none⟩ = some (E k1)) (h2 : w.cell? ⟨b0, o + i * 10, none⟩ = some (E k2)) :
  Calls Tryz.prog 78 #[.slice (some ⟨b0, o, none⟩) L c, NV ⟨4, s, (j : Nat), (i : Nat), mn, mx, m⟩] w fun e w' => e = .returned (.bool (decide (k1 ≠ 4 ∧ k1 ≠ 5 ∧ k2 ≠ 5))) ∧ Below w.heap.size w w' := by
 (have hj0 : (0 : Int) ≤ (j : Int) := by omega);(have hi0 : (0 : Int) ≤ (i : Int) := by omega);have h1' := ((Below.refl w.heap.size w).alloc (Nat.le_refl _) (Obj.cells (NC ⟨4, s, (j : Nat), (i : Nat), mn, mx, m⟩) 55)).cell (lt_cell h1) |>.trans h1;have h2' := ((Below.refl w.heap.size w).alloc (Nat.le_refl _) (Obj.cells (NC ⟨4, s, (j : Nat), (i : Nat), mn, mx, m⟩) 55)).cell (lt_cell h2) |>.trans h2;go_enter Tryz.func78, Tryz.ntmps78;go_wp2;(all_goals go_ret);(all_goals refine ⟨ret1 (congrArg Value.bool ?_), (Below.refl w.heap.size w).alloc (Nat.le_refl _) _⟩);all_goals (rw [Bool.eq_iff_iff]; simp; try omega)
theorem fits_5 (b0 o L c : Nat) (s : List Nat) (j : Nat) (b mn mx m k1 : Int) (w : World) (hj : (j : Int) < (L : Int)) (h1 : w.cell? ⟨b0, o + j * 10, none⟩ = some (E k1)) :
  Calls Tryz.prog 78 #[.slice (some ⟨b0, o, none⟩) L c, NV ⟨5, s, (j : Nat), b, mn, mx, m⟩] w fun e w' => e = .returned (.bool (decide (k1 ≠ 5))) ∧ Below w.heap.size w w' := by
 (have hj0 : (0 : Int) ≤ (j : Int) := by omega);have h1' := ((Below.refl w.heap.size w).alloc (Nat.le_refl _) (Obj.cells (NC ⟨5, s, (j : Nat), b, mn, mx, m⟩) 55)).cell (lt_cell h1) |>.trans h1;go_enter Tryz.func78, Tryz.ntmps78;go_wp2;(all_goals go_ret);(all_goals refine ⟨ret1 (congrArg Value.bool ?_), (Below.refl w.heap.size w).alloc (Nat.le_refl _) _⟩);all_goals (rw [Bool.eq_iff_iff]; simp; try omega)
theorem cell_of {w : World} {b : Nat} {c : Array Value} {t : TypeId} {f : Nat × Nat} (h : w.heap[b]? = some (.cells c t f)) (i : Nat) : w.cell? ⟨b, i, none⟩ = c[i]? := by
 simp only [World.cell?, h]; rfl
theorem cells178 (w : World) (t : TypeId) (B : Nat) (hB : B = w.heap.size) : ∀ j, j < [(1 : Int), 7, 8].length → (w.alloc (Obj.cells #[E 1, E 7, E 8] t)).cell? ⟨B, 0 + j, none⟩ = some (.int .i64 ([(1 : Int), 7, 8].getD j 0)) := by
 subst hB;intro j hj;rw [cell_of (heap_alloc_new w (Obj.cells #[E 1, E 7, E 8] t))]
 match j, hj with
 | 0, _ => rfl
 | 1, _ => rfl
 | 2, _ => rfl
theorem fits_6 (b0 o L c : Nat) (s : List Nat) (j : Nat) (b mn mx m k1 : Int) (w : World) (hj : (j : Int) < (L : Int)) (h1 : w.cell? ⟨b0, o + j * 10, none⟩ = some (E k1)) :
  Calls Tryz.prog 78 #[.slice (some ⟨b0, o, none⟩) L c, NV ⟨6, s, (j : Nat), b, mn, mx, m⟩] w fun e w' => e = .returned (.bool (decide (k1 = 1 ∨ k1 = 7 ∨ k1 = 8))) ∧ Below w.heap.size w w' := by
 (have hj0 : (0 : Int) ≤ (j : Int) := by omega);have h1' := ((Below.refl w.heap.size w).alloc (Nat.le_refl _) (Obj.cells (NC ⟨6, s, (j : Nat), b, mn, mx, m⟩) 55)).cell (lt_cell h1) |>.trans h1;have HC := Lib.hid (Tryz.slices_Contains_int (w.heap.size + 1) 0 3 3 [1, 7, 8] k1 ((w.alloc (Obj.cells (NC ⟨6, s, (j : Nat), b, mn, mx, m⟩) 55)).alloc (Obj.cells #[E 1, E 7, E 8] 3)) (by simp) (by simp) (cells178 _ _ _ (by simp)));have h1'' := ((((Below.refl w.heap.size w).alloc (Nat.le_refl _) (Obj.cells (NC ⟨6, s, (j : Nat), b, mn, mx, m⟩) 55)).alloc (by simp) (Obj.cells #[E 1, E 7, E 8] 3)).cell (lt_cell h1)).trans h1;go_enter Tryz.func78, Tryz.ntmps78;go_wp2_with (go_at_call 101; refine HC.out.mono ?_; rintro e w' ⟨rfl, rfl⟩);go_ret;refine ⟨ret1 (congrArg Value.bool ?_), ((Below.refl w.heap.size w).alloc (Nat.le_refl _) _).alloc (by simp) _⟩;rw [Bool.eq_iff_iff]; simp
theorem fits_any (ao : Option Addr) (c : Nat) (l : List Nd) (n : Nd) (w : World) (h : Ns w (.slice ao l.length c) l) (ha : n.k = 4 ∨ n.k = 5 ∨ n.k = 6 → ∃ j, j < l.length ∧ n.a = (j : Nat)) (hb : n.k = 4 → ∃ j, j < l.length ∧ n.b = (j : Nat)) :
  Calls Tryz.prog 78 #[.slice ao l.length c, NV n] w fun e w' => e = .returned (.bool (decide (Fits l n))) ∧ Below w.heap.size w w' := by
 obtain ⟨k, s, a, b, mn, mx, m⟩ := n;dsimp only at ha hb;by_cases h4 : k = 4
 ·
  subst h4;obtain ⟨j, hj, rfl⟩ := ha (Or.inl rfl);obtain ⟨i, hi, rfl⟩ := hb rfl;obtain ⟨p, o, rfl, hp⟩ := h.at hj;obtain ⟨q, o', e, hq⟩ := h.at hi;simp only [Option.some.injEq, Addr.mk.injEq, and_true] at e;obtain ⟨rfl, rfl⟩ := e;rw [show decide (Fits l ⟨4, s, (j : Nat), (i : Nat), mn, mx, m⟩) = decide (l[j].k ≠ 4 ∧ l[j].k ≠ 5 ∧ l[i].k ≠ 5) from by
   rw [decide_eq_decide]; unfold Fits; rw [if_pos rfl, kind_at hj, kind_at hi]]
  exact fits_4 p o l.length c s j i mn mx m _ _ w (by omega) (by omega) hp.1 hq.1
 by_cases h5 : k = 5
 ·
  subst h5;obtain ⟨j, hj, rfl⟩ := ha (Or.inr (Or.inl rfl));obtain ⟨p, o, rfl, hp⟩ := h.at hj;rw [show decide (Fits l ⟨5, s, (j : Nat), b, mn, mx, m⟩) = decide (l[j].k ≠ 5) from by
   rw [decide_eq_decide]; unfold Fits; dsimp only; rw [if_neg (by decide), if_pos rfl, kind_at hj]]
  exact fits_5 p o l.length c s j b mn mx m _ w (by omega) hp.1
 by_cases h6 : k = 6
 ·
  subst h6;obtain ⟨j, hj, rfl⟩ := ha (Or.inr (Or.inr rfl));obtain ⟨p, o, rfl, hp⟩ := h.at hj;rw [show decide (Fits l ⟨6, s, (j : Nat), b, mn, mx, m⟩) = decide (l[j].k = 1 ∨ l[j].k = 7 ∨ l[j].k = 8) from by
   rw [decide_eq_decide]; unfold Fits; dsimp only; rw [if_neg (by decide), if_neg (by decide), if_pos rfl, kind_at hj]]
  exact fits_6 p o l.length c s j b mn mx m _ w (by omega) hp.1
 rw [decide_eq_true (show Fits l ⟨k, s, a, b, mn, mx, m⟩ from by unfold Fits; dsimp only; rw [if_neg h4, if_neg h5, if_neg h6]; trivial)];exact fits_other _ ⟨k, s, a, b, mn, mx, m⟩ w (by simpa using h4) (by simpa using h5) (by simpa using h6)
theorem own_ge {w : World} {B e n : Nat} {v : Value} {xs : List Value} {z : Nat} (h : w.ownsRow B e z v n xs) : ∀ k, v.ownBlock = some k → B ≤ k := by
 intro k hk;rcases h.2 with ⟨hv, _⟩ | ⟨g, cap, cur, hv, hb, _⟩
 · subst hv; cases hk
 · subst hv;(have : g = k := by simpa [Value.ownBlock] using hk);omega
theorem lt_heap {w : World} {g : Nat} {o : Obj} (h : w.heap[g]? = some o) : g < w.heap.size := (Array.getElem?_eq_some_iff.1 h).1
theorem own_below {w w' : World} {B e n z : Nat} {v : Value} {xs : List Value} (h : w.ownsRow B e z v n xs) (hb : Below w.heap.size w w') : w'.ownsRow B e z v n xs := by
 refine ⟨h.1, ?_⟩;rcases h.2 with hv | ⟨g, cap, cur, hv, h1, h2, h3⟩
 · exact Or.inl hv
 · exact Or.inr ⟨g, cap, cur, hv, h1, (hb.block g (lt_heap h2)).trans h2, h3⟩
/-- The head of a slice owns the head of its cells. -/
theorem own_take {w : World} {B e n z g cap : Nat} {xs : List Value} (h : w.ownsRow B e z (.slice (some ⟨g, 0, none⟩) n cap) n xs) {m : Nat} (hm : m ≤ n) : w.ownsRow B e z (.slice (some ⟨g, 0, none⟩) m cap) m (xs.take (m * z)) := by
 obtain ⟨hl, h⟩ := h;rcases h with ⟨hv, _⟩ | ⟨g', cap', cur, hv, h1, h2, h3, h4, h5, h6⟩
 · cases hv
 simp only [Value.slice.injEq, true_and, Option.some.injEq, Addr.mk.injEq, and_true] at hv;obtain ⟨rfl, rfl⟩ := hv;refine ⟨?_, Or.inr ⟨g, cap, cur, rfl, h1, h2, by omega, h4, h5, ?_⟩⟩
 · rw [List.length_take, hl]; exact Nat.min_eq_left (Nat.mul_le_mul_right z hm)
 · rw [← h6, List.take_take]; congr 1; exact (Nat.min_eq_left (Nat.mul_le_mul_right z hm)).symm
theorem own_forms {w : World} {B e n z : Nat} {v : Value} {xs : List Value} (h : w.ownsRow B e z v n xs) : (v = .slice none 0 0 ∧ n = 0) ∨ ∃ g cap, v = .slice (some ⟨g, 0, none⟩) n cap ∧ n ≤ cap := by
 rcases h.2 with ⟨hv, h0⟩ | ⟨g, cap, cur, hv, _, _, h3, _⟩
 · exact Or.inl ⟨hv, h0⟩
 · exact Or.inr ⟨g, cap, hv, h3⟩
theorem one_cell {w : World} {g : Nat} {x : Value} {t : TypeId} {fz : Nat × Nat} (h : w.heap[g]? = some (.cells #[x] t fz)) : ∀ j u, [x][j]? = some u → w.cell? ((⟨g, 0, none⟩ : Addr).add j) = some u := by
 intro j u hj
 match j, hj with
 | 0, hj =>
  rw [Addr.add_lit, Lib.cell_of_heap h];simpa using hj
abbrev PT (k : Nat) : Value := .pointer (some ⟨k, 0, none⟩)
theorem lt_heap' {w : World} {g : Nat} {o : Obj} (h : w.heap[g]? = some o) : g < w.heap.size := (Array.getElem?_eq_some_iff.1 h).1
def Fz (n : Nat) := Code.region n
theorem at_world {p : World → Prop} {P : Program} {c : Code} {Q : Exit → Act → World → Prop} {a : Act} {W : World} (h : p W) (g : ∀ W', p W' → Code.wp P c Q a W') : Code.wp P c Q a W := g W h
end Go.Proofs.YtlicoffnjphphaaGreatDoor.Rx
namespace Go.Proofs.YtlicoffnjphphaaGreatDoor.Mt
open Go.RowKit Go.Shelf
open Go.Proofs.YtlicoffnjphphaaGreatDoor.Rx
open Go.Proofs.YtlicoffnjphphaaGreatDoor.Rx.Tr
open Go.Proofs.YtlicoffnjphphaaGreatDoor.St (Wf word mem)
/-- A row is laid, at a step of a region that draws. -/
theorem step_store_row {P : Program} {w : World} {ops : Array Oper} {o : Oper} {a : Act} {K : Act → World → Prop} {Q : Exit → Act → World → Prop} {E : Prop} (hgd : o.guard = none) (ty : TypeId) (x y : Operand) (ho : o.op = .store ty x y)
  (g : Nat) (cells : Array Value) (hx : a.eval x = .pointer (some ⟨g, 0, none⟩)) (hy : a.eval y = .agg cells)
  (t : TypeId) (old : Array Value) (hg : w.heap[g]? = some (.cells old t (0, 0))) (hi : (P.info? ty).map (·.size) = some cells.size)
  (hold : old.size = cells.size) (h1 : cells.all (·.oneCell') = true)
  (h : K (a.put o.dst undef) (w.setRow g cells)) : if Region.wanted o (yielded ops a.tmps) = true then Oper.wp P o a w K Q else E := by
 rw [if_pos (by simp [Region.wanted, hgd])];exact wp_store_row ty x y ho g cells hx hy t old hg hi hold h1 h
/-- A row is loaded, at a step of a region that draws. -/
theorem exec_load_row {P : Program} {o : Oper} {a : Act} {w : World} (ty : TypeId) (x : Operand) (ho : o.op = .load ty x)
  (g : Nat) (hx : a.eval x = .pointer (some ⟨g, 0, none⟩)) (t : TypeId) (cs : Array Value) (fr : Nat × Nat) (d : TypeDesc) (hg : w.heap[g]? = some (.cells cs t fr))
  (hu : P.underlying ty = some d) (hd : (match d with | .struct _ | .array _ _ => true | _ => false) = true) (hi : (P.info? ty).map (·.size) = some cs.size) :
  (execOp a.eval o).run P w = .ok (.value (.agg cs)) w := by
 unfold execOp;simp only [ho, hx, Instr.loadAt, Instr.sureAddr, Sem.run_bind, Sem.run_pure, Result.andThen_ok, run_loadVar_row w g t ty cs fr d hg hu hd hi]
/-- A part of a row is loaded, at a step of a region that draws. -/
theorem exec_load_mid {P : Program} {op : Oper} {a : Act} {w : World} (ty : TypeId) (x : Operand) (ho : op.op = .load ty x)
  (b o : Nat) (hx : a.eval x = .pointer (some ⟨b, o, none⟩)) (cs : List Value) (d : TypeDesc) (hc : w.rangeAt b o cs)
  (hu : P.underlying ty = some d) (hd : d.isRow = true) (hi : (P.info? ty).map (·.size) = some cs.length) :
  (execOp a.eval op).run P w = .ok (.value (.agg cs.toArray)) w := by
 unfold execOp;simp only [ho, hx, Instr.loadAt, Instr.sureAddr, Sem.run_bind, Sem.run_pure, Result.andThen_ok, run_loadVar_mid w b o ty cs d hc hu hd hi]
/-- A part of a row that is known whole. -/
theorem range_part {w : World} {g o : Nat} {pre cs post : List Value} {t : TypeId} {fr : Nat × Nat} (h : w.heap[g]? = some (.cells (pre ++ cs ++ post).toArray t fr)) (ho : pre.length = o) : w.rangeAt g o cs := fun j v hv => by
 subst ho;rw [Lib.cell_of_heap h];have hl := (List.getElem?_eq_some_iff.1 hv).1;simp only [List.getElem?_toArray];rw [List.append_assoc, List.getElem?_append_right (by omega), show pre.length + j - pre.length = j by omega, List.getElem?_append_left hl];exact hv
abbrev CZ : Array Value := #[.complex .f64 0 0, .complex .f64 0 0, .complex .f64 0 0, .complex .f64 0 0, .complex .f64 0 0, .complex .f64 0 0, .complex .f64 0 0, .complex .f64 0 0, .complex .f64 0 0, .complex .f64 0 0]
theorem res_caps {fn : Func} {p u : Tmp} (h : fn.results = #[.cell p 27, .tmp u]) {tmps : Array Value} {w : World} {g : Nat} {c : Caps} {v : Value} (hp : tmps.getD p undef = PT g) (hg : w.heap[g]? = some (.cells (CC c) 27 (0, 0))) (hu : tmps.getD u undef = v) :
  (results fn tmps).run Tryz.prog w = .ok (.tuple #[CV c, v]) w := by
 rw [results_cell_tmp h, hp, hu];have := run_loadVar_row (P := Tryz.prog) w g 27 27 (CC c) (0, 0) _ hg Tryz.underlying27 rfl (by kernel_rfl);rw [show (asAddr (PT g)).run Tryz.prog w = .ok ⟨g, 0, none⟩ w from rfl];simp only [Result.andThen];rw [this]
theorem cap_one : ∀ x : Cap, (capV x).oneCell' = true := fun x => by cases x with
 | none => rfl
 | some q => rfl
theorem cc_one (c : Caps) : (CC c).all (·.oneCell') = true := by
 have h : ∀ x : Cap, (capV x).oneCell' = true := fun x => by cases x with
  | none => rfl
  | some q => rfl
 simp [h]
abbrev CB (w : World) (g : Nat) (c : Caps) : Prop := w.heap[g]? = some (.cells (CC c) 27 (0, 0))
theorem node_cells {w : World} {g : Nat} {nd : Nd} (h : w.heap[g]? = some (.cells (NC nd) 55 (0, 0))) :
  w.cell? ⟨g, 0, none⟩ = some (E nd.k) ∧ w.cell? ⟨g, 1, none⟩ = some (U (word nd.s 0)) ∧ w.cell? ⟨g, 2, none⟩ = some (U (word nd.s 1)) ∧ w.cell? ⟨g, 3, none⟩ = some (U (word nd.s 2)) ∧ w.cell? ⟨g, 4, none⟩ = some (U (word nd.s 3)) ∧
   w.cell? ⟨g, 5, none⟩ = some (E nd.a) ∧ w.cell? ⟨g, 6, none⟩ = some (E nd.b) ∧ w.cell? ⟨g, 7, none⟩ = some (E nd.mn) ∧ w.cell? ⟨g, 8, none⟩ = some (E nd.mx) ∧ w.cell? ⟨g, 9, none⟩ = some (E nd.n) :=
 ⟨(Lib.cell_of_heap h 0).trans rfl, (Lib.cell_of_heap h 1).trans rfl, (Lib.cell_of_heap h 2).trans rfl, (Lib.cell_of_heap h 3).trans rfl, (Lib.cell_of_heap h 4).trans rfl, (Lib.cell_of_heap h 5).trans rfl, (Lib.cell_of_heap h 6).trans rfl, (Lib.cell_of_heap h 7).trans rfl, (Lib.cell_of_heap h 8).trans rfl, (Lib.cell_of_heap h 9).trans rfl⟩
theorem cap_cell {w : World} {g : Nat} {c : Caps} {n : Nat} (h : CB w g c) (hn : n < 10) : w.cell? ⟨g, n, none⟩ = some (capV (gr c n)) := by
 rw [Lib.cell_of_heap h n]
 match n, hn with
 | 0, _ => rfl
 | 1, _ => rfl
 | 2, _ => rfl
 | 3, _ => rfl
 | 4, _ => rfl
 | 5, _ => rfl
 | 6, _ => rfl
 | 7, _ => rfl
 | 8, _ => rfl
 | 9, _ => rfl
theorem box_laid (wr : World) (a : Caps) : (wr.alloc (.cells CZ 27)).setRow wr.heap.size (CC a) = wr.alloc (.cells (CC a) 27) := World.setRow_alloc_new wr CZ (CC a) 27
/-- The first of i + m - 1, .., i for which f gives something. -/
def dn {α : Type} (f : Nat → Option α) (i : Nat) : Nat → Option α
 | 0 => none
 | m + 1 => match f (i + m) with
  | some a => some a
  | none => dn f i m
theorem down_dn {α : Type} (f : Nat → Option α) (i : Nat) : ∀ n, down f i n = dn f i (n + 1)
 | 0 => by
  show f i = dn f i 1;unfold dn;rw [show f (i + 0) = f i from rfl];cases f i <;> rfl
 | n + 1 => by
  rw [down, down_dn f i n, dn.eq_def f i (n + 1 + 1)];rfl
theorem dn_succ {α : Type} (f : Nat → Option α) (i m : Nat) : dn f i (m + 1) = match f (i + m) with
  | some a => some a
  | none => dn f i m := by rw [dn.eq_def]
theorem cut_same (T : List UInt8) (p q i j : Nat) : (cutC T (some (p, q)) == ((ByteArray.mk T.toArray).extract i j).toList) = decide (cutT T p q = cutT T i j) := by
 rw [ext_cut, Go.ByteArray.toList_mk, Bool.eq_iff_iff, beq_iff_eq, decide_eq_true_eq];exact Iff.rfl
theorem store_complex (P : Program) (w : World) (b o : Nat) (x y : Nat) {v : Value} (h1 : w.cell? ⟨b, o, none⟩ = some v) (h2 : w.frozen? ⟨b, o, none⟩ = false) : (store ⟨b, o, none⟩ (.complex .f64 x y)).run P w = .ok () (w.setCell ⟨b, o, none⟩ (.complex .f64 x y)) := by
 rw [run_store P w _ _ _ rfl, h1];simp [h2]
/-- What the whole pattern fits. -/
def wholeP (T : List UInt8) (t : Tr) (i j : Nat) : Option Caps := (fitP T t i j nones).map fun c => c.set 0 (some (i, j))
/-- What is answered: what groups have, and whether it fits. -/
def ansC (r : Option Caps) : Value := .tuple #[CV (r.getD nones), .bool r.isSome]
/-- The longest one that begins at a place. -/
def longP (T : List UInt8) (t : Tr) (i : Nat) : Option Caps := dn (fun j => wholeP T t i j) i (T.length + 1 - i)
theorem whole_ok {T : List UInt8} {t : Tr} {i j : Nat} (hij : i ≤ j) (hj : j ≤ T.length) {c : Caps} (h : wholeP T t i j = some c) : CapsOk T.length c := by
 unfold wholeP at h;cases hf : fitP T t i j nones with
 | none => rw [hf] at h; cases h
 | some a =>
  rw [hf] at h;cases h;exact (fit_ok t i j nones a hij hj (caps_none _) hf).set hij hj 0
theorem caps_cells {w : World} {g : Nat} {c : Caps} (h : CB w g c) : w.cell? ⟨g, 0, none⟩ = some (capV (gr c 0)) ∧ w.cell? ⟨g, 1, none⟩ = some (capV (gr c 1)) ∧ w.cell? ⟨g, 2, none⟩ = some (capV (gr c 2)) ∧ w.cell? ⟨g, 3, none⟩ = some (capV (gr c 3)) ∧ w.cell? ⟨g, 4, none⟩ = some (capV (gr c 4)) ∧ w.cell? ⟨g, 5, none⟩ = some (capV (gr c 5)) ∧ w.cell? ⟨g, 6, none⟩ = some (capV (gr c 6)) ∧ w.cell? ⟨g, 7, none⟩ = some (capV (gr c 7)) ∧ w.cell? ⟨g, 8, none⟩ = some (capV (gr c 8)) ∧ w.cell? ⟨g, 9, none⟩ = some (capV (gr c 9)) :=
 ⟨cap_cell h (by decide), cap_cell h (by decide), cap_cell h (by decide), cap_cell h (by decide), cap_cell h (by decide), cap_cell h (by decide), cap_cell h (by decide), cap_cell h (by decide), cap_cell h (by decide), cap_cell h (by decide)⟩
theorem dn_some {α : Type} {f : Nat → Option α} {i : Nat} {a : α} : ∀ {m : Nat}, dn f i m = some a → ∃ q, q < m ∧ f (i + q) = some a ∧ ∀ r, q < r → r < m → f (i + r) = none
 | 0, h => by cases h
 | m + 1, h => by
  rw [dn_succ] at h;cases hf : f (i + m) with
  | some b => rw [hf] at h; cases h; exact ⟨m, by omega, hf, fun r h1 h2 => by omega⟩
  | none =>
   rw [hf] at h;obtain ⟨q, h1, h2, h3⟩ := dn_some h;refine ⟨q, by omega, h2, fun r h4 h5 => ?_⟩;by_cases e : r = m
   · subst e; exact hf
   · exact h3 r h4 (by omega)
theorem dn_none {α : Type} {f : Nat → Option α} {i : Nat} : ∀ {m : Nat}, dn f i m = none → ∀ r, r < m → f (i + r) = none
 | 0, _, r, h => by omega
 | m + 1, h, r, hr => by
  rw [dn_succ] at h;cases hf : f (i + m) with
  | some b => rw [hf] at h; cases h
  | none =>
   rw [hf] at h;by_cases e : r = m
   · subst e; exact hf
   · exact dn_none h r (by omega)
def bcn (n : Nat) (f : Nat → Bool) : Array Value := (Array.range n).map fun j => .bool (f j)
abbrev RB (w : World) (g n : Nat) (f : Nat → Bool) : Prop := w.heap[g]? = some (.cells (bcn n f) 4 (0, 0))
abbrev SL (g n : Nat) : Value := .slice (some ⟨g, 0, none⟩) n n
theorem bcn_size (n : Nat) (f : Nat → Bool) : (bcn n f).size = n := by simp [bcn]
theorem bcn_at {n : Nat} (f : Nat → Bool) {i : Nat} (hi : i < n) : (bcn n f)[i]? = some (.bool (f i)) := by simp [bcn, hi]
theorem bcn_congr {n : Nat} {f g : Nat → Bool} (h : ∀ i, i < n → f i = g i) : bcn n f = bcn n g := by
 apply Array.ext
 · simp [bcn_size]
 · intro i h1 h2;(have hi : i < n := by rw [bcn_size] at h1; exact h1);have e1 := bcn_at f hi;have e2 := bcn_at g hi;rw [Array.getElem?_eq_getElem h1] at e1;rw [Array.getElem?_eq_getElem h2] at e2;rw [Option.some.inj e1, Option.some.inj e2, h i hi]
theorem bcn_set (n : Nat) (f : Nat → Bool) (k : Nat) (v : Bool) : (bcn n f).setIfInBounds k (.bool v) = bcn n (fun i => if i = k then v else f i) := by
 apply Array.ext_getElem?;intro i;by_cases hi : i < n
 ·
  rw [bcn_at _ hi];by_cases hk : k = i
  · subst hk;rw [Array.getElem?_setIfInBounds_self_of_lt (by rw [bcn_size]; exact hi)]; simp
  · rw [Array.getElem?_setIfInBounds_ne hk, bcn_at f hi, if_neg (fun e => hk e.symm)]
 · rw [Array.getElem?_eq_none (by rw [Array.size_setIfInBounds, bcn_size]; omega), Array.getElem?_eq_none (by rw [bcn_size]; omega)]
theorem RB.cell {w : World} {b n : Nat} {f : Nat → Bool} (h : RB w b n f) {i : Nat} (hi : i < n) : w.cell? ⟨b, i, none⟩ = some (.bool (f i)) := by
 rw [Lib.cell_of_heap h]; exact bcn_at f hi
theorem RB.fz {w : World} {b n : Nat} {f : Nat → Bool} (h : RB w b n f) (i : Nat) : w.frozen? ⟨b, i, none⟩ = false := by simp [World.frozen?, h]
theorem RB.put {w : World} {b n : Nat} {f g : Nat → Bool} (h : RB w b n f) {k : Nat} {v : Bool} (hg : ∀ i, i < n → g i = if i = k then v else f i) : RB (w.setCell ⟨b, k, none⟩ (.bool v)) b n g := by
 have := Go.Joins.block_setCell h (i := k) (.bool v);rw [bcn_set, bcn_congr (g := g) fun i hi => (hg i hi).symm] at this;exact this
theorem RB.congr {w : World} {b n : Nat} {f g : Nat → Bool} (h : RB w b n f) (hg : ∀ i, i < n → g i = f i) : RB w b n g := by
 rw [RB, bcn_congr hg]; exact h
theorem RB.keep {w w' : World} {b n : Nat} {f : Nat → Bool} (h : RB w b n f) (hk : w'.heap[b]? = w.heap[b]?) : RB w' b n f := hk.trans h
theorem RB.lt {w : World} {b n : Nat} {f : Nat → Bool} (h : RB w b n f) : b < w.heap.size := lt_heap' h
theorem infoB : (Tryz.prog.info? 4).map (fun i => (i.zero, i.size, i.bytes)) = some (some (.bool false), 1, 1) := by kernel_rfl
theorem bcn_made (n : Nat) : madeCells (Value.bool false).cells (n * 1) = bcn n (fun _ => false) := by
 unfold madeCells bcn;rw [Nat.mul_one];apply Array.map_congr_left;intro i _;simp [Value.cells, Nat.mod_one]
/-- A row is made. -/
theorem make_row (n : Nat) (hn : n ≤ 1000000) (w : World) : (Instr.makeSlice 111 (.int .i64 (n : Nat)) (.int .i64 (n : Nat))).run Tryz.prog w = .ok (SL w.heap.size n) (w.alloc (.cells (bcn n fun _ => false) 4)) := by
 obtain ⟨i0, hi, hz0, hz1, hz2⟩ := info_parts infoB;have := run_makeSlice (P := Tryz.prog) w 111 4 i0 _ Tryz.underlying111 hi hz0 .i64 .i64 (n : Int) (n : Int) (by omega) (by omega) (by rw [hz1]; omega) (by rw [hz2]; omega) (by omega);rw [Int.toNat_natCast, hz1, bcn_made] at this;exact this
end Go.Proofs.YtlicoffnjphphaaGreatDoor.Mt
namespace Go.Proofs.YtlicoffnjphphaaGreatDoor.Tk
section
variable {P : Program} {ops : Array Oper} {Q : Exit → Act → World → Prop} {md : Region.Mode} {S : World → Prop}
/-- Number i is taken first. -/
theorem t (i : Nat) {oi : Oper} {v : Value} {fuel : Nat} {listed : Array Bool} {a a' : Act} {w : World} (h : wpAnyH P md ops Q S fuel (listed.setIfInBounds i true) a' w)
  (hi : ops[i]? = some oi := by simp only [List.getElem?_toArray, List.getElem?_cons_succ, List.getElem?_cons_zero]; rfl)
  (hs : Region.noSelect ops = true := by kernel_rfl) (hf : Region.free md ops listed i = true := by kernel_rfl) (hr : (Region.ready md ops listed).contains i = true := by kernel_rfl)
  (hQ : ∀ c a w, Q (.panic c) (a.put oi.dst v) w → Q (.panic c) a w := by exact fun _ _ _ h => h)
  (hg : Region.wanted oi (yielded ops a.tmps) = true := by rfl)
  (hy : ∀ w, S w → (execOp a.eval oi).run P w = .ok (.value v) w := by (intro w hSw; (try dsimp only at hSw); go_simp) <;> with_reducible rfl)
  (hS : S w := by assumption)
  (ha : a.put oi.dst v = a' := by simp only [Act.put, List.setIfInBounds_toArray, List.set_cons_zero, List.set_cons_succ] <;> rfl) : wpAnyH P md ops Q S (fuel + 1) listed a w := by
 subst ha;exact wpAnyH_take hi hs hf hr hQ (Or.inl ⟨hg, hy⟩) hS h
/-- Number i is not wanted. -/
theorem p (i : Nat) {oi : Oper} {fuel : Nat} {listed : Array Bool} {a a' : Act} {w : World} (h : wpAnyH P md ops Q S fuel (listed.setIfInBounds i true) a' w)
  (hi : ops[i]? = some oi := by simp only [List.getElem?_toArray, List.getElem?_cons_succ, List.getElem?_cons_zero]; rfl)
  (hs : Region.noSelect ops = true := by kernel_rfl) (hf : Region.free md ops listed i = true := by kernel_rfl) (hr : (Region.ready md ops listed).contains i = true := by kernel_rfl)
  (hQ : ∀ c a w, Q (.panic c) (a.put oi.dst undef) w → Q (.panic c) a w := by exact fun _ _ _ h => h)
  (hg : Region.wanted oi (yielded ops a.tmps) = false := by rfl)
  (hS : S w := by assumption)
  (ha : a.put oi.dst undef = a' := by simp only [Act.put, List.setIfInBounds_toArray, List.set_cons_zero, List.set_cons_succ] <;> rfl) : wpAnyH P md ops Q S (fuel + 1) listed a w := by
 subst ha;exact wpAnyH_take hi hs hf hr hQ (Or.inr ⟨hg, rfl⟩) hS h
/-- Number i is taken first; what it reads is told. -/
theorem k {F : World → Prop} (hf : ∀ w, S w → F w) (i : Nat) {oi : Oper} {v : Value} {fuel : Nat} {listed : Array Bool} {a a' : Act} {w : World} (h : wpAnyH P md ops Q S fuel (listed.setIfInBounds i true) a' w)
  (hi : ops[i]? = some oi := by simp only [List.getElem?_toArray, List.getElem?_cons_succ, List.getElem?_cons_zero]; rfl)
  (hs : Region.noSelect ops = true := by kernel_rfl) (hff : Region.free md ops listed i = true := by kernel_rfl) (hr : (Region.ready md ops listed).contains i = true := by kernel_rfl)
  (hQ : ∀ c a w, Q (.panic c) (a.put oi.dst v) w → Q (.panic c) a w := by exact fun _ _ _ h => h)
  (hg : Region.wanted oi (yielded ops a.tmps) = true := by rfl)
  (hy : ∀ w, S w → F w → (execOp a.eval oi).run P w = .ok (.value v) w := by (intro w hSw hFw; (try dsimp only at hSw); (try dsimp only at hFw); go_simp) <;> with_reducible rfl)
  (hS : S w := by assumption)
  (ha : a.put oi.dst v = a' := by simp only [Act.put, List.setIfInBounds_toArray, List.set_cons_zero, List.set_cons_succ] <;> rfl) : wpAnyH P md ops Q S (fuel + 1) listed a w := by
 subst ha;exact wpAnyH_take hi hs hff hr hQ (Or.inl ⟨hg, fun w h => hy w h (hf w h)⟩) hS h
/-- Number i alone is ready. -/
theorem o (i : Nat) {o : Oper} {fuel : Nat} {listed : Array Bool} {a : Act} {w : World} (h : ∀ K' : Act → World → Prop, Shut (∀ a w, S w → (S w → wpAnyH P md ops Q S fuel (listed.setIfInBounds i true) a w) → K' a w) → if Region.wanted o (yielded ops a.tmps) = true then Oper.wp P o a w K' Q else K' (a.put o.dst undef) w) (hr : Region.ready md ops listed = [i] := by kernel_rfl)
  (ho : ops[i]? = some o := by simp only [List.getElem?_toArray, List.getElem?_cons_succ, List.getElem?_cons_zero]; rfl) : wpAnyH P md ops Q S (fuel + 1) listed a w :=
 wpAnyH_ready hr (List.cons_ne_nil _ _) (AllReadyH.cons ho h AllReadyH.nil)
/-- What is written is worked out. -/
theorem w {fuel : Nat} {listed : Array Bool} {a a' : Act} {w : World} (h : wpAnyH P md ops Q S fuel listed a' w) (ha : a = a' := by first | (simp only [Act.put, List.setIfInBounds_toArray, List.set_cons_zero, List.set_cons_succ] <;> rfl) | rfl) : wpAnyH P md ops Q S fuel listed a w := ha ▸ h
/-- All is taken. -/
theorem d {R : Exit → Act → World → Prop} {listed : Array Bool} {a : Act} {w : World} {fuel : Nat} (h : R .normal a w) (hr : Region.ready md ops listed = [] := by kernel_rfl) : wpAnyH P md ops (NoPanic R) S fuel listed a w := wpAnyH_done hr (NoPanic.normal h) _
end
end Go.Proofs.YtlicoffnjphphaaGreatDoor.Tk
