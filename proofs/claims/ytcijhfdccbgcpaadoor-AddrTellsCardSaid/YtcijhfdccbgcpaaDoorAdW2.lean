/- Addresses: May, to: the walks. -/
import Derived.Test.YtcijhfdccbgcpaaDoorAdW1
import Derived.Laws.StructEq
namespace Go.Proofs.YtcijhfdccbgcpaaDoor.Ad
open Go.RowKit Go.Shelf
set_option linter.unusedVariables false
set_option linter.unusedSimpArgs false
theorem lt_heap {w : World} {g : Nat} {o : Obj} (h : w.heap[g]? = some o) : g < w.heap.size := (Array.getElem?_eq_some_iff.1 h).1
abbrev RCt (t : TypeId) (w : World) (g : Nat) (a b : A3) (n : Bool) : Prop := w.heap[g]? = some (.cells #[E a.k, E a.n, E a.m, E b.k, E b.n, E b.m, .bool n] t (0, 0))
theorem RCt.cells {t : TypeId} {w : World} {g : Nat} {a b : A3} {n : Bool} (h : RCt t w g a b n) :
    w.cell? ⟨g, 0, none⟩ = some (E a.k) ∧ w.cell? ⟨g, 1, none⟩ = some (E a.n) ∧ w.cell? ⟨g, 2, none⟩ = some (E a.m) ∧ w.cell? ⟨g, 3, none⟩ = some (E b.k) ∧ w.cell? ⟨g, 4, none⟩ = some (E b.n) ∧ w.cell? ⟨g, 5, none⟩ = some (E b.m) ∧ w.cell? ⟨g, 6, none⟩ = some (.bool n) := by
  refine ⟨?_, ?_, ?_, ?_, ?_, ?_, ?_⟩ <;> (rw [Lib.cell_of_heap h]; rfl)
theorem RCt.lt {t : TypeId} {w : World} {g : Nat} {a b : A3} {n : Bool} (h : RCt t w g a b n) : g < w.heap.size := lt_heap h
theorem RCt.below {t : TypeId} {w w' : World} {g : Nat} {a b : A3} {n : Bool} (h : RCt t w g a b n) (hb : Below w.heap.size w w') : RCt t w' g a b n := (hb.block _ (lt_heap h)).trans h
theorem may_bool (a b : A3) : decide (May a b) = (decide (One a) && decide (One b) && decide (a.k ≤ 4) && !decide (b.k = 3) && (if a.k = 0 then decide (b.k = 0) else if a.k = 1 ∧ a.n = 0 ∧ a.m = 0 then decide (b.k = 4) else true)) := by
  by_cases h1 : One a
  · by_cases h2 : One b
    · rw [decide_eq_true h1, decide_eq_true h2]
      haveI : Decidable (a.k = 1 → a.n = 0 → b.k = 4) := inferInstance
      have e : May a b ↔ (a.k ≤ 4 ∧ b.k ≠ 3 ∧ (a.k = 0 → b.k = 0) ∧ (a.k = 1 → a.n = 0 → b.k = 4)) := by
        unfold May
        exact ⟨fun q => q.2.2, fun q => ⟨h1, h2, q⟩⟩
      rw [show decide (May a b) = decide (a.k ≤ 4 ∧ b.k ≠ 3 ∧ (a.k = 0 → b.k = 0) ∧ (a.k = 1 → a.n = 0 → b.k = 4)) from decide_eq_decide.2 e]
      unfold One at h1
      by_cases k0 : a.k = 0
      · rw [if_pos k0, Bool.eq_iff_iff]
        simp only [Bool.and_eq_true, decide_eq_true_eq, Bool.not_eq_true', decide_eq_false_iff_not, Bool.true_and]
        omega
      · rw [if_neg k0]
        by_cases k1 : a.k = 1 ∧ a.n = 0 ∧ a.m = 0
        · rw [if_pos k1, Bool.eq_iff_iff]
          simp only [Bool.and_eq_true, decide_eq_true_eq, Bool.not_eq_true', decide_eq_false_iff_not, Bool.true_and]
          omega
        · rw [if_neg k1, Bool.eq_iff_iff]
          simp only [Bool.and_eq_true, decide_eq_true_eq, Bool.not_eq_true', decide_eq_false_iff_not, Bool.true_and, and_true]
          omega
    · rw [decide_eq_false h2, decide_eq_false (fun q : May a b => h2 q.2.1)]
      simp
  · rw [decide_eq_false h1, decide_eq_false (fun q : May a b => h1 q.1)]
    simp
set_option maxRecDepth 100000 in
set_option maxHeartbeats 1600000 in
theorem may_any (a b : A3) (n : Bool) (w : World) : Calls Tryd.prog 18 #[RV a b n] w fun e w' => e = .returned (.bool (decide (May a b))) ∧ Below w.heap.size w w' := by
  have HA := Lib.hid (fun w => may_one a w)
  have HB := Lib.hid (fun w => may_one b w)
  have HM := Lib.hid (may_bool a b)
  have HG0 : Hid (RCt 25 (w.alloc (Obj.cells #[E a.k, E a.n, E a.m, E b.k, E b.n, E b.m, .bool n] 25)) w.heap.size a b n) := Lib.hid (heap_alloc_new _ _)
  have HB0 := Lib.hid ((Below.refl w.heap.size w).alloc (Nat.le_refl _) (Obj.cells #[E a.k, E a.n, E a.m, E b.k, E b.n, E b.m, .bool n] 25))
  obtain ⟨ak, an, am⟩ := a
  obtain ⟨bk, bn, bm⟩ := b
  generalize decide (One ⟨ak, an, am⟩) = x at *
  generalize decide (One ⟨bk, bn, bm⟩) = y at *
  generalize decide (May ⟨ak, an, am⟩ ⟨bk, bn, bm⟩) = r at *
  cases x
  · go_enter Tryd.func18, Tryd.ntmps18
    go_wp2_with (go_at_call 32; refine (HA.out _).mono ?_; rintro e w1 ⟨rfl, hb1⟩)
    go_ret
    exact ⟨by rw [HM.out]; exact ret1 (by simp), HB0.out.trans (hb1.mono HB0.out.size)⟩
  cases y
  · go_enter Tryd.func18, Tryd.ntmps18
    go_wp2_with (first
      | (go_at_call 32; have hb0 := HB0.out; clear HB0; refine (HA.out _).mono ?_; rintro e w1 ⟨rfl, hb1⟩; have HG1 := Lib.hid (HG0.out.below hb1); have HB1 := Lib.hid (hb0.trans (hb1.mono hb0.size)); clear hb0 hb1; obtain ⟨q0, q1, q2, q3, q4, q5, q6⟩ := HG1.out.cells)
      | (go_at_call 32; have hb0 := HB1.out; clear HB1; refine (HB.out _).mono ?_; rintro e w2 ⟨rfl, hb1⟩; have HG2 := Lib.hid (HG1.out.below hb1); have HB2 := Lib.hid (hb0.trans (hb1.mono hb0.size)); clear hb0 hb1; obtain ⟨p0, p1, p2, p3, p4, p5, p6⟩ := HG2.out.cells))
    go_ret
    exact ⟨by rw [HM.out]; exact ret1 (by simp), HB2.out⟩
  have hm := HM.out
  dsimp only at hm
  simp only [Bool.true_and] at hm
  clear HM
  by_cases h4 : 4 < ak
  · have HR := Lib.hid (show r = false from by rw [hm, decide_eq_false (by omega : ¬ ak ≤ 4)]; rfl)
    clear hm
    go_enter Tryd.func18, Tryd.ntmps18
    go_wp2_with (first
      | (go_at_call 32; have hb0 := HB0.out; clear HB0; refine (HA.out _).mono ?_; rintro e w1 ⟨rfl, hb1⟩; have HG1 := Lib.hid (HG0.out.below hb1); have HB1 := Lib.hid (hb0.trans (hb1.mono hb0.size)); clear hb0 hb1; obtain ⟨q0, q1, q2, q3, q4, q5, q6⟩ := HG1.out.cells)
      | (go_at_call 32; have hb0 := HB1.out; clear HB1; refine (HB.out _).mono ?_; rintro e w2 ⟨rfl, hb1⟩; have HG2 := Lib.hid (HG1.out.below hb1); have HB2 := Lib.hid (hb0.trans (hb1.mono hb0.size)); clear hb0 hb1; obtain ⟨p0, p1, p2, p3, p4, p5, p6⟩ := HG2.out.cells))
    all_goals go_ret
    all_goals exact ⟨by rw [HR.out]; exact ret1 rfl, HB2.out⟩
  rw [decide_eq_true (by omega : ak ≤ 4), Bool.true_and] at hm
  by_cases h3 : bk = 3
  · have HR := Lib.hid (show r = false from by rw [hm, decide_eq_true h3]; rfl)
    clear hm
    subst h3
    go_enter Tryd.func18, Tryd.ntmps18
    go_wp2_with (first
      | (go_at_call 32; have hb0 := HB0.out; clear HB0; refine (HA.out _).mono ?_; rintro e w1 ⟨rfl, hb1⟩; have HG1 := Lib.hid (HG0.out.below hb1); have HB1 := Lib.hid (hb0.trans (hb1.mono hb0.size)); clear hb0 hb1; obtain ⟨q0, q1, q2, q3, q4, q5, q6⟩ := HG1.out.cells)
      | (go_at_call 32; have hb0 := HB1.out; clear HB1; refine (HB.out _).mono ?_; rintro e w2 ⟨rfl, hb1⟩; have HG2 := Lib.hid (HG1.out.below hb1); have HB2 := Lib.hid (hb0.trans (hb1.mono hb0.size)); clear hb0 hb1; obtain ⟨p0, p1, p2, p3, p4, p5, p6⟩ := HG2.out.cells))
    all_goals go_ret
    all_goals exact ⟨by rw [HR.out]; exact ret1 rfl, HB2.out⟩
  rw [decide_eq_false h3, Bool.not_false, Bool.true_and] at hm
  have h3B : (bk == 3) = false := by rw [beq_eq_false_iff_ne]; exact h3
  by_cases k0 : ak = 0
  · have HR := Lib.hid (show r = (bk == 0) from by rw [hm, if_pos k0]; rfl)
    clear hm
    subst k0
    go_enter Tryd.func18, Tryd.ntmps18
    go_wp2_with (first
      | (go_at_call 32; have hb0 := HB0.out; clear HB0; refine (HA.out _).mono ?_; rintro e w1 ⟨rfl, hb1⟩; have HG1 := Lib.hid (HG0.out.below hb1); have HB1 := Lib.hid (hb0.trans (hb1.mono hb0.size)); clear hb0 hb1; obtain ⟨q0, q1, q2, q3, q4, q5, q6⟩ := HG1.out.cells)
      | (go_at_call 32; have hb0 := HB1.out; clear HB1; refine (HB.out _).mono ?_; rintro e w2 ⟨rfl, hb1⟩; have HG2 := Lib.hid (HG1.out.below hb1); have HB2 := Lib.hid (hb0.trans (hb1.mono hb0.size)); clear hb0 hb1; obtain ⟨p0, p1, p2, p3, p4, p5, p6⟩ := HG2.out.cells))
    all_goals go_ret
    all_goals exact ⟨by rw [HR.out]; exact ret1 rfl, HB2.out⟩
  rw [if_neg k0] at hm
  have k0B : (ak == 0) = false := by rw [beq_eq_false_iff_ne]; exact k0
  by_cases k1 : ak = 1 ∧ an = 0 ∧ am = 0
  · have HR := Lib.hid (show r = (bk == 4) from by rw [hm, if_pos k1]; rfl)
    clear hm
    obtain ⟨rfl, rfl, rfl⟩ := k1
    go_enter Tryd.func18, Tryd.ntmps18
    go_wp2_with (first
      | (go_at_call 32; have hb0 := HB0.out; clear HB0; refine (HA.out _).mono ?_; rintro e w1 ⟨rfl, hb1⟩; have HG1 := Lib.hid (HG0.out.below hb1); have HB1 := Lib.hid (hb0.trans (hb1.mono hb0.size)); clear hb0 hb1; obtain ⟨q0, q1, q2, q3, q4, q5, q6⟩ := HG1.out.cells)
      | (go_at_call 32; have hb0 := HB1.out; clear HB1; refine (HB.out _).mono ?_; rintro e w2 ⟨rfl, hb1⟩; have HG2 := Lib.hid (HG1.out.below hb1); have HB2 := Lib.hid (hb0.trans (hb1.mono hb0.size)); clear hb0 hb1; obtain ⟨p0, p1, p2, p3, p4, p5, p6⟩ := HG2.out.cells))
    all_goals go_ret
    all_goals exact ⟨by rw [HR.out]; exact ret1 rfl, HB2.out⟩
  · have HR := Lib.hid (show r = true from by rw [hm, if_neg k1])
    clear hm
    go_enter Tryd.func18, Tryd.ntmps18
    go_wp2_with (first
      | (go_at_call 32; have hb0 := HB0.out; clear HB0; refine (HA.out _).mono ?_; rintro e w1 ⟨rfl, hb1⟩; have HG1 := Lib.hid (HG0.out.below hb1); have HB1 := Lib.hid (hb0.trans (hb1.mono hb0.size)); clear hb0 hb1; obtain ⟨q0, q1, q2, q3, q4, q5, q6⟩ := HG1.out.cells)
      | (go_at_call 32; have hb0 := HB1.out; clear HB1; refine (HB.out _).mono ?_; rintro e w2 ⟨rfl, hb1⟩; have HG2 := Lib.hid (HG1.out.below hb1); have HB2 := Lib.hid (hb0.trans (hb1.mono hb0.size)); clear hb0 hb1; obtain ⟨p0, p1, p2, p3, p4, p5, p6⟩ := HG2.out.cells))
    all_goals go_ret
    all_goals exact ⟨by rw [HR.out]; exact ret1 rfl, HB2.out⟩
end Go.Proofs.YtcijhfdccbgcpaaDoor.Ad
