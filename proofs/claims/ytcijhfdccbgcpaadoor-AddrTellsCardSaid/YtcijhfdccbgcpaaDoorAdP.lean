/- Addresses: Print: the walk. -/
import Derived.Test.YtcijhfdccbgcpaaDoorAdT
import Derived.Laws.StructEq
namespace Go.Proofs.YtcijhfdccbgcpaaDoor.Ad
open Go.RowKit Go.Shelf
set_option linter.unusedVariables false
set_option linter.unusedSimpArgs false
theorem textA_len {a : A3} (h : One a) : (textA a).length ≤ 19 := by
  have hb : (0 ≤ a.n ∧ a.n ≤ 999999999) ∧ (0 ≤ a.m ∧ a.m ≤ 999999999) := by unfold One at h; omega
  have h1 := itoa_len hb.1.1 hb.1.2
  have h2 := itoa_len hb.2.1 hb.2.2
  unfold textA
  repeat' split
  all_goals simp
  all_goals omega
set_option maxRecDepth 100000 in
set_option maxHeartbeats 1600000 in
theorem print_no (a b : A3) (nt : Bool) (w : World) (hL : Lay w) (hm : ¬ May a b) :
    Calls Tryd.prog 13 #[RV a b nt] w fun e w' => e = .returned (.tuple #[S (printR a b nt).1, E (printR a b nt).2]) ∧ Below w.heap.size w w' := by
  have HL := Lib.hid hL
  have HG0 : Hid (RCt 25 (w.alloc (Obj.cells #[E a.k, E a.n, E a.m, E b.k, E b.n, E b.m, .bool nt] 25)) w.heap.size a b nt) := Lib.hid (heap_alloc_new _ _)
  have HB0 := Lib.hid ((Below.refl w.heap.size w).alloc (Nat.le_refl _) (Obj.cells #[E a.k, E a.n, E a.m, E b.k, E b.n, E b.m, .bool nt] 25))
  have HM := Lib.hid (fun w' => may_any a b nt w')
  have HO := Lib.hid (show printR a b nt = ([], 1) from by unfold printR; rw [if_neg hm])
  have hd := decide_eq_false hm
  rw [hd] at HM
  obtain ⟨ak, an, am⟩ := a
  obtain ⟨bk, bn, bm⟩ := b
  go_enter Tryd.func13, Tryd.ntmps13
  go_wp2_with (go_at_call 18; refine (HM.out _).mono ?_; rintro e w1 ⟨rfl, hb⟩; have HG1 := Lib.hid (HG0.out.below hb); have HB1 := Lib.hid (HB0.out.trans (hb.mono HB0.out.size)); clear hb; clear HB0; obtain ⟨q0, q1, q2, q3, q4, q5, q6⟩ := HG1.out.cells)
  go_ret2
  exact ⟨by rw [HO.out]; rfl, HB1.out⟩
set_option maxRecDepth 100000 in
set_option maxHeartbeats 1600000 in
theorem print_yes (a b : A3) (nt : Bool) (w : World) (hL : Lay w) (hm : May a b) :
    Calls Tryd.prog 13 #[RV a b nt] w fun e w' => e = .returned (.tuple #[S (printR a b nt).1, E (printR a b nt).2]) ∧ Below w.heap.size w w' := by
  have HL := Lib.hid hL
  have HG0 : Hid (RCt 25 (w.alloc (Obj.cells #[E a.k, E a.n, E a.m, E b.k, E b.n, E b.m, .bool nt] 25)) w.heap.size a b nt) := Lib.hid (heap_alloc_new _ _)
  have HB0 := Lib.hid ((Below.refl w.heap.size w).alloc (Nat.le_refl _) (Obj.cells #[E a.k, E a.n, E a.m, E b.k, E b.n, E b.m, .bool nt] 25))
  have HM := Lib.hid (fun w' => may_any a b nt w')
  have hd := decide_eq_true hm
  rw [hd] at HM
  have HTA := Lib.hid (fun w' (h : Lay w') => text_any a w' h hm.1)
  have HTB := Lib.hid (fun w' (h : Lay w') => text_any b w' h hm.2.1)
  have ha := textA_len hm.1
  have hb := textA_len hm.2.1
  obtain ⟨ak, an, am⟩ := a
  obtain ⟨bk, bn, bm⟩ := b
  by_cases k0 : bk = 0
  · subst k0
    cases nt
    · -- True false
      have hv : printR ⟨ak, an, am⟩ ⟨0, bn, bm⟩ false = (textA ⟨ak, an, am⟩, 0) := by
        unfold printR; rw [if_pos hm]; simp [tailB, tailN]
      have HO := Lib.hid hv
      clear hv
      generalize textA ⟨ak, an, am⟩ = x at *
      go_enter Tryd.func13, Tryd.ntmps13
      go_wp2_with (first
        | (go_at_call 18; refine (HM.out _).mono ?_; rintro e w1 ⟨rfl, hb⟩; have HG1 := Lib.hid (HG0.out.below hb); have HB1 := Lib.hid (HB0.out.trans (hb.mono HB0.out.size)); clear hb; clear HB0; obtain ⟨q0, q1, q2, q3, q4, q5, q6⟩ := HG1.out.cells)
        | (go_at_call 26; have hb0 := HB1.out; clear HB1; refine (HTA.out _ (HL.out.below hb0)).mono ?_; rintro e w2 ⟨rfl, hb⟩; have HG2 := Lib.hid (HG1.out.below hb); have HB2 := Lib.hid (hb0.trans (hb.mono hb0.size)); clear hb hb0; obtain ⟨p0, p1, p2, p3, p4, p5, p6⟩ := HG2.out.cells))
      go_ret2
      exact ⟨by rw [HO.out]; exact ret2 (by first | rfl | simp) rfl, HB2.out⟩
    · -- True true
      have hv : printR ⟨ak, an, am⟩ ⟨0, bn, bm⟩ true = (textA ⟨ak, an, am⟩ ++ [33], 0) := by
        unfold printR; rw [if_pos hm]; simp [tailB, tailN]
      have HO := Lib.hid hv
      clear hv
      generalize textA ⟨ak, an, am⟩ = x at *
      have c3 := fun w => run_string_add_lists (P := Tryd.prog) w x [33] (by (try simp); omega) (by decide)
      go_enter Tryd.func13, Tryd.ntmps13
      go_wp2_with (first
        | (go_at_call 18; refine (HM.out _).mono ?_; rintro e w1 ⟨rfl, hb⟩; have HG1 := Lib.hid (HG0.out.below hb); have HB1 := Lib.hid (HB0.out.trans (hb.mono HB0.out.size)); clear hb; clear HB0; obtain ⟨q0, q1, q2, q3, q4, q5, q6⟩ := HG1.out.cells)
        | (go_at_call 26; have hb0 := HB1.out; clear HB1; refine (HTA.out _ (HL.out.below hb0)).mono ?_; rintro e w2 ⟨rfl, hb⟩; have HG2 := Lib.hid (HG1.out.below hb); have HB2 := Lib.hid (hb0.trans (hb.mono hb0.size)); clear hb hb0; obtain ⟨p0, p1, p2, p3, p4, p5, p6⟩ := HG2.out.cells))
      go_ret2
      exact ⟨by rw [HO.out]; exact ret2 (by first | rfl | simp) rfl, HB2.out⟩
  · cases nt
    · -- False false
      have hv : printR ⟨ak, an, am⟩ ⟨bk, bn, bm⟩ false = (textA ⟨ak, an, am⟩ ++ 44 :: textA ⟨bk, bn, bm⟩, 0) := by
        unfold printR; rw [if_pos hm]; simp [tailB, tailN, k0]
      have HO := Lib.hid hv
      clear hv
      generalize textA ⟨ak, an, am⟩ = x at *
      generalize textA ⟨bk, bn, bm⟩ = y at *
      have c1 := fun w => run_string_add_lists (P := Tryd.prog) w [44] y (by decide) (by omega)
      have c2 := fun w => run_string_add_lists (P := Tryd.prog) w x (44 :: y) (by omega) (by simp; omega)
      have k0B : (bk == 0) = false := by rw [beq_eq_false_iff_ne]; exact k0
      have k0N : (bk != 0) = true := by rw [bne_iff_ne]; exact k0
      go_enter Tryd.func13, Tryd.ntmps13
      go_wp2_with (first
        | (go_at_call 18; refine (HM.out _).mono ?_; rintro e w1 ⟨rfl, hb⟩; have HG1 := Lib.hid (HG0.out.below hb); have HB1 := Lib.hid (HB0.out.trans (hb.mono HB0.out.size)); clear hb; clear HB0; obtain ⟨q0, q1, q2, q3, q4, q5, q6⟩ := HG1.out.cells)
        | (go_at_call 26; have hb0 := HB1.out; clear HB1; refine (HTA.out _ (HL.out.below hb0)).mono ?_; rintro e w2 ⟨rfl, hb⟩; have HG2 := Lib.hid (HG1.out.below hb); have HB2 := Lib.hid (hb0.trans (hb.mono hb0.size)); clear hb hb0; obtain ⟨p0, p1, p2, p3, p4, p5, p6⟩ := HG2.out.cells)
        | (go_at_call 26; have hb0 := HB2.out; clear HB2; refine (HTB.out _ (HL.out.below hb0)).mono ?_; rintro e w3 ⟨rfl, hb⟩; have HG3 := Lib.hid (HG2.out.below hb); have HB3 := Lib.hid (hb0.trans (hb.mono hb0.size)); clear hb hb0; obtain ⟨r0, r1, r2, r3, r4, r5, r6⟩ := HG3.out.cells))
      go_ret2
      exact ⟨by rw [HO.out]; exact ret2 (by first | rfl | simp) rfl, HB3.out⟩
    · -- False true
      have hv : printR ⟨ak, an, am⟩ ⟨bk, bn, bm⟩ true = (textA ⟨ak, an, am⟩ ++ 44 :: textA ⟨bk, bn, bm⟩ ++ [33], 0) := by
        unfold printR; rw [if_pos hm]; simp [tailB, tailN, k0]
      have HO := Lib.hid hv
      clear hv
      generalize textA ⟨ak, an, am⟩ = x at *
      generalize textA ⟨bk, bn, bm⟩ = y at *
      have c1 := fun w => run_string_add_lists (P := Tryd.prog) w [44] y (by decide) (by omega)
      have c2 := fun w => run_string_add_lists (P := Tryd.prog) w x (44 :: y) (by omega) (by simp; omega)
      have k0B : (bk == 0) = false := by rw [beq_eq_false_iff_ne]; exact k0
      have k0N : (bk != 0) = true := by rw [bne_iff_ne]; exact k0
      have c3 := fun w => run_string_add_lists (P := Tryd.prog) w (x ++ 44 :: y) [33] (by (try simp); omega) (by decide)
      go_enter Tryd.func13, Tryd.ntmps13
      go_wp2_with (first
        | (go_at_call 18; refine (HM.out _).mono ?_; rintro e w1 ⟨rfl, hb⟩; have HG1 := Lib.hid (HG0.out.below hb); have HB1 := Lib.hid (HB0.out.trans (hb.mono HB0.out.size)); clear hb; clear HB0; obtain ⟨q0, q1, q2, q3, q4, q5, q6⟩ := HG1.out.cells)
        | (go_at_call 26; have hb0 := HB1.out; clear HB1; refine (HTA.out _ (HL.out.below hb0)).mono ?_; rintro e w2 ⟨rfl, hb⟩; have HG2 := Lib.hid (HG1.out.below hb); have HB2 := Lib.hid (hb0.trans (hb.mono hb0.size)); clear hb hb0; obtain ⟨p0, p1, p2, p3, p4, p5, p6⟩ := HG2.out.cells)
        | (go_at_call 26; have hb0 := HB2.out; clear HB2; refine (HTB.out _ (HL.out.below hb0)).mono ?_; rintro e w3 ⟨rfl, hb⟩; have HG3 := Lib.hid (HG2.out.below hb); have HB3 := Lib.hid (hb0.trans (hb.mono hb0.size)); clear hb hb0; obtain ⟨r0, r1, r2, r3, r4, r5, r6⟩ := HG3.out.cells))
      go_ret2
      exact ⟨by rw [HO.out]; exact ret2 (by first | rfl | simp) rfl, HB3.out⟩
theorem print_any (a b : A3) (nt : Bool) (w : World) (hL : Lay w) :
    Calls Tryd.prog 13 #[RV a b nt] w fun e w' => e = .returned (.tuple #[S (printR a b nt).1, E (printR a b nt).2]) ∧ Below w.heap.size w w' := by
  by_cases hm : May a b
  · exact print_yes a b nt w hL hm
  · exact print_no a b nt w hL hm
end Go.Proofs.YtcijhfdccbgcpaaDoor.Ad
