/- SetFolds: the walk. -/
import Derived.Test.YtmlgbjdohijlnaaDoorStSet
import Derived.Test.YtmlgbjdohijlnaaDoorStFold
import Derived.Deep.RegionHeld3
namespace Go.Proofs.YtmlgbjdohijlnaaDoor.St
open Go.RowKit
set_option linter.unusedVariables false
set_option linter.unusedSimpArgs false
/-- Two sets lie in two blocks, and what lay in w0 lies. -/
def Two (b1 b2 : Nat) (s f : List Nat) (w0 w : World) : Prop :=
  (w.cell? ⟨b1, 0, none⟩ = some (.int .u64 (word s 0 : Int)) ∧ w.cell? ⟨b1, 1, none⟩ = some (.int .u64 (word s 1 : Int)) ∧ w.cell? ⟨b1, 2, none⟩ = some (.int .u64 (word s 2 : Int)) ∧ w.cell? ⟨b1, 3, none⟩ = some (.int .u64 (word s 3 : Int))) ∧
  (w.cell? ⟨b2, 0, none⟩ = some (.int .u64 (word f 0 : Int)) ∧ w.cell? ⟨b2, 1, none⟩ = some (.int .u64 (word f 1 : Int)) ∧ w.cell? ⟨b2, 2, none⟩ = some (.int .u64 (word f 2 : Int)) ∧ w.cell? ⟨b2, 3, none⟩ = some (.int .u64 (word f 3 : Int))) ∧
  b1 < w.heap.size ∧ b2 < w.heap.size ∧ Below w0.heap.size w0 w
theorem Two.mk' {b1 b2 : Nat} {s f : List Nat} {w0 w : World} (h1 : SB w b1 s) (h2 : SB w b2 f) (hs : Wf s) (hf : Wf f) (hb : Below w0.heap.size w0 w) : Two b1 b2 s f w0 w :=
  ⟨sb_cells h1 hs, sb_cells h2 hf, (Array.getElem?_eq_some_iff.1 h1).1, (Array.getElem?_eq_some_iff.1 h2).1, hb⟩
theorem Two.below {b1 b2 : Nat} {s f : List Nat} {w0 w w' : World} (h : Two b1 b2 s f w0 w) (hb : Below w.heap.size w w') : Two b1 b2 s f w0 w' := by
  obtain ⟨⟨a0, a1, a2, a3⟩, ⟨c0, c1, c2, c3⟩, l1, l2, hB⟩ := h
  exact ⟨⟨(hb.cell (p := ⟨b1, 0, none⟩) l1).trans a0, (hb.cell (p := ⟨b1, 1, none⟩) l1).trans a1, (hb.cell (p := ⟨b1, 2, none⟩) l1).trans a2, (hb.cell (p := ⟨b1, 3, none⟩) l1).trans a3⟩,
    ⟨(hb.cell (p := ⟨b2, 0, none⟩) l2).trans c0, (hb.cell (p := ⟨b2, 1, none⟩) l2).trans c1, (hb.cell (p := ⟨b2, 2, none⟩) l2).trans c2, (hb.cell (p := ⟨b2, 3, none⟩) l2).trans c3⟩,
    Nat.lt_of_lt_of_le l1 hb.size, Nat.lt_of_lt_of_le l2 hb.size, hB.trans (hb.mono hB.size)⟩
theorem Two.alloc {b1 b2 : Nat} {s f : List Nat} {w0 w : World} (h : Two b1 b2 s f w0 w) (o : Obj) : Two b1 b2 s f w0 (w.alloc o) := h.below ((Below.refl _ w).alloc (Nat.le_refl _) o)
theorem Two.drew {b1 b2 : Nat} {s f : List Nat} {w0 w : World} (h : Two b1 b2 s f w0 w) : Two b1 b2 s f w0 w.drew := h.below (Below.refl _ w).drew
theorem Two.pos {b1 b2 : Nat} {s f : List Nat} {w0 w : World} (h : Two b1 b2 s f w0 w) (hg : 0 < w0.heap.size) : 0 < w.heap.size := Nat.lt_of_lt_of_le hg h.2.2.2.2.size
theorem Two.tab {b1 b2 : Nat} {s f : List Nat} {w0 w : World} (h : Two b1 b2 s f w0 w) (hg : 0 < w0.heap.size) (hT : Tab w0) : Tab w := hT.below h.2.2.2.2 hg

theorem Two.last {b1 b2 : Nat} {s f : List Nat} {w0 w : World} (h : Two b1 b2 s f w0 w) : Below w0.heap.size w0 w := h.2.2.2.2
theorem run_eq4 (a b c d : Nat) (w : World) : (Op.equalIn 10000 25 (.agg #[.int .u64 (a : Int), .int .u64 (b : Int), .int .u64 (c : Int), .int .u64 (d : Int)]) (.agg #[.int .u64 (a : Int), .int .u64 (b : Int), .int .u64 (c : Int), .int .u64 (d : Int)])).run Tryd.prog w = .ok true w := by
  have u3 := Tryd.underlying23
  have a3 := Tryd.isAgg23
  have z3 := Tryd.sizeOf23
  rw [show (10000 : Nat) = 9999 + 1 from rfl, Op.equalIn]
  simp only [Sem.run_bind, run_underlying Tryd.underlying25, Result.andThen_ok]
  simp only [Std.Legacy.Range.forIn_eq_forIn_range', Std.Legacy.Range.size, Nat.sub_zero, Nat.add_sub_cancel, Nat.div_one, List.range'_succ, List.range'_zero, List.forIn_cons, List.forIn_nil]
  go_simp
set_option maxHeartbeats 4000000 in
theorem setFolds_nat (s : List Nat) (b : Nat) (hs : Wf s) (hb : b < 256) (w : World) (hg : 0 < w.heap.size) (hT : Tab w) :
    Calls Tryd.prog 4 #[SV s, .int .u8 (b : Int)] w fun e w' => e = .returned (.bool true) ∧ Below w.heap.size w w' := by
  have HT := Lib.hid hT
  clear hT
  have hf := wf_foldW' hs
  have HSS := Lib.hid (SV_eq hs)
  have HSF := Lib.hid (SV_eq hf)
  have HAG := Lib.hid (foldW_again hs)
  have HOR := Lib.hid (or_fold hs)
  have hcase : ((65 : Int) ≤ (b : Int) ∧ (b : Int) ≤ 90 ∧ mem (foldW s) b = mem (foldW s) (b + 32)) ∨ ((b : Int) < 65 ∧ True ∧ True) ∨ ((65 : Int) ≤ (b : Int) ∧ decide ((b : Int) ≤ 90) = false ∧ True) := by
    by_cases h1 : 65 ≤ b
    · by_cases h2 : b ≤ 90
      · exact Or.inl ⟨by omega, by omega, fold_letter hs h1 h2⟩
      · exact Or.inr (Or.inr ⟨by omega, by simp; omega, trivial⟩)
    · exact Or.inr (Or.inl ⟨by omega, trivial, trivial⟩)
  have g0 := word_get hs (i := 0) (by omega)
  have g1 := word_get hs (i := 1) (by omega)
  have g2 := word_get hs (i := 2) (by omega)
  have g3 := word_get hs (i := 3) (by omega)
  rcases hcase with ⟨i1, i2, i3⟩ | ⟨i1, i2, i3⟩ | ⟨i1, i2, i3⟩
  · have HM := Lib.hid i3
    clear i3
    have hwr : IntKind.u8.wrap ((b : Int) + 32) = (b : Int) + 32 := by rw [IntKind.wrap_u8]; omega
    go_enter Tryd.func4, Tryd.ntmps4
    go_wp2_with (first
      | (go_at_call 14; rw [← HSS.out]; refine (fold_any s _ hs (by simp) (HT.out.below ((Below.refl w.heap.size w).alloc (Nat.le_refl _) _) hg)).mono ?_; rintro e w1 ⟨he, hb1⟩
         rw [HSF.out] at he; subst he
         have HS1 := Lib.hid (sb_below (show SB _ w.heap.size s from heap_alloc_new _ _) hb1)
         have HB1 := ((Below.refl w.heap.size w).alloc (Nat.le_refl _) (Obj.cells (wc s) 25)).trans (hb1.mono (alloc_le _ _)); clear hb1))
    have HS2 := Lib.hid (show SB (w1.alloc _) w1.heap.size (foldW s) from by rw [SB, wc_eq hf]; exact heap_alloc_new w1 _)
    have HS1' := Lib.hid (sb_alloc HS1.out (Obj.cells #[Value.int IntKind.u64 ↑(word (foldW s) 0), Value.int IntKind.u64 ↑(word (foldW s) 1), Value.int IntKind.u64 ↑(word (foldW s) 2), Value.int IntKind.u64 ↑(word (foldW s) 3)] 25))
    have H3 := Lib.hid (Two.mk' HS1'.out HS2.out hs hf (HB1.alloc HB1.size _))
    clear HS1' HS2
    generalize w1.alloc (Obj.cells #[Value.int IntKind.u64 ↑(word (foldW s) 0), Value.int IntKind.u64 ↑(word (foldW s) 1), Value.int IntKind.u64 ↑(word (foldW s) 2), Value.int IntKind.u64 ↑(word (foldW s) 3)] 25) = w3 at *
    have CF := fun W h1 h2 => fold_any (foldW s) W hf h1 h2
    have CH := fun (x : Int) W hx => has_lit (foldW s) x W hf hx
    have CO := fun bk W h1 h2 => or_any [s, foldW s] bk W (wf_two hs hf) (by simp) h1 h2
    simp only [HAG.out, HSF.out, HOR.out] at CF CH CO
    have HQ := fun W => run_eq4 (word (foldW s) 0) (word (foldW s) 1) (word (foldW s) 2) (word (foldW s) 3) W
    go_region_held3 (fun w' => (w'.cell? ⟨w.heap.size, 0, none⟩ = some (.int .u64 (word s 0 : Int)) ∧ w'.cell? ⟨w.heap.size, 1, none⟩ = some (.int .u64 (word s 1 : Int)) ∧ w'.cell? ⟨w.heap.size, 2, none⟩ = some (.int .u64 (word s 2 : Int)) ∧ w'.cell? ⟨w.heap.size, 3, none⟩ = some (.int .u64 (word s 3 : Int))) ∧
        (w'.cell? ⟨w1.heap.size, 0, none⟩ = some (.int .u64 (word (foldW s) 0 : Int)) ∧ w'.cell? ⟨w1.heap.size, 1, none⟩ = some (.int .u64 (word (foldW s) 1 : Int)) ∧ w'.cell? ⟨w1.heap.size, 2, none⟩ = some (.int .u64 (word (foldW s) 2 : Int)) ∧ w'.cell? ⟨w1.heap.size, 3, none⟩ = some (.int .u64 (word (foldW s) 3 : Int))) ∧
        w.heap.size < w'.heap.size ∧ w1.heap.size < w'.heap.size ∧ Below w.heap.size w w')
      (first
        | exact Two.drew H3.out
        | exact Two.alloc (by assumption) _
        | exact Two.below (by assumption) (by assumption))
      (first
        | (go_at_call 14; refine (CF _ (Two.pos (by assumption) hg) (Two.tab (by assumption) hg HT.out)).mono ?_; rintro e w' ⟨rfl, hbl⟩)
        | (go_at_call 15; refine (CO _ _ (by simp) (lsL (heap_alloc_new _ _) rfl)).mono ?_; rintro e w' ⟨rfl, hbl⟩)
        | (go_at_call 16; refine (CH _ _ (by omega)).mono ?_; rintro e w' ⟨he, hbl⟩; (first | rw [show ((b : Int) + 32).toNat = b + 32 from by omega] at he | rw [Int.toNat_natCast, HM.out] at he); subst he)
        | (go_at_call 10; refine (shown_any _ (Two.pos (by assumption) hg) (Two.tab (by assumption) hg HT.out)).mono ?_; rintro e w' ⟨rfl, hbl⟩))
    all_goals go_wp2
    all_goals go_ret
    all_goals exact ⟨rfl, Two.last (by assumption)⟩
  · have HM := Lib.hid i3
    clear i3
    have hwr : IntKind.u8.wrap ((b : Int) + 32) = (b : Int) + 32 := by rw [IntKind.wrap_u8]; omega
    go_enter Tryd.func4, Tryd.ntmps4
    go_wp2_with (first
      | (go_at_call 14; rw [← HSS.out]; refine (fold_any s _ hs (by simp) (HT.out.below ((Below.refl w.heap.size w).alloc (Nat.le_refl _) _) hg)).mono ?_; rintro e w1 ⟨he, hb1⟩
         rw [HSF.out] at he; subst he
         have HS1 := Lib.hid (sb_below (show SB _ w.heap.size s from heap_alloc_new _ _) hb1)
         have HB1 := ((Below.refl w.heap.size w).alloc (Nat.le_refl _) (Obj.cells (wc s) 25)).trans (hb1.mono (alloc_le _ _)); clear hb1))
    have HS2 := Lib.hid (show SB (w1.alloc _) w1.heap.size (foldW s) from by rw [SB, wc_eq hf]; exact heap_alloc_new w1 _)
    have HS1' := Lib.hid (sb_alloc HS1.out (Obj.cells #[Value.int IntKind.u64 ↑(word (foldW s) 0), Value.int IntKind.u64 ↑(word (foldW s) 1), Value.int IntKind.u64 ↑(word (foldW s) 2), Value.int IntKind.u64 ↑(word (foldW s) 3)] 25))
    have H3 := Lib.hid (Two.mk' HS1'.out HS2.out hs hf (HB1.alloc HB1.size _))
    clear HS1' HS2
    generalize w1.alloc (Obj.cells #[Value.int IntKind.u64 ↑(word (foldW s) 0), Value.int IntKind.u64 ↑(word (foldW s) 1), Value.int IntKind.u64 ↑(word (foldW s) 2), Value.int IntKind.u64 ↑(word (foldW s) 3)] 25) = w3 at *
    have CF := fun W h1 h2 => fold_any (foldW s) W hf h1 h2
    have CH := fun (x : Int) W hx => has_lit (foldW s) x W hf hx
    have CO := fun bk W h1 h2 => or_any [s, foldW s] bk W (wf_two hs hf) (by simp) h1 h2
    simp only [HAG.out, HSF.out, HOR.out] at CF CH CO
    have HQ := fun W => run_eq4 (word (foldW s) 0) (word (foldW s) 1) (word (foldW s) 2) (word (foldW s) 3) W
    refine wp_region_noPanic ?_
    refine wp_region_held_drew (S := (fun w' => (w'.cell? ⟨w.heap.size, 0, none⟩ = some (.int .u64 (word s 0 : Int)) ∧ w'.cell? ⟨w.heap.size, 1, none⟩ = some (.int .u64 (word s 1 : Int)) ∧ w'.cell? ⟨w.heap.size, 2, none⟩ = some (.int .u64 (word s 2 : Int)) ∧ w'.cell? ⟨w.heap.size, 3, none⟩ = some (.int .u64 (word s 3 : Int))) ∧
        (w'.cell? ⟨w1.heap.size, 0, none⟩ = some (.int .u64 (word (foldW s) 0 : Int)) ∧ w'.cell? ⟨w1.heap.size, 1, none⟩ = some (.int .u64 (word (foldW s) 1 : Int)) ∧ w'.cell? ⟨w1.heap.size, 2, none⟩ = some (.int .u64 (word (foldW s) 2 : Int)) ∧ w'.cell? ⟨w1.heap.size, 3, none⟩ = some (.int .u64 (word (foldW s) 3 : Int))) ∧
        w.heap.size < w'.heap.size ∧ w1.heap.size < w'.heap.size ∧ Below w.heap.size w w')) (by kernel_rfl) ?_ (fun hHeld => ?_)
    · (try dsimp only); exact Two.drew H3.out
    refine wpAnyH_take (i := 0) (oi := ?o0) (v := ?v0) ?hi0 (by kernel_rfl) (by kernel_rfl) (by kernel_rfl) (fun _ _ _ h => h) ?hy0 (by assumption) ?r0
    case hi0 => simp only [List.getElem?_toArray, List.getElem?_cons_succ, List.getElem?_cons_zero]; rfl
    case hy0 => exact Or.inl ⟨by rfl, by (intro w hSw; (try dsimp only at hSw); go_simp) <;> with_reducible rfl⟩
    try simp only [Act.put, List.setIfInBounds_toArray, List.set_cons_zero, List.set_cons_succ]
    refine wpAnyH_take (i := 2) (oi := ?o2) (v := ?v2) ?hi2 (by kernel_rfl) (by kernel_rfl) (by kernel_rfl) (fun _ _ _ h => h) ?hy2 (by assumption) ?r2
    case hi2 => simp only [List.getElem?_toArray, List.getElem?_cons_succ, List.getElem?_cons_zero]; rfl
    case hy2 => exact Or.inl ⟨by rfl, by (intro w hSw; (try dsimp only at hSw); go_simp) <;> with_reducible rfl⟩
    try simp only [Act.put, List.setIfInBounds_toArray, List.set_cons_zero, List.set_cons_succ]
    refine wpAnyH_ready (rs := [1]) (by kernel_rfl) (by simp) ?_
    refine AllReadyH.cons (o := ?o1) ?hi1 (fun K hK => ?st1) AllReadyH.nil
    case hi1 => simp only [List.getElem?_toArray, List.getElem?_cons_succ, List.getElem?_cons_zero]; rfl
    go_simp
    (first
        | (go_at_call 14; refine (CF _ (Two.pos (by assumption) hg) (Two.tab (by assumption) hg HT.out)).mono ?_; rintro e w' ⟨rfl, hbl⟩)
        | (go_at_call 15; refine (CO _ _ (by simp) (lsL (heap_alloc_new _ _) rfl)).mono ?_; rintro e w' ⟨rfl, hbl⟩)
        | (go_at_call 16; refine (CH _ _ (by omega)).mono ?_; rintro e w' ⟨he, hbl⟩; (first | rw [show ((b : Int) + 32).toNat = b + 32 from by omega] at he | rw [Int.toNat_natCast, HM.out] at he); subst he)
        | (go_at_call 10; refine (shown_any _ (Two.pos (by assumption) hg) (Two.tab (by assumption) hg HT.out)).mono ?_; rintro e w' ⟨rfl, hbl⟩))
    refine hK.out _ _ ?_ (fun hHeld => ?_)
    · (try dsimp only); (first | exact Two.drew H3.out | assumption | exact Two.alloc (by assumption) _ | exact Two.below (by assumption) (by assumption))
    clear hK K
    try simp only [Act.put, List.setIfInBounds_toArray, List.set_cons_zero, List.set_cons_succ]
    refine wpAnyH_take (i := 3) (oi := ?o3) (v := ?v3) ?hi3 (by kernel_rfl) (by kernel_rfl) (by kernel_rfl) (fun _ _ _ h => h) ?hy3 (by assumption) ?r3
    case hi3 => simp only [List.getElem?_toArray, List.getElem?_cons_succ, List.getElem?_cons_zero]; rfl
    case hy3 => exact Or.inl ⟨by rfl, by (intro w hSw; (try dsimp only at hSw); go_simp) <;> with_reducible rfl⟩
    try simp only [Act.put, List.setIfInBounds_toArray, List.set_cons_zero, List.set_cons_succ]
    refine wpAnyH_take (i := 4) (oi := ?o4) (v := ?v4) ?hi4 (by kernel_rfl) (by kernel_rfl) (by kernel_rfl) (fun _ _ _ h => h) ?hy4 (by assumption) ?r4
    case hi4 => simp only [List.getElem?_toArray, List.getElem?_cons_succ, List.getElem?_cons_zero]; rfl
    case hy4 => exact Or.inl ⟨by rfl, by (intro w hSw; (try dsimp only at hSw); go_simp) <;> with_reducible rfl⟩
    try simp only [Act.put, List.setIfInBounds_toArray, List.set_cons_zero, List.set_cons_succ]
    refine wpAnyH_take (i := 5) (oi := ?o5) (v := ?v5) ?hi5 (by kernel_rfl) (by kernel_rfl) (by kernel_rfl) (fun _ _ _ h => h) ?hy5 (by assumption) ?r5
    case hi5 => simp only [List.getElem?_toArray, List.getElem?_cons_succ, List.getElem?_cons_zero]; rfl
    case hy5 => exact Or.inl ⟨by rfl, by (intro w hSw; (try dsimp only at hSw); go_simp) <;> with_reducible rfl⟩
    try simp only [Act.put, List.setIfInBounds_toArray, List.set_cons_zero, List.set_cons_succ]
    refine wpAnyH_take (i := 6) (oi := ?o6) (v := ?v6) ?hi6 (by kernel_rfl) (by kernel_rfl) (by kernel_rfl) (fun _ _ _ h => h) ?hy6 (by assumption) ?r6
    case hi6 => simp only [List.getElem?_toArray, List.getElem?_cons_succ, List.getElem?_cons_zero]; rfl
    case hy6 => exact Or.inl ⟨by rfl, by (intro w hSw; (try dsimp only at hSw); go_simp) <;> with_reducible rfl⟩
    try simp only [Act.put, List.setIfInBounds_toArray, List.set_cons_zero, List.set_cons_succ]
    refine wpAnyH_take (i := 9) (oi := ?o9) (v := ?v9) ?hi9 (by kernel_rfl) (by kernel_rfl) (by kernel_rfl) (fun _ _ _ h => h) ?hy9 (by assumption) ?r9
    case hi9 => simp only [List.getElem?_toArray, List.getElem?_cons_succ, List.getElem?_cons_zero]; rfl
    case hy9 => exact Or.inl ⟨by rfl, by (intro w hSw; (try dsimp only at hSw); go_simp) <;> with_reducible rfl⟩
    try simp only [Act.put, List.setIfInBounds_toArray, List.set_cons_zero, List.set_cons_succ]
    refine wpAnyH_ready (rs := [7]) (by kernel_rfl) (by simp) ?_
    refine AllReadyH.cons (o := ?o7) ?hi7 (fun K hK => ?st7) AllReadyH.nil
    case hi7 => simp only [List.getElem?_toArray, List.getElem?_cons_succ, List.getElem?_cons_zero]; rfl
    go_simp
    refine hK.out _ _ ?_ (fun hHeld => ?_)
    · (try dsimp only); (first | exact Two.drew H3.out | assumption | exact Two.alloc (by assumption) _ | exact Two.below (by assumption) (by assumption))
    clear hK K
    try simp only [Act.put, List.setIfInBounds_toArray, List.set_cons_zero, List.set_cons_succ]
    refine wpAnyH_ready (rs := [8]) (by kernel_rfl) (by simp) ?_
    refine AllReadyH.cons (o := ?o8) ?hi8 (fun K hK => ?st8) AllReadyH.nil
    case hi8 => simp only [List.getElem?_toArray, List.getElem?_cons_succ, List.getElem?_cons_zero]; rfl
    go_simp
    (first
        | (go_at_call 14; refine (CF _ (Two.pos (by assumption) hg) (Two.tab (by assumption) hg HT.out)).mono ?_; rintro e w' ⟨rfl, hbl⟩)
        | (go_at_call 15; refine (CO _ _ (by simp) (lsL (heap_alloc_new _ _) rfl)).mono ?_; rintro e w' ⟨rfl, hbl⟩)
        | (go_at_call 16; refine (CH _ _ (by omega)).mono ?_; rintro e w' ⟨he, hbl⟩; (first | rw [show ((b : Int) + 32).toNat = b + 32 from by omega] at he | rw [Int.toNat_natCast, HM.out] at he); subst he)
        | (go_at_call 10; refine (shown_any _ (Two.pos (by assumption) hg) (Two.tab (by assumption) hg HT.out)).mono ?_; rintro e w' ⟨rfl, hbl⟩))
    refine hK.out _ _ ?_ (fun hHeld => ?_)
    · (try dsimp only); (first | exact Two.drew H3.out | assumption | exact Two.alloc (by assumption) _ | exact Two.below (by assumption) (by assumption))
    clear hK K
    try simp only [Act.put, List.setIfInBounds_toArray, List.set_cons_zero, List.set_cons_succ]
    refine wpAnyH_take (i := 10) (oi := ?o10) (v := ?v10) ?hi10 (by kernel_rfl) (by kernel_rfl) (by kernel_rfl) (fun _ _ _ h => h) ?hy10 (by assumption) ?r10
    case hi10 => simp only [List.getElem?_toArray, List.getElem?_cons_succ, List.getElem?_cons_zero]; rfl
    case hy10 => exact Or.inl ⟨by rfl, by (intro w hSw; (try dsimp only at hSw); go_simp) <;> with_reducible rfl⟩
    try simp only [Act.put, List.setIfInBounds_toArray, List.set_cons_zero, List.set_cons_succ]
    refine wpAnyH_take (i := 11) (oi := ?o11) (v := ?v11) ?hi11 (by kernel_rfl) (by kernel_rfl) (by kernel_rfl) (fun _ _ _ h => h) ?hy11 (by assumption) ?r11
    case hi11 => simp only [List.getElem?_toArray, List.getElem?_cons_succ, List.getElem?_cons_zero]; rfl
    case hy11 => exact Or.inl ⟨by rfl, by (intro w hSw; (try dsimp only at hSw); go_simp) <;> with_reducible rfl⟩
    try simp only [Act.put, List.setIfInBounds_toArray, List.set_cons_zero, List.set_cons_succ]
    refine wpAnyH_take (i := 12) (oi := ?o12) (v := ?v12) ?hi12 (by kernel_rfl) (by kernel_rfl) (by kernel_rfl) (fun _ _ _ h => h) ?hy12 (by assumption) ?r12
    case hi12 => simp only [List.getElem?_toArray, List.getElem?_cons_succ, List.getElem?_cons_zero]; rfl
    case hy12 => exact Or.inl ⟨by rfl, by (intro w hSw; (try dsimp only at hSw); go_simp) <;> with_reducible rfl⟩
    try simp only [Act.put, List.setIfInBounds_toArray, List.set_cons_zero, List.set_cons_succ]
    refine wpAnyH_take (i := 13) (oi := ?o13) (v := ?v13) ?hi13 (by kernel_rfl) (by kernel_rfl) (by kernel_rfl) (fun _ _ _ h => h) ?hy13 (by assumption) ?r13
    case hi13 => simp only [List.getElem?_toArray, List.getElem?_cons_succ, List.getElem?_cons_zero]; rfl
    case hy13 => exact Or.inl ⟨by rfl, by (intro w hSw; (try dsimp only at hSw); go_simp) <;> with_reducible rfl⟩
    try simp only [Act.put, List.setIfInBounds_toArray, List.set_cons_zero, List.set_cons_succ]
    refine wpAnyH_take (i := 14) (oi := ?o14) (v := ?v14) ?hi14 (by kernel_rfl) (by kernel_rfl) (by kernel_rfl) (fun _ _ _ h => h) ?hy14 (by assumption) ?r14
    case hi14 => simp only [List.getElem?_toArray, List.getElem?_cons_succ, List.getElem?_cons_zero]; rfl
    case hy14 => exact Or.inl ⟨by rfl, by (intro w hSw; (try dsimp only at hSw); go_simp) <;> with_reducible rfl⟩
    try simp only [Act.put, List.setIfInBounds_toArray, List.set_cons_zero, List.set_cons_succ]
    refine wpAnyH_take (i := 15) (oi := ?o15) (v := ?v15) ?hi15 (by kernel_rfl) (by kernel_rfl) (by kernel_rfl) (fun _ _ _ h => h) ?hy15 (by assumption) ?r15
    case hi15 => simp only [List.getElem?_toArray, List.getElem?_cons_succ, List.getElem?_cons_zero]; rfl
    case hy15 => exact Or.inl ⟨by rfl, by (intro w hSw; (try dsimp only at hSw); go_simp) <;> with_reducible rfl⟩
    try simp only [Act.put, List.setIfInBounds_toArray, List.set_cons_zero, List.set_cons_succ]
    refine wpAnyH_take (i := 16) (oi := ?o16) (v := undef) ?hi16 (by kernel_rfl) (by kernel_rfl) (by kernel_rfl) (fun _ _ _ h => h) ?hy16 (by assumption) ?r16
    case hi16 => simp only [List.getElem?_toArray, List.getElem?_cons_succ, List.getElem?_cons_zero]; rfl
    case hy16 => exact Or.inr ⟨by rfl, rfl⟩
    try simp only [Act.put, List.setIfInBounds_toArray, List.set_cons_zero, List.set_cons_succ]
    refine wpAnyH_take (i := 17) (oi := ?o17) (v := undef) ?hi17 (by kernel_rfl) (by kernel_rfl) (by kernel_rfl) (fun _ _ _ h => h) ?hy17 (by assumption) ?r17
    case hi17 => simp only [List.getElem?_toArray, List.getElem?_cons_succ, List.getElem?_cons_zero]; rfl
    case hy17 => exact Or.inr ⟨by rfl, rfl⟩
    try simp only [Act.put, List.setIfInBounds_toArray, List.set_cons_zero, List.set_cons_succ]
    refine wpAnyH_take (i := 19) (oi := ?o19) (v := undef) ?hi19 (by kernel_rfl) (by kernel_rfl) (by kernel_rfl) (fun _ _ _ h => h) ?hy19 (by assumption) ?r19
    case hi19 => simp only [List.getElem?_toArray, List.getElem?_cons_succ, List.getElem?_cons_zero]; rfl
    case hy19 => exact Or.inr ⟨by rfl, rfl⟩
    try simp only [Act.put, List.setIfInBounds_toArray, List.set_cons_zero, List.set_cons_succ]
    refine wpAnyH_take (i := 20) (oi := ?o20) (v := undef) ?hi20 (by kernel_rfl) (by kernel_rfl) (by kernel_rfl) (fun _ _ _ h => h) ?hy20 (by assumption) ?r20
    case hi20 => simp only [List.getElem?_toArray, List.getElem?_cons_succ, List.getElem?_cons_zero]; rfl
    case hy20 => exact Or.inr ⟨by rfl, rfl⟩
    try simp only [Act.put, List.setIfInBounds_toArray, List.set_cons_zero, List.set_cons_succ]
    refine wpAnyH_take (i := 21) (oi := ?o21) (v := undef) ?hi21 (by kernel_rfl) (by kernel_rfl) (by kernel_rfl) (fun _ _ _ h => h) ?hy21 (by assumption) ?r21
    case hi21 => simp only [List.getElem?_toArray, List.getElem?_cons_succ, List.getElem?_cons_zero]; rfl
    case hy21 => exact Or.inr ⟨by rfl, rfl⟩
    try simp only [Act.put, List.setIfInBounds_toArray, List.set_cons_zero, List.set_cons_succ]
    refine wpAnyH_take (i := 18) (oi := ?o18) (v := undef) ?hi18 (by kernel_rfl) (by kernel_rfl) (by kernel_rfl) (fun _ _ _ h => h) ?hy18 (by assumption) ?r18
    case hi18 => simp only [List.getElem?_toArray, List.getElem?_cons_succ, List.getElem?_cons_zero]; rfl
    case hy18 => exact Or.inr ⟨by rfl, rfl⟩
    try simp only [Act.put, List.setIfInBounds_toArray, List.set_cons_zero, List.set_cons_succ]
    refine wpAnyH_take (i := 22) (oi := ?o22) (v := undef) ?hi22 (by kernel_rfl) (by kernel_rfl) (by kernel_rfl) (fun _ _ _ h => h) ?hy22 (by assumption) ?r22
    case hi22 => simp only [List.getElem?_toArray, List.getElem?_cons_succ, List.getElem?_cons_zero]; rfl
    case hy22 => exact Or.inr ⟨by rfl, rfl⟩
    try simp only [Act.put, List.setIfInBounds_toArray, List.set_cons_zero, List.set_cons_succ]
    refine wpAnyH_take (i := 23) (oi := ?o23) (v := undef) ?hi23 (by kernel_rfl) (by kernel_rfl) (by kernel_rfl) (fun _ _ _ h => h) ?hy23 (by assumption) ?r23
    case hi23 => simp only [List.getElem?_toArray, List.getElem?_cons_succ, List.getElem?_cons_zero]; rfl
    case hy23 => exact Or.inr ⟨by rfl, rfl⟩
    try simp only [Act.put, List.setIfInBounds_toArray, List.set_cons_zero, List.set_cons_succ]
    refine wpAnyH_take (i := 24) (oi := ?o24) (v := ?v24) ?hi24 (by kernel_rfl) (by kernel_rfl) (by kernel_rfl) (fun _ _ _ h => h) ?hy24 (by assumption) ?r24
    case hi24 => simp only [List.getElem?_toArray, List.getElem?_cons_succ, List.getElem?_cons_zero]; rfl
    case hy24 => exact Or.inl ⟨by rfl, by (intro w hSw; (try dsimp only at hSw); go_simp) <;> with_reducible rfl⟩
    try simp only [Act.put, List.setIfInBounds_toArray, List.set_cons_zero, List.set_cons_succ]
    refine wpAnyH_take (i := 25) (oi := ?o25) (v := ?v25) ?hi25 (by kernel_rfl) (by kernel_rfl) (by kernel_rfl) (fun _ _ _ h => h) ?hy25 (by assumption) ?r25
    case hi25 => simp only [List.getElem?_toArray, List.getElem?_cons_succ, List.getElem?_cons_zero]; rfl
    case hy25 => exact Or.inl ⟨by rfl, by (intro w hSw; (try dsimp only at hSw); go_simp) <;> with_reducible rfl⟩
    try simp only [Act.put, List.setIfInBounds_toArray, List.set_cons_zero, List.set_cons_succ]
    refine wpAnyH_take (i := 26) (oi := ?o26) (v := ?v26) ?hi26 (by kernel_rfl) (by kernel_rfl) (by kernel_rfl) (fun _ _ _ h => h) ?hy26 (by assumption) ?r26
    case hi26 => simp only [List.getElem?_toArray, List.getElem?_cons_succ, List.getElem?_cons_zero]; rfl
    case hy26 => exact Or.inl ⟨by rfl, by (intro w hSw; (try dsimp only at hSw); go_simp) <;> with_reducible rfl⟩
    try simp only [Act.put, List.setIfInBounds_toArray, List.set_cons_zero, List.set_cons_succ]
    refine wpAnyH_ready (rs := [27]) (by kernel_rfl) (by simp) ?_
    refine AllReadyH.cons (o := ?o27) ?hi27 (fun K hK => ?st27) AllReadyH.nil
    case hi27 => simp only [List.getElem?_toArray, List.getElem?_cons_succ, List.getElem?_cons_zero]; rfl
    go_simp
    (first
        | (go_at_call 14; refine (CF _ (Two.pos (by assumption) hg) (Two.tab (by assumption) hg HT.out)).mono ?_; rintro e w' ⟨rfl, hbl⟩)
        | (go_at_call 15; refine (CO _ _ (by simp) (lsL (heap_alloc_new _ _) rfl)).mono ?_; rintro e w' ⟨rfl, hbl⟩)
        | (go_at_call 16; refine (CH _ _ (by omega)).mono ?_; rintro e w' ⟨he, hbl⟩; (first | rw [show ((b : Int) + 32).toNat = b + 32 from by omega] at he | rw [Int.toNat_natCast, HM.out] at he); subst he)
        | (go_at_call 10; refine (shown_any _ (Two.pos (by assumption) hg) (Two.tab (by assumption) hg HT.out)).mono ?_; rintro e w' ⟨rfl, hbl⟩))
    refine hK.out _ _ ?_ (fun hHeld => ?_)
    · (try dsimp only); (first | exact Two.drew H3.out | assumption | exact Two.alloc (by assumption) _ | exact Two.below (by assumption) (by assumption))
    clear hK K
    try simp only [Act.put, List.setIfInBounds_toArray, List.set_cons_zero, List.set_cons_succ]
    refine wpAnyH_take (i := 28) (oi := ?o28) (v := ?v28) ?hi28 (by kernel_rfl) (by kernel_rfl) (by kernel_rfl) (fun _ _ _ h => h) ?hy28 (by assumption) ?r28
    case hi28 => simp only [List.getElem?_toArray, List.getElem?_cons_succ, List.getElem?_cons_zero]; rfl
    case hy28 => exact Or.inl ⟨by rfl, by (intro w hSw; (try dsimp only at hSw); go_simp) <;> with_reducible rfl⟩
    try simp only [Act.put, List.setIfInBounds_toArray, List.set_cons_zero, List.set_cons_succ]
    refine wpAnyH_take (i := 29) (oi := ?o29) (v := ?v29) ?hi29 (by kernel_rfl) (by kernel_rfl) (by kernel_rfl) (fun _ _ _ h => h) ?hy29 (by assumption) ?r29
    case hi29 => simp only [List.getElem?_toArray, List.getElem?_cons_succ, List.getElem?_cons_zero]; rfl
    case hy29 => exact Or.inl ⟨by rfl, by (intro w hSw; (try dsimp only at hSw); go_simp) <;> with_reducible rfl⟩
    try simp only [Act.put, List.setIfInBounds_toArray, List.set_cons_zero, List.set_cons_succ]
    refine wpAnyH_done (by kernel_rfl) ?_ _
    refine NoPanic.normal ?_
    go_wp2
    go_ret
    exact ⟨rfl, Two.last (by assumption)⟩
  · have HM := Lib.hid i3
    clear i3
    go_enter Tryd.func4, Tryd.ntmps4
    go_wp2_with (first
      | (go_at_call 14; rw [← HSS.out]; refine (fold_any s _ hs (by simp) (HT.out.below ((Below.refl w.heap.size w).alloc (Nat.le_refl _) _) hg)).mono ?_; rintro e w1 ⟨he, hb1⟩
         rw [HSF.out] at he; subst he
         have HS1 := Lib.hid (sb_below (show SB _ w.heap.size s from heap_alloc_new _ _) hb1)
         have HB1 := ((Below.refl w.heap.size w).alloc (Nat.le_refl _) (Obj.cells (wc s) 25)).trans (hb1.mono (alloc_le _ _)); clear hb1))
    have HS2 := Lib.hid (show SB (w1.alloc _) w1.heap.size (foldW s) from by rw [SB, wc_eq hf]; exact heap_alloc_new w1 _)
    have HS1' := Lib.hid (sb_alloc HS1.out (Obj.cells #[Value.int IntKind.u64 ↑(word (foldW s) 0), Value.int IntKind.u64 ↑(word (foldW s) 1), Value.int IntKind.u64 ↑(word (foldW s) 2), Value.int IntKind.u64 ↑(word (foldW s) 3)] 25))
    have H3 := Lib.hid (Two.mk' HS1'.out HS2.out hs hf (HB1.alloc HB1.size _))
    clear HS1' HS2
    generalize w1.alloc (Obj.cells #[Value.int IntKind.u64 ↑(word (foldW s) 0), Value.int IntKind.u64 ↑(word (foldW s) 1), Value.int IntKind.u64 ↑(word (foldW s) 2), Value.int IntKind.u64 ↑(word (foldW s) 3)] 25) = w3 at *
    have CF := fun W h1 h2 => fold_any (foldW s) W hf h1 h2
    have CH := fun (x : Int) W hx => has_lit (foldW s) x W hf hx
    have CO := fun bk W h1 h2 => or_any [s, foldW s] bk W (wf_two hs hf) (by simp) h1 h2
    simp only [HAG.out, HSF.out, HOR.out] at CF CH CO
    have HQ := fun W => run_eq4 (word (foldW s) 0) (word (foldW s) 1) (word (foldW s) 2) (word (foldW s) 3) W
    refine wp_region_noPanic ?_
    refine wp_region_held_drew (S := (fun w' => (w'.cell? ⟨w.heap.size, 0, none⟩ = some (.int .u64 (word s 0 : Int)) ∧ w'.cell? ⟨w.heap.size, 1, none⟩ = some (.int .u64 (word s 1 : Int)) ∧ w'.cell? ⟨w.heap.size, 2, none⟩ = some (.int .u64 (word s 2 : Int)) ∧ w'.cell? ⟨w.heap.size, 3, none⟩ = some (.int .u64 (word s 3 : Int))) ∧
        (w'.cell? ⟨w1.heap.size, 0, none⟩ = some (.int .u64 (word (foldW s) 0 : Int)) ∧ w'.cell? ⟨w1.heap.size, 1, none⟩ = some (.int .u64 (word (foldW s) 1 : Int)) ∧ w'.cell? ⟨w1.heap.size, 2, none⟩ = some (.int .u64 (word (foldW s) 2 : Int)) ∧ w'.cell? ⟨w1.heap.size, 3, none⟩ = some (.int .u64 (word (foldW s) 3 : Int))) ∧
        w.heap.size < w'.heap.size ∧ w1.heap.size < w'.heap.size ∧ Below w.heap.size w w')) (by kernel_rfl) ?_ (fun hHeld => ?_)
    · (try dsimp only); exact Two.drew H3.out
    refine wpAnyH_take (i := 0) (oi := ?ob0) (v := ?vb0) ?hib0 (by kernel_rfl) (by kernel_rfl) (by kernel_rfl) (fun _ _ _ h => h) ?hyb0 (by assumption) ?rb0
    case hib0 => simp only [List.getElem?_toArray, List.getElem?_cons_succ, List.getElem?_cons_zero]; rfl
    case hyb0 => exact Or.inl ⟨by rfl, by (intro w hSw; (try dsimp only at hSw); go_simp) <;> with_reducible rfl⟩
    try simp only [Act.put, List.setIfInBounds_toArray, List.set_cons_zero, List.set_cons_succ]
    refine wpAnyH_take (i := 2) (oi := ?ob2) (v := ?vb2) ?hib2 (by kernel_rfl) (by kernel_rfl) (by kernel_rfl) (fun _ _ _ h => h) ?hyb2 (by assumption) ?rb2
    case hib2 => simp only [List.getElem?_toArray, List.getElem?_cons_succ, List.getElem?_cons_zero]; rfl
    case hyb2 => exact Or.inl ⟨by rfl, by (intro w hSw; (try dsimp only at hSw); go_simp) <;> with_reducible rfl⟩
    try simp only [Act.put, List.setIfInBounds_toArray, List.set_cons_zero, List.set_cons_succ]
    refine wpAnyH_ready (rs := [1]) (by kernel_rfl) (by simp) ?_
    refine AllReadyH.cons (o := ?ob1) ?hib1 (fun K hK => ?stb1) AllReadyH.nil
    case hib1 => simp only [List.getElem?_toArray, List.getElem?_cons_succ, List.getElem?_cons_zero]; rfl
    go_simp
    (first
        | (go_at_call 14; refine (CF _ (Two.pos (by assumption) hg) (Two.tab (by assumption) hg HT.out)).mono ?_; rintro e w' ⟨rfl, hbl⟩)
        | (go_at_call 15; refine (CO _ _ (by simp) (lsL (heap_alloc_new _ _) rfl)).mono ?_; rintro e w' ⟨rfl, hbl⟩)
        | (go_at_call 16; refine (CH _ _ (by omega)).mono ?_; rintro e w' ⟨he, hbl⟩; (first | rw [show ((b : Int) + 32).toNat = b + 32 from by omega] at he | rw [Int.toNat_natCast, HM.out] at he); subst he)
        | (go_at_call 10; refine (shown_any _ (Two.pos (by assumption) hg) (Two.tab (by assumption) hg HT.out)).mono ?_; rintro e w' ⟨rfl, hbl⟩))
    refine hK.out _ _ ?_ (fun hHeld => ?_)
    · (try dsimp only); (first | exact Two.drew H3.out | assumption | exact Two.alloc (by assumption) _ | exact Two.below (by assumption) (by assumption))
    clear hK K
    try simp only [Act.put, List.setIfInBounds_toArray, List.set_cons_zero, List.set_cons_succ]
    refine wpAnyH_take (i := 3) (oi := ?ob3) (v := ?vb3) ?hib3 (by kernel_rfl) (by kernel_rfl) (by kernel_rfl) (fun _ _ _ h => h) ?hyb3 (by assumption) ?rb3
    case hib3 => simp only [List.getElem?_toArray, List.getElem?_cons_succ, List.getElem?_cons_zero]; rfl
    case hyb3 => exact Or.inl ⟨by rfl, by (intro w hSw; (try dsimp only at hSw); go_simp) <;> with_reducible rfl⟩
    try simp only [Act.put, List.setIfInBounds_toArray, List.set_cons_zero, List.set_cons_succ]
    refine wpAnyH_take (i := 4) (oi := ?ob4) (v := ?vb4) ?hib4 (by kernel_rfl) (by kernel_rfl) (by kernel_rfl) (fun _ _ _ h => h) ?hyb4 (by assumption) ?rb4
    case hib4 => simp only [List.getElem?_toArray, List.getElem?_cons_succ, List.getElem?_cons_zero]; rfl
    case hyb4 => exact Or.inl ⟨by rfl, by (intro w hSw; (try dsimp only at hSw); go_simp) <;> with_reducible rfl⟩
    try simp only [Act.put, List.setIfInBounds_toArray, List.set_cons_zero, List.set_cons_succ]
    refine wpAnyH_take (i := 5) (oi := ?ob5) (v := ?vb5) ?hib5 (by kernel_rfl) (by kernel_rfl) (by kernel_rfl) (fun _ _ _ h => h) ?hyb5 (by assumption) ?rb5
    case hib5 => simp only [List.getElem?_toArray, List.getElem?_cons_succ, List.getElem?_cons_zero]; rfl
    case hyb5 => exact Or.inl ⟨by rfl, by (intro w hSw; (try dsimp only at hSw); go_simp) <;> with_reducible rfl⟩
    try simp only [Act.put, List.setIfInBounds_toArray, List.set_cons_zero, List.set_cons_succ]
    refine wpAnyH_take (i := 6) (oi := ?ob6) (v := ?vb6) ?hib6 (by kernel_rfl) (by kernel_rfl) (by kernel_rfl) (fun _ _ _ h => h) ?hyb6 (by assumption) ?rb6
    case hib6 => simp only [List.getElem?_toArray, List.getElem?_cons_succ, List.getElem?_cons_zero]; rfl
    case hyb6 => exact Or.inl ⟨by rfl, by (intro w hSw; (try dsimp only at hSw); go_simp) <;> with_reducible rfl⟩
    try simp only [Act.put, List.setIfInBounds_toArray, List.set_cons_zero, List.set_cons_succ]
    refine wpAnyH_take (i := 9) (oi := ?ob9) (v := ?vb9) ?hib9 (by kernel_rfl) (by kernel_rfl) (by kernel_rfl) (fun _ _ _ h => h) ?hyb9 (by assumption) ?rb9
    case hib9 => simp only [List.getElem?_toArray, List.getElem?_cons_succ, List.getElem?_cons_zero]; rfl
    case hyb9 => exact Or.inl ⟨by rfl, by (intro w hSw; (try dsimp only at hSw); go_simp) <;> with_reducible rfl⟩
    try simp only [Act.put, List.setIfInBounds_toArray, List.set_cons_zero, List.set_cons_succ]
    refine wpAnyH_ready (rs := [7]) (by kernel_rfl) (by simp) ?_
    refine AllReadyH.cons (o := ?ob7) ?hib7 (fun K hK => ?stb7) AllReadyH.nil
    case hib7 => simp only [List.getElem?_toArray, List.getElem?_cons_succ, List.getElem?_cons_zero]; rfl
    go_simp
    refine hK.out _ _ ?_ (fun hHeld => ?_)
    · (try dsimp only); (first | exact Two.drew H3.out | assumption | exact Two.alloc (by assumption) _ | exact Two.below (by assumption) (by assumption))
    clear hK K
    try simp only [Act.put, List.setIfInBounds_toArray, List.set_cons_zero, List.set_cons_succ]
    refine wpAnyH_ready (rs := [8]) (by kernel_rfl) (by simp) ?_
    refine AllReadyH.cons (o := ?ob8) ?hib8 (fun K hK => ?stb8) AllReadyH.nil
    case hib8 => simp only [List.getElem?_toArray, List.getElem?_cons_succ, List.getElem?_cons_zero]; rfl
    go_simp
    (first
        | (go_at_call 14; refine (CF _ (Two.pos (by assumption) hg) (Two.tab (by assumption) hg HT.out)).mono ?_; rintro e w' ⟨rfl, hbl⟩)
        | (go_at_call 15; refine (CO _ _ (by simp) (lsL (heap_alloc_new _ _) rfl)).mono ?_; rintro e w' ⟨rfl, hbl⟩)
        | (go_at_call 16; refine (CH _ _ (by omega)).mono ?_; rintro e w' ⟨he, hbl⟩; (first | rw [show ((b : Int) + 32).toNat = b + 32 from by omega] at he | rw [Int.toNat_natCast, HM.out] at he); subst he)
        | (go_at_call 10; refine (shown_any _ (Two.pos (by assumption) hg) (Two.tab (by assumption) hg HT.out)).mono ?_; rintro e w' ⟨rfl, hbl⟩))
    refine hK.out _ _ ?_ (fun hHeld => ?_)
    · (try dsimp only); (first | exact Two.drew H3.out | assumption | exact Two.alloc (by assumption) _ | exact Two.below (by assumption) (by assumption))
    clear hK K
    try simp only [Act.put, List.setIfInBounds_toArray, List.set_cons_zero, List.set_cons_succ]
    refine wpAnyH_take (i := 10) (oi := ?ob10) (v := ?vb10) ?hib10 (by kernel_rfl) (by kernel_rfl) (by kernel_rfl) (fun _ _ _ h => h) ?hyb10 (by assumption) ?rb10
    case hib10 => simp only [List.getElem?_toArray, List.getElem?_cons_succ, List.getElem?_cons_zero]; rfl
    case hyb10 => exact Or.inl ⟨by rfl, by (intro w hSw; (try dsimp only at hSw); go_simp) <;> with_reducible rfl⟩
    try simp only [Act.put, List.setIfInBounds_toArray, List.set_cons_zero, List.set_cons_succ]
    refine wpAnyH_take (i := 11) (oi := ?ob11) (v := ?vb11) ?hib11 (by kernel_rfl) (by kernel_rfl) (by kernel_rfl) (fun _ _ _ h => h) ?hyb11 (by assumption) ?rb11
    case hib11 => simp only [List.getElem?_toArray, List.getElem?_cons_succ, List.getElem?_cons_zero]; rfl
    case hyb11 => exact Or.inl ⟨by rfl, by (intro w hSw; (try dsimp only at hSw); go_simp) <;> with_reducible rfl⟩
    try simp only [Act.put, List.setIfInBounds_toArray, List.set_cons_zero, List.set_cons_succ]
    refine wpAnyH_take (i := 12) (oi := ?ob12) (v := ?vb12) ?hib12 (by kernel_rfl) (by kernel_rfl) (by kernel_rfl) (fun _ _ _ h => h) ?hyb12 (by assumption) ?rb12
    case hib12 => simp only [List.getElem?_toArray, List.getElem?_cons_succ, List.getElem?_cons_zero]; rfl
    case hyb12 => exact Or.inl ⟨by rfl, by (intro w hSw; (try dsimp only at hSw); go_simp) <;> with_reducible rfl⟩
    try simp only [Act.put, List.setIfInBounds_toArray, List.set_cons_zero, List.set_cons_succ]
    refine wpAnyH_take (i := 13) (oi := ?ob13) (v := ?vb13) ?hib13 (by kernel_rfl) (by kernel_rfl) (by kernel_rfl) (fun _ _ _ h => h) ?hyb13 (by assumption) ?rb13
    case hib13 => simp only [List.getElem?_toArray, List.getElem?_cons_succ, List.getElem?_cons_zero]; rfl
    case hyb13 => exact Or.inl ⟨by rfl, by (intro w hSw; (try dsimp only at hSw); go_simp) <;> with_reducible rfl⟩
    try simp only [Act.put, List.setIfInBounds_toArray, List.set_cons_zero, List.set_cons_succ]
    refine wpAnyH_take (i := 14) (oi := ?ob14) (v := ?vb14) ?hib14 (by kernel_rfl) (by kernel_rfl) (by kernel_rfl) (fun _ _ _ h => h) ?hyb14 (by assumption) ?rb14
    case hib14 => simp only [List.getElem?_toArray, List.getElem?_cons_succ, List.getElem?_cons_zero]; rfl
    case hyb14 => exact Or.inl ⟨by rfl, by (intro w hSw; (try dsimp only at hSw); go_simp) <;> with_reducible rfl⟩
    try simp only [Act.put, List.setIfInBounds_toArray, List.set_cons_zero, List.set_cons_succ]
    refine wpAnyH_take (i := 15) (oi := ?ob15) (v := ?vb15) ?hib15 (by kernel_rfl) (by kernel_rfl) (by kernel_rfl) (fun _ _ _ h => h) ?hyb15 (by assumption) ?rb15
    case hib15 => simp only [List.getElem?_toArray, List.getElem?_cons_succ, List.getElem?_cons_zero]; rfl
    case hyb15 => exact Or.inl ⟨by rfl, by (intro w hSw; (try dsimp only at hSw); go_simp) <;> with_reducible rfl⟩
    try simp only [Act.put, List.setIfInBounds_toArray, List.set_cons_zero, List.set_cons_succ]
    refine wpAnyH_take (i := 16) (oi := ?ob16) (v := undef) ?hib16 (by kernel_rfl) (by kernel_rfl) (by kernel_rfl) (fun _ _ _ h => h) ?hyb16 (by assumption) ?rb16
    case hib16 => simp only [List.getElem?_toArray, List.getElem?_cons_succ, List.getElem?_cons_zero]; rfl
    case hyb16 => exact Or.inr ⟨by rfl, rfl⟩
    try simp only [Act.put, List.setIfInBounds_toArray, List.set_cons_zero, List.set_cons_succ]
    refine wpAnyH_take (i := 17) (oi := ?ob17) (v := undef) ?hib17 (by kernel_rfl) (by kernel_rfl) (by kernel_rfl) (fun _ _ _ h => h) ?hyb17 (by assumption) ?rb17
    case hib17 => simp only [List.getElem?_toArray, List.getElem?_cons_succ, List.getElem?_cons_zero]; rfl
    case hyb17 => exact Or.inr ⟨by rfl, rfl⟩
    try simp only [Act.put, List.setIfInBounds_toArray, List.set_cons_zero, List.set_cons_succ]
    refine wpAnyH_take (i := 19) (oi := ?ob19) (v := undef) ?hib19 (by kernel_rfl) (by kernel_rfl) (by kernel_rfl) (fun _ _ _ h => h) ?hyb19 (by assumption) ?rb19
    case hib19 => simp only [List.getElem?_toArray, List.getElem?_cons_succ, List.getElem?_cons_zero]; rfl
    case hyb19 => exact Or.inr ⟨by rfl, rfl⟩
    try simp only [Act.put, List.setIfInBounds_toArray, List.set_cons_zero, List.set_cons_succ]
    refine wpAnyH_take (i := 20) (oi := ?ob20) (v := undef) ?hib20 (by kernel_rfl) (by kernel_rfl) (by kernel_rfl) (fun _ _ _ h => h) ?hyb20 (by assumption) ?rb20
    case hib20 => simp only [List.getElem?_toArray, List.getElem?_cons_succ, List.getElem?_cons_zero]; rfl
    case hyb20 => exact Or.inr ⟨by rfl, rfl⟩
    try simp only [Act.put, List.setIfInBounds_toArray, List.set_cons_zero, List.set_cons_succ]
    refine wpAnyH_take (i := 21) (oi := ?ob21) (v := undef) ?hib21 (by kernel_rfl) (by kernel_rfl) (by kernel_rfl) (fun _ _ _ h => h) ?hyb21 (by assumption) ?rb21
    case hib21 => simp only [List.getElem?_toArray, List.getElem?_cons_succ, List.getElem?_cons_zero]; rfl
    case hyb21 => exact Or.inr ⟨by rfl, rfl⟩
    try simp only [Act.put, List.setIfInBounds_toArray, List.set_cons_zero, List.set_cons_succ]
    refine wpAnyH_take (i := 18) (oi := ?ob18) (v := undef) ?hib18 (by kernel_rfl) (by kernel_rfl) (by kernel_rfl) (fun _ _ _ h => h) ?hyb18 (by assumption) ?rb18
    case hib18 => simp only [List.getElem?_toArray, List.getElem?_cons_succ, List.getElem?_cons_zero]; rfl
    case hyb18 => exact Or.inr ⟨by rfl, rfl⟩
    try simp only [Act.put, List.setIfInBounds_toArray, List.set_cons_zero, List.set_cons_succ]
    refine wpAnyH_take (i := 22) (oi := ?ob22) (v := undef) ?hib22 (by kernel_rfl) (by kernel_rfl) (by kernel_rfl) (fun _ _ _ h => h) ?hyb22 (by assumption) ?rb22
    case hib22 => simp only [List.getElem?_toArray, List.getElem?_cons_succ, List.getElem?_cons_zero]; rfl
    case hyb22 => exact Or.inr ⟨by rfl, rfl⟩
    try simp only [Act.put, List.setIfInBounds_toArray, List.set_cons_zero, List.set_cons_succ]
    refine wpAnyH_take (i := 23) (oi := ?ob23) (v := undef) ?hib23 (by kernel_rfl) (by kernel_rfl) (by kernel_rfl) (fun _ _ _ h => h) ?hyb23 (by assumption) ?rb23
    case hib23 => simp only [List.getElem?_toArray, List.getElem?_cons_succ, List.getElem?_cons_zero]; rfl
    case hyb23 => exact Or.inr ⟨by rfl, rfl⟩
    try simp only [Act.put, List.setIfInBounds_toArray, List.set_cons_zero, List.set_cons_succ]
    refine wpAnyH_take (i := 24) (oi := ?ob24) (v := ?vb24) ?hib24 (by kernel_rfl) (by kernel_rfl) (by kernel_rfl) (fun _ _ _ h => h) ?hyb24 (by assumption) ?rb24
    case hib24 => simp only [List.getElem?_toArray, List.getElem?_cons_succ, List.getElem?_cons_zero]; rfl
    case hyb24 => exact Or.inl ⟨by rfl, by (intro w hSw; (try dsimp only at hSw); go_simp) <;> with_reducible rfl⟩
    try simp only [Act.put, List.setIfInBounds_toArray, List.set_cons_zero, List.set_cons_succ]
    refine wpAnyH_take (i := 25) (oi := ?ob25) (v := ?vb25) ?hib25 (by kernel_rfl) (by kernel_rfl) (by kernel_rfl) (fun _ _ _ h => h) ?hyb25 (by assumption) ?rb25
    case hib25 => simp only [List.getElem?_toArray, List.getElem?_cons_succ, List.getElem?_cons_zero]; rfl
    case hyb25 => exact Or.inl ⟨by rfl, by (intro w hSw; (try dsimp only at hSw); go_simp) <;> with_reducible rfl⟩
    try simp only [Act.put, List.setIfInBounds_toArray, List.set_cons_zero, List.set_cons_succ]
    refine wpAnyH_take (i := 26) (oi := ?ob26) (v := ?vb26) ?hib26 (by kernel_rfl) (by kernel_rfl) (by kernel_rfl) (fun _ _ _ h => h) ?hyb26 (by assumption) ?rb26
    case hib26 => simp only [List.getElem?_toArray, List.getElem?_cons_succ, List.getElem?_cons_zero]; rfl
    case hyb26 => exact Or.inl ⟨by rfl, by (intro w hSw; (try dsimp only at hSw); go_simp) <;> with_reducible rfl⟩
    try simp only [Act.put, List.setIfInBounds_toArray, List.set_cons_zero, List.set_cons_succ]
    refine wpAnyH_ready (rs := [27]) (by kernel_rfl) (by simp) ?_
    refine AllReadyH.cons (o := ?ob27) ?hib27 (fun K hK => ?stb27) AllReadyH.nil
    case hib27 => simp only [List.getElem?_toArray, List.getElem?_cons_succ, List.getElem?_cons_zero]; rfl
    go_simp
    (first
        | (go_at_call 14; refine (CF _ (Two.pos (by assumption) hg) (Two.tab (by assumption) hg HT.out)).mono ?_; rintro e w' ⟨rfl, hbl⟩)
        | (go_at_call 15; refine (CO _ _ (by simp) (lsL (heap_alloc_new _ _) rfl)).mono ?_; rintro e w' ⟨rfl, hbl⟩)
        | (go_at_call 16; refine (CH _ _ (by omega)).mono ?_; rintro e w' ⟨he, hbl⟩; (first | rw [show ((b : Int) + 32).toNat = b + 32 from by omega] at he | rw [Int.toNat_natCast, HM.out] at he); subst he)
        | (go_at_call 10; refine (shown_any _ (Two.pos (by assumption) hg) (Two.tab (by assumption) hg HT.out)).mono ?_; rintro e w' ⟨rfl, hbl⟩))
    refine hK.out _ _ ?_ (fun hHeld => ?_)
    · (try dsimp only); (first | exact Two.drew H3.out | assumption | exact Two.alloc (by assumption) _ | exact Two.below (by assumption) (by assumption))
    clear hK K
    try simp only [Act.put, List.setIfInBounds_toArray, List.set_cons_zero, List.set_cons_succ]
    refine wpAnyH_take (i := 28) (oi := ?ob28) (v := ?vb28) ?hib28 (by kernel_rfl) (by kernel_rfl) (by kernel_rfl) (fun _ _ _ h => h) ?hyb28 (by assumption) ?rb28
    case hib28 => simp only [List.getElem?_toArray, List.getElem?_cons_succ, List.getElem?_cons_zero]; rfl
    case hyb28 => exact Or.inl ⟨by rfl, by (intro w hSw; (try dsimp only at hSw); go_simp) <;> with_reducible rfl⟩
    try simp only [Act.put, List.setIfInBounds_toArray, List.set_cons_zero, List.set_cons_succ]
    refine wpAnyH_take (i := 29) (oi := ?ob29) (v := ?vb29) ?hib29 (by kernel_rfl) (by kernel_rfl) (by kernel_rfl) (fun _ _ _ h => h) ?hyb29 (by assumption) ?rb29
    case hib29 => simp only [List.getElem?_toArray, List.getElem?_cons_succ, List.getElem?_cons_zero]; rfl
    case hyb29 => exact Or.inl ⟨by rfl, by (intro w hSw; (try dsimp only at hSw); go_simp) <;> with_reducible rfl⟩
    try simp only [Act.put, List.setIfInBounds_toArray, List.set_cons_zero, List.set_cons_succ]
    refine wpAnyH_done (by kernel_rfl) ?_ _
    refine NoPanic.normal ?_
    go_wp2
    go_ret
    exact ⟨rfl, Two.last (by assumption)⟩
theorem setFolds_walk (s : List Nat) (b : Int) (hs : Wf s) (wb : (Lit.int .u8 b).wf = true) (W : World) (hg : 0 < W.heap.size) (hT : Tab W) :
    Calls Tryd.prog 4 #[SV s, .int .u8 b] W fun e w' => e = .returned (.bool true) ∧ Below W.heap.size W w' := by
  obtain ⟨b, rfl, hb⟩ := u8_nat wb
  exact setFolds_nat s b hs hb W hg hT
end Go.Proofs.YtmlgbjdohijlnaaDoor.St
