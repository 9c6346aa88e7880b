/- set.Class at xdigit. -/
import Derived.Test.YtmlgbjdohijlnaaDoorSc1
import Derived.Test.YtmlgbjdohijlnaaDoorStFolds2
namespace Go.Proofs.YtmlgbjdohijlnaaDoor.St
open Go.RowKit
set_option linter.unusedVariables false
set_option linter.unusedSimpArgs false
set_option maxRecDepth 100000 in
set_option maxHeartbeats 2000000 in
theorem class_xdigit (w : World) :
    Calls Tryd.prog 11 #[.string ⟨#[120, 100, 105, 103, 105, 116]⟩] w fun e w' => e = .returned (.tuple #[SV (orL [rangeW 48 57, rangeW 65 70, rangeW 97 102]), .bool true]) ∧ Below w.heap.size w w' := by
  go_enter Tryd.func11, Tryd.ntmps11
  refine wp_seq_k fun K0 hK => ?_
  have HK := Lib.hid hK; clear hK
  go_wp2
  refine HK.out _ _ ?_
  clear HK K0
  have HC := Lib.hid (show SB (w.alloc (Obj.cells #[Value.int IntKind.u64 0, Value.int IntKind.u64 0, Value.int IntKind.u64 0, Value.int IntKind.u64 0] 25)) w.heap.size zeroW ∧ Below w.heap.size w (w.alloc (Obj.cells #[Value.int IntKind.u64 0, Value.int IntKind.u64 0, Value.int IntKind.u64 0, Value.int IntKind.u64 0] 25)) from ⟨heap_alloc_new w _, (Below.refl _ w).alloc (Nat.le_refl _) _⟩)
  generalize w.alloc (Obj.cells #[Value.int IntKind.u64 0, Value.int IntKind.u64 0, Value.int IntKind.u64 0, Value.int IntKind.u64 0] 25) = W0 at *
  refine wp_seq_k fun K1 hK => ?_
  have HK := Lib.hid hK; clear hK
  go_wp2_with (first
    | (go_at_call 20; refine (range_lit _ _ _ (by omega) (by omega)).mono ?_; rintro e w' ⟨he, hb⟩
       replace HC := Lib.hid (zb_below HC.out hb)
       simp only [Int.reduceToNat] at he
       rw [SV_eq (wf_rangeW (by decide) (by decide))] at he; subst he; clear hb))
  refine HK.out _ _ ?_
  clear HK K1
  have HL := Lib.hid (show Cl w w'.heap.size (((w'.alloc (Obj.cells #[Value.int IntKind.u64 ↑(word (rangeW 65 90) 0), Value.int IntKind.u64 ↑(word (rangeW 65 90) 1), Value.int IntKind.u64 ↑(word (rangeW 65 90) 2), Value.int IntKind.u64 ↑(word (rangeW 65 90) 3)] 25)).alloc (Obj.cells #[Value.int IntKind.u64 ↑(word (rangeW 97 122) 0), Value.int IntKind.u64 ↑(word (rangeW 97 122) 1), Value.int IntKind.u64 ↑(word (rangeW 97 122) 2), Value.int IntKind.u64 ↑(word (rangeW 97 122) 3)] 25)).alloc (Obj.cells #[Value.int IntKind.u64 ↑(word (rangeW 48 57) 0), Value.int IntKind.u64 ↑(word (rangeW 48 57) 1), Value.int IntKind.u64 ↑(word (rangeW 48 57) 2), Value.int IntKind.u64 ↑(word (rangeW 48 57) 3)] 25)) from cl_mk HC.out)
  have hlt0 : w.heap.size < w'.heap.size := (Array.getElem?_eq_some_iff.1 HC.out.1).1
  clear HC
  generalize ((w'.alloc (Obj.cells #[Value.int IntKind.u64 ↑(word (rangeW 65 90) 0), Value.int IntKind.u64 ↑(word (rangeW 65 90) 1), Value.int IntKind.u64 ↑(word (rangeW 65 90) 2), Value.int IntKind.u64 ↑(word (rangeW 65 90) 3)] 25)).alloc (Obj.cells #[Value.int IntKind.u64 ↑(word (rangeW 97 122) 0), Value.int IntKind.u64 ↑(word (rangeW 97 122) 1), Value.int IntKind.u64 ↑(word (rangeW 97 122) 2), Value.int IntKind.u64 ↑(word (rangeW 97 122) 3)] 25)).alloc (Obj.cells #[Value.int IntKind.u64 ↑(word (rangeW 48 57) 0), Value.int IntKind.u64 ↑(word (rangeW 48 57) 1), Value.int IntKind.u64 ↑(word (rangeW 48 57) 2), Value.int IntKind.u64 ↑(word (rangeW 48 57) 3)] 25) = W at *
  generalize w'.heap.size = n at *
  go_wp2
  refine wp_region_noPanic ?_
  refine wp_region_held_drew (S := (fun w' => (w'.cell? ⟨n + 2, 0, none⟩ = some (.int .u64 (word (rangeW 48 57) 0 : Int)) ∧ w'.cell? ⟨n + 2, 1, none⟩ = some (.int .u64 (word (rangeW 48 57) 1 : Int)) ∧ w'.cell? ⟨n + 2, 2, none⟩ = some (.int .u64 (word (rangeW 48 57) 2 : Int)) ∧ w'.cell? ⟨n + 2, 3, none⟩ = some (.int .u64 (word (rangeW 48 57) 3 : Int))))) (by kernel_rfl) ?_ (fun hHeld => ?_)
  · (try dsimp only); exact sb_cells (Cl.drew HL.out).2.2.2.1 (wf_rangeW (by decide) (by decide))
  replace HL := Lib.hid (Cl.drew HL.out)
  generalize W.drew = W2 at *
  refine wpAnyH_take (i := 0) (oi := ?o0) (v := ?v0) ?hi0 (by kernel_rfl) (by kernel_rfl) (by kernel_rfl) (fun _ _ _ h => h) ?hy0 (by assumption) ?r0
  case hi0 => simp only [List.getElem?_toArray, List.getElem?_cons_succ, List.getElem?_cons_zero]; rfl
  case hy0 => exact Or.inl ⟨by rfl, by (intro w hSw; (try dsimp only at hSw); go_simp) <;> with_reducible rfl⟩
  try simp only [Act.put, List.setIfInBounds_toArray, List.set_cons_zero, List.set_cons_succ]
  refine wpAnyH_ready (rs := [1]) (by kernel_rfl) (by simp) ?_
  refine AllReadyH.cons (o := ?o1) ?hi1 (fun K hK => ?st1) AllReadyH.nil
  case hi1 => simp only [List.getElem?_toArray, List.getElem?_cons_succ, List.getElem?_cons_zero]; rfl
  go_simp
  (go_at_call 20; refine (range_lit _ _ _ (by omega) (by omega)).mono ?_; rintro e w' ⟨he, hb⟩; replace HL := Lib.hid (Cl.below HL.out hb); simp only [Int.reduceToNat] at he; rw [SV_eq (wf_rangeW (by decide) (by decide))] at he; subst he; clear hb)
  refine hK.out _ _ ?_ (fun hHeld => ?_)
  · (try dsimp only); (first | exact sb_cells HL.out.2.2.2.1 (wf_rangeW (by decide) (by decide)) | exact sb_cells (sb_alloc HL.out.2.2.2.1 _) (wf_rangeW (by decide) (by decide)))
  clear hK K
  try simp only [Act.put, List.setIfInBounds_toArray, List.set_cons_zero, List.set_cons_succ]
  refine wpAnyH_ready (rs := [2]) (by kernel_rfl) (by simp) ?_
  refine AllReadyH.cons (o := ?o2) ?hi2 (fun K hK => ?st2) AllReadyH.nil
  case hi2 => simp only [List.getElem?_toArray, List.getElem?_cons_succ, List.getElem?_cons_zero]; rfl
  go_simp
  (go_at_call 20; refine (range_lit _ _ _ (by omega) (by omega)).mono ?_; rintro e w' ⟨he, hb⟩; replace HL := Lib.hid (Cl.below HL.out hb); simp only [Int.reduceToNat] at he; rw [SV_eq (wf_rangeW (by decide) (by decide))] at he; subst he; clear hb)
  refine hK.out _ _ ?_ (fun hHeld => ?_)
  · (try dsimp only); (first | exact sb_cells HL.out.2.2.2.1 (wf_rangeW (by decide) (by decide)) | exact sb_cells (sb_alloc HL.out.2.2.2.1 _) (wf_rangeW (by decide) (by decide)))
  clear hK K
  try simp only [Act.put, List.setIfInBounds_toArray, List.set_cons_zero, List.set_cons_succ]
  refine wpAnyH_ready (rs := [3]) (by kernel_rfl) (by simp) ?_
  refine AllReadyH.cons (o := ?o3) ?hi3 (fun K hK => ?st3) AllReadyH.nil
  case hi3 => simp only [List.getElem?_toArray, List.getElem?_cons_succ, List.getElem?_cons_zero]; rfl
  go_simp
  refine hK.out _ _ ?_ (fun hHeld => ?_)
  · (try dsimp only); (first | exact sb_cells HL.out.2.2.2.1 (wf_rangeW (by decide) (by decide)) | exact sb_cells (sb_alloc HL.out.2.2.2.1 _) (wf_rangeW (by decide) (by decide)))
  clear hK K
  try simp only [Act.put, List.setIfInBounds_toArray, List.set_cons_zero, List.set_cons_succ]
  refine wpAnyH_ready (rs := [4]) (by kernel_rfl) (by simp) ?_
  refine AllReadyH.cons (o := ?o4) ?hi4 (fun K hK => ?st4) AllReadyH.nil
  case hi4 => simp only [List.getElem?_toArray, List.getElem?_cons_succ, List.getElem?_cons_zero]; rfl
  go_simp
  (go_at_call 15; refine (or_any [rangeW 48 57, rangeW 65 70, rangeW 97 102] _ _ (wf_all (by simp [wf_rangeW, wf_ofL])) (by simp) (by simp) (lsL (heap_alloc_new _ _) rfl)).mono ?_; rintro e w' ⟨he, hb⟩; replace HL := Lib.hid (Cl.below (Cl.alloc HL.out _) hb); rw [SV_eq (wf_orL (wf_all (by simp [wf_rangeW, wf_ofL])))] at he; subst he; clear hb)
  refine hK.out _ _ ?_ (fun hHeld => ?_)
  · (try dsimp only); (first | exact sb_cells HL.out.2.2.2.1 (wf_rangeW (by decide) (by decide)) | exact sb_cells (sb_alloc HL.out.2.2.2.1 _) (wf_rangeW (by decide) (by decide)))
  clear hK K
  try simp only [Act.put, List.setIfInBounds_toArray, List.set_cons_zero, List.set_cons_succ]
  have k0 := SB.cell HL.out.1 wf_zero (i := 0) (by omega)
  have k1 := SB.cell HL.out.1 wf_zero (i := 1) (by omega)
  have k2 := SB.cell HL.out.1 wf_zero (i := 2) (by omega)
  have k3 := SB.cell HL.out.1 wf_zero (i := 3) (by omega)
  have f0 := Lib.frozen_of_heap HL.out.1 0
  have f1 := Lib.frozen_of_heap HL.out.1 1
  have f2 := Lib.frozen_of_heap HL.out.1 2
  have f3 := Lib.frozen_of_heap HL.out.1 3
  refine wpAnyH_ready (rs := [5]) (by kernel_rfl) (by simp) ?_
  refine AllReadyH.cons (o := ?oz) ?hiz (fun K hK => ?stz) AllReadyH.nil
  case hiz => simp only [List.getElem?_toArray, List.getElem?_cons_succ, List.getElem?_cons_zero]; rfl
  go_simp
  refine hK.out _ _ ?_ (fun hHeld => ?_)
  · (try dsimp only); exact sb_cells (put4_other HL.out.2.2.2.1 (by omega) (orL [rangeW 48 57, rangeW 65 70, rangeW 97 102])) (wf_rangeW (by decide) (by decide))
  clear hK K
  try simp only [Act.put, List.setIfInBounds_toArray, List.set_cons_zero, List.set_cons_succ]
  refine wpAnyH_take (i := 6) (oi := ?o6) (v := ?v6) ?hi6 (by kernel_rfl) (by kernel_rfl) (by kernel_rfl) (fun _ _ _ h => h) ?hy6 (by assumption) ?r6
  case hi6 => simp only [List.getElem?_toArray, List.getElem?_cons_succ, List.getElem?_cons_zero]; rfl
  case hy6 => exact Or.inl ⟨by rfl, by (intro w hSw; (try dsimp only at hSw); go_simp) <;> with_reducible rfl⟩
  try simp only [Act.put, List.setIfInBounds_toArray, List.set_cons_zero, List.set_cons_succ]
  refine wpAnyH_done (by kernel_rfl) ?_ _
  refine NoPanic.normal ?_
  go_wp2
  have hwf : Wf (orL [rangeW 48 57, rangeW 65 70, rangeW 97 102]) := (wf_orL (wf_all (by simp [wf_rangeW, wf_ofL])))
  have HSV := Lib.hid (SV_eq hwf)
  have hP := HL.out.1.put wf_zero hwf
  have hBP := put4_below HL.out.2.2.2.2 (Nat.le_refl _) (orL [rangeW 48 57, rangeW 65 70, rangeW 97 102])
  rw [put4_eq]
  have m0 := hP.cell hwf (i := 0) (by omega)
  have m1 := hP.cell hwf (i := 1) (by omega)
  have m2 := hP.cell hwf (i := 2) (by omega)
  have m3 := hP.cell hwf (i := 3) (by omega)
  generalize put4 w' w.heap.size (orL [rangeW 48 57, rangeW 65 70, rangeW 97 102]) = WW at *
  exact bodyPost_ret (v := .tuple #[SV (orL [rangeW 48 57, rangeW 65 70, rangeW 97 102]), .bool true]) (by rw [HSV.out]; simp [results, Tryd.results11, go_sem, m0, m1, m2, m3]) rfl ⟨rfl, hBP⟩
end Go.Proofs.YtmlgbjdohijlnaaDoor.St
