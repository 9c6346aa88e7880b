/- SetTells: the walk. -/
import Derived.Test.YtmlgbjdohijlnaaDoorSr8
import Derived.Test.YtmlgbjdohijlnaaDoorSrWords
import Derived.Test.YtmlgbjdohijlnaaDoorStOrs
namespace Go.Proofs.YtmlgbjdohijlnaaDoor.St
open Go.RowKit
set_option linter.unusedVariables false
set_option linter.unusedSimpArgs false
theorem told_agg (ws : List Nat) (w : World) (h : Wf ws) :
    Calls Tryd.prog 13 #[Value.agg #[Value.int IntKind.u64 (word ws 0 : Int), Value.int IntKind.u64 (word ws 1 : Int), Value.int IntKind.u64 (word ws 2 : Int), Value.int IntKind.u64 (word ws 3 : Int)]] w fun e w' => e = .returned (BV (mem ws)) ∧ Below w.heap.size w w' := by
  have := toldL_any ws w h
  rwa [SV_eq h] at this
set_option maxRecDepth 100000 in
set_option maxHeartbeats 8000000 in
theorem setTells_le (s t : List Nat) (l : List UInt8) (a b : Nat) (hs : Wf s) (ht : Wf t) (ha : a < 256) (hb : b < 256) (hl : l.length ≤ 300) (w : World) (hg : 0 < w.heap.size) (hT : Tab w) :
    Calls Tryd.prog 7 #[SV s, SV t, .string ⟨l.toArray⟩, .int .u8 (a : Int), .int .u8 (b : Int)] w fun e w' => e = .returned (.bool true) ∧ Below w.heap.size w w' := by
  have HT := Lib.hid hT
  clear hT
  have hsz : (ByteArray.mk l.toArray).size = l.length := by simp [ByteArray.size]
  have hI : ¬ (300 : Int) < (l.length : Int) := by omega
  have hl0 : l.length ≤ 1000000 := by omega
  have hwl := wf_ofL l
  have hr := wf_rangeW ha hb
  have hu : Wf (orL [s, t]) := wf_orL (wf_two hs ht)
  have hns := wf_notW hs
  have hf := wf_foldW' hs
  have HSS := Lib.hid (SV_eq hs)
  have HST := Lib.hid (SV_eq ht)
  have HSL := Lib.hid (SV_eq hwl)
  have HSR := Lib.hid (SV_eq hr)
  have HSU := Lib.hid (SV_eq hu)
  have HSN := Lib.hid (SV_eq hns)
  have HSF := Lib.hid (SV_eq hf)
  have CSH := fun W h1 h2 => shown_any W h1 h2
  go_enter Tryd.func7, Tryd.ntmps7
  refine wp_seq_k fun K0 hK => ?_
  have HK := Lib.hid hK; clear hK
  go_wp2
  refine HK.out _ _ ?_
  clear HK K0
  have H2 := Lib.hid (Two.mk' (b1 := w.heap.size) (b2 := w.heap.size + 1) (w0 := w) (sb_alloc (heap_alloc_new w (Obj.cells (wc s) 25)) (Obj.cells (wc t) 25)) (show SB _ (w.heap.size + 1) t from (two_new w _ _).2) hs ht (((Below.refl _ w).alloc (Nat.le_refl _) _).alloc (alloc_le _ _) _))
  generalize (w.alloc (Obj.cells (wc s) 25)).alloc (Obj.cells (wc t) 25) = wA at *
  go_wp2_with (first
    | (go_at_call 10; refine (CSH _ (Two.pos H2.out hg) (Two.tab H2.out hg HT.out)).mono ?_; rintro e w1 ⟨rfl, hb1⟩))
  have H3 := Lib.hid (Two.drew (Two.below H2.out hb1))
  clear H2 hb1 CSH
  have CO := fun W => of_any l W hl0
  have CR := fun W => refOf_any l W hl0
  have CH := fun (x : Int) W hx => has_lit s x W hs hx
  have CRa := fun W => range_lit (a : Int) (b : Int) W (by omega) (by omega)
  have CRr := fun W => refRange_nat a b W ha hb
  have COr := fun bk W h1 h2 => or_any [s, t] bk W (wf_two hs ht) (by simp) h1 h2
  have CN := fun W => not_any s W hs
  have CF := fun W h1 h2 => fold_any s W hs h1 h2
  have CS := fun W => size_any s W hs
  have CB := fun W h1 h2 => bytes_any s W hs h1 h2
  have CN0 := fun W => or_nil W
  simp only [Int.toNat_natCast] at CRa
  simp only [HSS.out, HST.out, HSL.out, HSR.out, HSU.out, HSN.out, HSF.out] at CO CH CRa COr CN CF CS CB
  rw [show SV zeroW = .agg #[.int .u64 0, .int .u64 0, .int .u64 0, .int .u64 0] from rfl] at CN0
  have HQ := fun f W => run_eq256 f W
  have HQ0 : ∀ W, (Op.equalIn 10000 25 (.agg #[.int .u64 0, .int .u64 0, .int .u64 0, .int .u64 0]) (.agg #[.int .u64 0, .int .u64 0, .int .u64 0, .int .u64 0])).run Tryd.prog W = .ok true W := fun W => run_eq4 0 0 0 0 W
  have hia := fun W => idx_row (mem s) ha W
  have hqq : (mem s a == mem s a) = true := beq_self_eq_true _
  refine wp_region_noPanic ?_
  refine wp_region_held_drew (S := (fun w' => ((w'.cell? ⟨w.heap.size, 0, none⟩ = some (.int .u64 (word (s) 0 : Int)) ∧ w'.cell? ⟨w.heap.size, 1, none⟩ = some (.int .u64 (word (s) 1 : Int)) ∧ w'.cell? ⟨w.heap.size, 2, none⟩ = some (.int .u64 (word (s) 2 : Int)) ∧ w'.cell? ⟨w.heap.size, 3, none⟩ = some (.int .u64 (word (s) 3 : Int))) ∧ (w'.cell? ⟨(w.heap.size + 1), 0, none⟩ = some (.int .u64 (word (t) 0 : Int)) ∧ w'.cell? ⟨(w.heap.size + 1), 1, none⟩ = some (.int .u64 (word (t) 1 : Int)) ∧ w'.cell? ⟨(w.heap.size + 1), 2, none⟩ = some (.int .u64 (word (t) 2 : Int)) ∧ w'.cell? ⟨(w.heap.size + 1), 3, none⟩ = some (.int .u64 (word (t) 3 : Int))) ∧ w.heap.size < w'.heap.size ∧ (w.heap.size + 1) < w'.heap.size ∧ Below w.heap.size w w'))) (by kernel_rfl) ?_ (fun hHeld => ?_)
  · (try dsimp only); exact H3.out
  clear H3
  generalize w1.drew = w2 at *
  refine wpAnyH_take (i := 0) (oi := ?o0) (v := ?v0) ?hi0 (by kernel_rfl) (by kernel_rfl) (by kernel_rfl) (fun _ _ _ h => h) ?hy0 (by assumption) ?r0
  case hi0 => simp only [List.getElem?_toArray, List.getElem?_cons_succ, List.getElem?_cons_zero]; rfl
  case hy0 => exact Or.inl ⟨by rfl, by (intro w hSw; (try dsimp only at hSw); go_simp) <;> with_reducible rfl⟩
  try simp only [Act.put, List.setIfInBounds_toArray, List.set_cons_zero, List.set_cons_succ]
  refine wpAnyH_take (i := 3) (oi := ?o3) (v := ?v3) ?hi3 (by kernel_rfl) (by kernel_rfl) (by kernel_rfl) (fun _ _ _ h => h) ?hy3 (by assumption) ?r3
  case hi3 => simp only [List.getElem?_toArray, List.getElem?_cons_succ, List.getElem?_cons_zero]; rfl
  case hy3 => exact Or.inl ⟨by rfl, by (intro w hSw; (try dsimp only at hSw); go_simp) <;> with_reducible rfl⟩
  try simp only [Act.put, List.setIfInBounds_toArray, List.set_cons_zero, List.set_cons_succ]
  refine wpAnyH_ready (rs := [1]) (by kernel_rfl) (by simp) ?_
  refine AllReadyH.cons (o := ?o1) ?hi1 (fun K hK => ?st1) AllReadyH.nil
  case hi1 => simp only [List.getElem?_toArray, List.getElem?_cons_succ, List.getElem?_cons_zero]; rfl
  go_simp
  (go_at_call 17; refine (CO _).mono ?_; rintro e w' ⟨rfl, hbl⟩)
  refine hK.out _ _ ?_ (fun hHeld => ?_)
  · (try dsimp only); (first | assumption | exact Two.alloc hHeld _ | exact Two.below hHeld hbl)
  clear hK K
  try simp only [Act.put, List.setIfInBounds_toArray, List.set_cons_zero, List.set_cons_succ]
  refine wpAnyH_ready (rs := [2]) (by kernel_rfl) (by simp) ?_
  refine AllReadyH.cons (o := ?o2) ?hi2 (fun K hK => ?st2) AllReadyH.nil
  case hi2 => simp only [List.getElem?_toArray, List.getElem?_cons_succ, List.getElem?_cons_zero]; rfl
  go_simp
  (go_at_call 13; refine (told_agg (ofL l) _ hwl).mono ?_; rintro e w' ⟨rfl, hbl⟩)
  refine hK.out _ _ ?_ (fun hHeld => ?_)
  · (try dsimp only); (first | assumption | exact Two.alloc hHeld _ | exact Two.below hHeld hbl)
  clear hK K
  try simp only [Act.put, List.setIfInBounds_toArray, List.set_cons_zero, List.set_cons_succ]
  refine wpAnyH_ready (rs := [4]) (by kernel_rfl) (by simp) ?_
  refine AllReadyH.cons (o := ?o4) ?hi4 (fun K hK => ?st4) AllReadyH.nil
  case hi4 => simp only [List.getElem?_toArray, List.getElem?_cons_succ, List.getElem?_cons_zero]; rfl
  go_simp
  (go_at_call 19; refine (CR _).mono ?_; rintro e w' ⟨rfl, hbl⟩)
  refine hK.out _ _ ?_ (fun hHeld => ?_)
  · (try dsimp only); (first | assumption | exact Two.alloc hHeld _ | exact Two.below hHeld hbl)
  clear hK K
  try simp only [Act.put, List.setIfInBounds_toArray, List.set_cons_zero, List.set_cons_succ]
  refine wpAnyH_take (i := 5) (oi := ?o5) (v := ?v5) ?hi5 (by kernel_rfl) (by kernel_rfl) (by kernel_rfl) (fun _ _ _ h => h) ?hy5 (by assumption) ?r5
  case hi5 => simp only [List.getElem?_toArray, List.getElem?_cons_succ, List.getElem?_cons_zero]; rfl
  case hy5 => exact Or.inl ⟨by rfl, by (intro w hSw; (try dsimp only at hSw); go_simp) <;> with_reducible rfl⟩
  try simp only [Act.put, List.setIfInBounds_toArray, List.set_cons_zero, List.set_cons_succ]
  refine wpAnyH_take (i := 6) (oi := ?o6) (v := ?v6) ?hi6 (by kernel_rfl) (by kernel_rfl) (by kernel_rfl) (fun _ _ _ h => h) ?hy6 (by assumption) ?r6
  case hi6 => simp only [List.getElem?_toArray, List.getElem?_cons_succ, List.getElem?_cons_zero]; rfl
  case hy6 => exact Or.inl ⟨by rfl, by (intro w hSw; (try dsimp only at hSw); go_simp) <;> with_reducible rfl⟩
  try simp only [Act.put, List.setIfInBounds_toArray, List.set_cons_zero, List.set_cons_succ]
  refine wpAnyH_take (i := 7) (oi := ?o7) (v := ?v7) ?hi7 (by kernel_rfl) (by kernel_rfl) (by kernel_rfl) (fun _ _ _ h => h) ?hy7 (by assumption) ?r7
  case hi7 => simp only [List.getElem?_toArray, List.getElem?_cons_succ, List.getElem?_cons_zero]; rfl
  case hy7 => exact Or.inl ⟨by rfl, by (intro w hSw; (try dsimp only at hSw); go_simp) <;> with_reducible rfl⟩
  try simp only [Act.put, List.setIfInBounds_toArray, List.set_cons_zero, List.set_cons_succ]
  refine wpAnyH_take (i := 8) (oi := ?o8) (v := ?v8) ?hi8 (by kernel_rfl) (by kernel_rfl) (by kernel_rfl) (fun _ _ _ h => h) ?hy8 (by assumption) ?r8
  case hi8 => simp only [List.getElem?_toArray, List.getElem?_cons_succ, List.getElem?_cons_zero]; rfl
  case hy8 => exact Or.inl ⟨by rfl, by (intro w hSw; (try dsimp only at hSw); go_simp) <;> with_reducible rfl⟩
  try simp only [Act.put, List.setIfInBounds_toArray, List.set_cons_zero, List.set_cons_succ]
  refine wpAnyH_take (i := 10) (oi := ?o10) (v := ?v10) ?hi10 (by kernel_rfl) (by kernel_rfl) (by kernel_rfl) (fun _ _ _ h => h) ?hy10 (by assumption) ?r10
  case hi10 => simp only [List.getElem?_toArray, List.getElem?_cons_succ, List.getElem?_cons_zero]; rfl
  case hy10 => exact Or.inl ⟨by rfl, by (intro w hSw; (try dsimp only at hSw); go_simp) <;> with_reducible rfl⟩
  try simp only [Act.put, List.setIfInBounds_toArray, List.set_cons_zero, List.set_cons_succ]
  refine wpAnyH_take (i := 12) (oi := ?o12) (v := ?v12) ?hi12 (by kernel_rfl) (by kernel_rfl) (by kernel_rfl) (fun _ _ _ h => h) ?hy12 (by assumption) ?r12
  case hi12 => simp only [List.getElem?_toArray, List.getElem?_cons_succ, List.getElem?_cons_zero]; rfl
  case hy12 => exact Or.inl ⟨by rfl, by (intro w hSw; (try dsimp only at hSw); go_simp) <;> with_reducible rfl⟩
  try simp only [Act.put, List.setIfInBounds_toArray, List.set_cons_zero, List.set_cons_succ]
  refine wpAnyH_ready (rs := [9]) (by kernel_rfl) (by simp) ?_
  refine AllReadyH.cons (o := ?o9) ?hi9 (fun K hK => ?st9) AllReadyH.nil
  case hi9 => simp only [List.getElem?_toArray, List.getElem?_cons_succ, List.getElem?_cons_zero]; rfl
  go_simp
  (go_at_call 16; refine (CH _ _ (by omega)).mono ?_; rintro e w' ⟨he, hbl⟩; rw [Int.toNat_natCast] at he; subst he)
  refine hK.out _ _ ?_ (fun hHeld => ?_)
  · (try dsimp only); (first | assumption | exact Two.alloc hHeld _ | exact Two.below hHeld hbl)
  clear hK K
  try simp only [Act.put, List.setIfInBounds_toArray, List.set_cons_zero, List.set_cons_succ]
  refine wpAnyH_ready (rs := [11]) (by kernel_rfl) (by simp) ?_
  refine AllReadyH.cons (o := ?o11) ?hi11 (fun K hK => ?st11) AllReadyH.nil
  case hi11 => simp only [List.getElem?_toArray, List.getElem?_cons_succ, List.getElem?_cons_zero]; rfl
  go_simp
  (go_at_call 13; refine (told_agg (s) _ hs).mono ?_; rintro e w' ⟨rfl, hbl⟩)
  refine hK.out _ _ ?_ (fun hHeld => ?_)
  · (try dsimp only); (first | assumption | exact Two.alloc hHeld _ | exact Two.below hHeld hbl)
  clear hK K
  try simp only [Act.put, List.setIfInBounds_toArray, List.set_cons_zero, List.set_cons_succ]
  refine wpAnyH_take (i := 13) (oi := ?o13) (v := ?v13) ?hi13 (by kernel_rfl) (by kernel_rfl) (by kernel_rfl) (fun _ _ _ h => h) ?hy13 (by assumption) ?r13
  case hi13 => simp only [List.getElem?_toArray, List.getElem?_cons_succ, List.getElem?_cons_zero]; rfl
  case hy13 => exact Or.inl ⟨by rfl, by (intro w hSw; (try dsimp only at hSw); go_simp) <;> with_reducible rfl⟩
  try simp only [Act.put, List.setIfInBounds_toArray, List.set_cons_zero, List.set_cons_succ]
  refine wpAnyH_take (i := 14) (oi := ?o14) (v := ?v14) ?hi14 (by kernel_rfl) (by kernel_rfl) (by kernel_rfl) (fun _ _ _ h => h) ?hy14 (by assumption) ?r14
  case hi14 => simp only [List.getElem?_toArray, List.getElem?_cons_succ, List.getElem?_cons_zero]; rfl
  case hy14 => exact Or.inl ⟨by rfl, by (intro w hSw; (try dsimp only at hSw); go_simp) <;> with_reducible rfl⟩
  try simp only [Act.put, List.setIfInBounds_toArray, List.set_cons_zero, List.set_cons_succ]
  refine wpAnyH_take (i := 15) (oi := ?o15) (v := ?v15) ?hi15 (by kernel_rfl) (by kernel_rfl) (by kernel_rfl) (fun _ _ _ h => h) ?hy15 (by assumption) ?r15
  case hi15 => simp only [List.getElem?_toArray, List.getElem?_cons_succ, List.getElem?_cons_zero]; rfl
  case hy15 => exact Or.inl ⟨by rfl, by (intro w hSw; (try dsimp only at hSw); go_simp) <;> with_reducible rfl⟩
  try simp only [Act.put, List.setIfInBounds_toArray, List.set_cons_zero, List.set_cons_succ]
  refine wpAnyH_take (i := 16) (oi := ?o16) (v := ?v16) ?hi16 (by kernel_rfl) (by kernel_rfl) (by kernel_rfl) (fun _ _ _ h => h) ?hy16 (by assumption) ?r16
  case hi16 => simp only [List.getElem?_toArray, List.getElem?_cons_succ, List.getElem?_cons_zero]; rfl
  case hy16 => exact Or.inl ⟨by rfl, by (intro w hSw; (try dsimp only at hSw); go_simp) <;> with_reducible rfl⟩
  try simp only [Act.put, List.setIfInBounds_toArray, List.set_cons_zero, List.set_cons_succ]
  refine wpAnyH_take (i := 17) (oi := ?o17) (v := ?v17) ?hi17 (by kernel_rfl) (by kernel_rfl) (by kernel_rfl) (fun _ _ _ h => h) ?hy17 (by assumption) ?r17
  case hi17 => simp only [List.getElem?_toArray, List.getElem?_cons_succ, List.getElem?_cons_zero]; rfl
  case hy17 => exact Or.inl ⟨by rfl, by (intro w hSw; (try dsimp only at hSw); go_simp) <;> with_reducible rfl⟩
  try simp only [Act.put, List.setIfInBounds_toArray, List.set_cons_zero, List.set_cons_succ]
  refine wpAnyH_take (i := 18) (oi := ?o18) (v := ?v18) ?hi18 (by kernel_rfl) (by kernel_rfl) (by kernel_rfl) (fun _ _ _ h => h) ?hy18 (by assumption) ?r18
  case hi18 => simp only [List.getElem?_toArray, List.getElem?_cons_succ, List.getElem?_cons_zero]; rfl
  case hy18 => exact Or.inl ⟨by rfl, by (intro w hSw; (try dsimp only at hSw); go_simp) <;> with_reducible rfl⟩
  try simp only [Act.put, List.setIfInBounds_toArray, List.set_cons_zero, List.set_cons_succ]
  refine wpAnyH_take (i := 21) (oi := ?o21) (v := ?v21) ?hi21 (by kernel_rfl) (by kernel_rfl) (by kernel_rfl) (fun _ _ _ h => h) ?hy21 (by assumption) ?r21
  case hi21 => simp only [List.getElem?_toArray, List.getElem?_cons_succ, List.getElem?_cons_zero]; rfl
  case hy21 => exact Or.inl ⟨by rfl, by (intro w hSw; (try dsimp only at hSw); go_simp) <;> with_reducible rfl⟩
  try simp only [Act.put, List.setIfInBounds_toArray, List.set_cons_zero, List.set_cons_succ]
  refine wpAnyH_take (i := 22) (oi := ?o22) (v := ?v22) ?hi22 (by kernel_rfl) (by kernel_rfl) (by kernel_rfl) (fun _ _ _ h => h) ?hy22 (by assumption) ?r22
  case hi22 => simp only [List.getElem?_toArray, List.getElem?_cons_succ, List.getElem?_cons_zero]; rfl
  case hy22 => exact Or.inl ⟨by rfl, by (intro w hSw; (try dsimp only at hSw); go_simp) <;> with_reducible rfl⟩
  try simp only [Act.put, List.setIfInBounds_toArray, List.set_cons_zero, List.set_cons_succ]
  refine wpAnyH_ready (rs := [19]) (by kernel_rfl) (by simp) ?_
  refine AllReadyH.cons (o := ?o19) ?hi19 (fun K hK => ?st19) AllReadyH.nil
  case hi19 => simp only [List.getElem?_toArray, List.getElem?_cons_succ, List.getElem?_cons_zero]; rfl
  go_simp
  (go_at_call 20; refine (CRa _).mono ?_; rintro e w' ⟨rfl, hbl⟩)
  refine hK.out _ _ ?_ (fun hHeld => ?_)
  · (try dsimp only); (first | assumption | exact Two.alloc hHeld _ | exact Two.below hHeld hbl)
  clear hK K
  try simp only [Act.put, List.setIfInBounds_toArray, List.set_cons_zero, List.set_cons_succ]
  refine wpAnyH_ready (rs := [20]) (by kernel_rfl) (by simp) ?_
  refine AllReadyH.cons (o := ?o20) ?hi20 (fun K hK => ?st20) AllReadyH.nil
  case hi20 => simp only [List.getElem?_toArray, List.getElem?_cons_succ, List.getElem?_cons_zero]; rfl
  go_simp
  (go_at_call 13; refine (told_agg (rangeW a b) _ hr).mono ?_; rintro e w' ⟨rfl, hbl⟩)
  refine hK.out _ _ ?_ (fun hHeld => ?_)
  · (try dsimp only); (first | assumption | exact Two.alloc hHeld _ | exact Two.below hHeld hbl)
  clear hK K
  try simp only [Act.put, List.setIfInBounds_toArray, List.set_cons_zero, List.set_cons_succ]
  refine wpAnyH_ready (rs := [23]) (by kernel_rfl) (by simp) ?_
  refine AllReadyH.cons (o := ?o23) ?hi23 (fun K hK => ?st23) AllReadyH.nil
  case hi23 => simp only [List.getElem?_toArray, List.getElem?_cons_succ, List.getElem?_cons_zero]; rfl
  go_simp
  (go_at_call 22; refine (CRr _).mono ?_; rintro e w' ⟨rfl, hbl⟩)
  refine hK.out _ _ ?_ (fun hHeld => ?_)
  · (try dsimp only); (first | assumption | exact Two.alloc hHeld _ | exact Two.below hHeld hbl)
  clear hK K
  try simp only [Act.put, List.setIfInBounds_toArray, List.set_cons_zero, List.set_cons_succ]
  refine wpAnyH_take (i := 24) (oi := ?o24) (v := ?v24) ?hi24 (by kernel_rfl) (by kernel_rfl) (by kernel_rfl) (fun _ _ _ h => h) ?hy24 (by assumption) ?r24
  case hi24 => simp only [List.getElem?_toArray, List.getElem?_cons_succ, List.getElem?_cons_zero]; rfl
  case hy24 => exact Or.inl ⟨by rfl, by (intro w hSw; (try dsimp only at hSw); go_simp) <;> with_reducible rfl⟩
  try simp only [Act.put, List.setIfInBounds_toArray, List.set_cons_zero, List.set_cons_succ]
  refine wpAnyH_take (i := 25) (oi := ?o25) (v := ?v25) ?hi25 (by kernel_rfl) (by kernel_rfl) (by kernel_rfl) (fun _ _ _ h => h) ?hy25 (by assumption) ?r25
  case hi25 => simp only [List.getElem?_toArray, List.getElem?_cons_succ, List.getElem?_cons_zero]; rfl
  case hy25 => exact Or.inl ⟨by rfl, by (intro w hSw; (try dsimp only at hSw); go_simp) <;> with_reducible rfl⟩
  try simp only [Act.put, List.setIfInBounds_toArray, List.set_cons_zero, List.set_cons_succ]
  refine wpAnyH_take (i := 26) (oi := ?o26) (v := ?v26) ?hi26 (by kernel_rfl) (by kernel_rfl) (by kernel_rfl) (fun _ _ _ h => h) ?hy26 (by assumption) ?r26
  case hi26 => simp only [List.getElem?_toArray, List.getElem?_cons_succ, List.getElem?_cons_zero]; rfl
  case hy26 => exact Or.inl ⟨by rfl, by (intro w hSw; (try dsimp only at hSw); go_simp) <;> with_reducible rfl⟩
  try simp only [Act.put, List.setIfInBounds_toArray, List.set_cons_zero, List.set_cons_succ]
  refine wpAnyH_take (i := 27) (oi := ?o27) (v := ?v27) ?hi27 (by kernel_rfl) (by kernel_rfl) (by kernel_rfl) (fun _ _ _ h => h) ?hy27 (by assumption) ?r27
  case hi27 => simp only [List.getElem?_toArray, List.getElem?_cons_succ, List.getElem?_cons_zero]; rfl
  case hy27 => exact Or.inl ⟨by rfl, by (intro w hSw; (try dsimp only at hSw); go_simp) <;> with_reducible rfl⟩
  try simp only [Act.put, List.setIfInBounds_toArray, List.set_cons_zero, List.set_cons_succ]
  refine wpAnyH_take (i := 28) (oi := ?o28) (v := ?v28) ?hi28 (by kernel_rfl) (by kernel_rfl) (by kernel_rfl) (fun _ _ _ h => h) ?hy28 (by assumption) ?r28
  case hi28 => simp only [List.getElem?_toArray, List.getElem?_cons_succ, List.getElem?_cons_zero]; rfl
  case hy28 => exact Or.inl ⟨by rfl, by (intro w hSw; (try dsimp only at hSw); go_simp) <;> with_reducible rfl⟩
  try simp only [Act.put, List.setIfInBounds_toArray, List.set_cons_zero, List.set_cons_succ]
  refine wpAnyH_take (i := 32) (oi := ?o32) (v := ?v32) ?hi32 (by kernel_rfl) (by kernel_rfl) (by kernel_rfl) (fun _ _ _ h => h) ?hy32 (by assumption) ?r32
  case hi32 => simp only [List.getElem?_toArray, List.getElem?_cons_succ, List.getElem?_cons_zero]; rfl
  case hy32 => exact Or.inl ⟨by rfl, by (intro w hSw; (try dsimp only at hSw); go_simp) <;> with_reducible rfl⟩
  try simp only [Act.put, List.setIfInBounds_toArray, List.set_cons_zero, List.set_cons_succ]
  refine wpAnyH_take (i := 34) (oi := ?o34) (v := ?v34) ?hi34 (by kernel_rfl) (by kernel_rfl) (by kernel_rfl) (fun _ _ _ h => h) ?hy34 (by assumption) ?r34
  case hi34 => simp only [List.getElem?_toArray, List.getElem?_cons_succ, List.getElem?_cons_zero]; rfl
  case hy34 => exact Or.inl ⟨by rfl, by (intro w hSw; (try dsimp only at hSw); go_simp) <;> with_reducible rfl⟩
  try simp only [Act.put, List.setIfInBounds_toArray, List.set_cons_zero, List.set_cons_succ]
  refine wpAnyH_ready (rs := [29]) (by kernel_rfl) (by simp) ?_
  refine AllReadyH.cons (o := ?o29) ?hi29 (fun K hK => ?st29) AllReadyH.nil
  case hi29 => simp only [List.getElem?_toArray, List.getElem?_cons_succ, List.getElem?_cons_zero]; rfl
  go_simp
  refine hK.out _ _ ?_ (fun hHeld => ?_)
  · (try dsimp only); (first | assumption | exact Two.alloc hHeld _ | exact Two.below hHeld hbl)
  clear hK K
  try simp only [Act.put, List.setIfInBounds_toArray, List.set_cons_zero, List.set_cons_succ]
  refine wpAnyH_ready (rs := [30]) (by kernel_rfl) (by simp) ?_
  refine AllReadyH.cons (o := ?o30) ?hi30 (fun K hK => ?st30) AllReadyH.nil
  case hi30 => simp only [List.getElem?_toArray, List.getElem?_cons_succ, List.getElem?_cons_zero]; rfl
  go_simp
  (go_at_call 15; refine (COr _ _ (by simp) (lsL (heap_alloc_new _ _) rfl)).mono ?_; rintro e w' ⟨rfl, hbl⟩)
  refine hK.out _ _ ?_ (fun hHeld => ?_)
  · (try dsimp only); (first | assumption | exact Two.alloc hHeld _ | exact Two.below hHeld hbl)
  clear hK K
  try simp only [Act.put, List.setIfInBounds_toArray, List.set_cons_zero, List.set_cons_succ]
  refine wpAnyH_ready (rs := [31]) (by kernel_rfl) (by simp) ?_
  refine AllReadyH.cons (o := ?o31) ?hi31 (fun K hK => ?st31) AllReadyH.nil
  case hi31 => simp only [List.getElem?_toArray, List.getElem?_cons_succ, List.getElem?_cons_zero]; rfl
  go_simp
  (go_at_call 13; refine (told_agg (orL [s, t]) _ hu).mono ?_; rintro e w' ⟨rfl, hbl⟩)
  refine hK.out _ _ ?_ (fun hHeld => ?_)
  · (try dsimp only); (first | assumption | exact Two.alloc hHeld _ | exact Two.below hHeld hbl)
  clear hK K
  try simp only [Act.put, List.setIfInBounds_toArray, List.set_cons_zero, List.set_cons_succ]
  refine wpAnyH_ready (rs := [33]) (by kernel_rfl) (by simp) ?_
  refine AllReadyH.cons (o := ?o33) ?hi33 (fun K hK => ?st33) AllReadyH.nil
  case hi33 => simp only [List.getElem?_toArray, List.getElem?_cons_succ, List.getElem?_cons_zero]; rfl
  go_simp
  (go_at_call 13; refine (told_agg (s) _ hs).mono ?_; rintro e w' ⟨rfl, hbl⟩)
  refine hK.out _ _ ?_ (fun hHeld => ?_)
  · (try dsimp only); (first | assumption | exact Two.alloc hHeld _ | exact Two.below hHeld hbl)
  clear hK K
  try simp only [Act.put, List.setIfInBounds_toArray, List.set_cons_zero, List.set_cons_succ]
  refine wpAnyH_ready (rs := [35]) (by kernel_rfl) (by simp) ?_
  refine AllReadyH.cons (o := ?o35) ?hi35 (fun K hK => ?st35) AllReadyH.nil
  case hi35 => simp only [List.getElem?_toArray, List.getElem?_cons_succ, List.getElem?_cons_zero]; rfl
  go_simp
  (go_at_call 13; refine (told_agg (t) _ ht).mono ?_; rintro e w' ⟨rfl, hbl⟩)
  refine hK.out _ _ ?_ (fun hHeld => ?_)
  · (try dsimp only); (first | assumption | exact Two.alloc hHeld _ | exact Two.below hHeld hbl)
  clear hK K
  try simp only [Act.put, List.setIfInBounds_toArray, List.set_cons_zero, List.set_cons_succ]
  refine wpAnyH_ready (rs := [36]) (by kernel_rfl) (by simp) ?_
  refine AllReadyH.cons (o := ?o36) ?hi36 (fun K hK => ?st36) AllReadyH.nil
  case hi36 => simp only [List.getElem?_toArray, List.getElem?_cons_succ, List.getElem?_cons_zero]; rfl
  go_simp
  (go_at_call 23; refine (refOr_set s t _ hs ht).mono ?_; rintro e w' ⟨rfl, hbl⟩)
  refine hK.out _ _ ?_ (fun hHeld => ?_)
  · (try dsimp only); (first | assumption | exact Two.alloc hHeld _ | exact Two.below hHeld hbl)
  clear hK K
  try simp only [Act.put, List.setIfInBounds_toArray, List.set_cons_zero, List.set_cons_succ]
  refine wpAnyH_take (i := 37) (oi := ?o37) (v := ?v37) ?hi37 (by kernel_rfl) (by kernel_rfl) (by kernel_rfl) (fun _ _ _ h => h) ?hy37 (by assumption) ?r37
  case hi37 => simp only [List.getElem?_toArray, List.getElem?_cons_succ, List.getElem?_cons_zero]; rfl
  case hy37 => exact Or.inl ⟨by rfl, by (intro w hSw; (try dsimp only at hSw); go_simp) <;> with_reducible rfl⟩
  try simp only [Act.put, List.setIfInBounds_toArray, List.set_cons_zero, List.set_cons_succ]
  refine wpAnyH_take (i := 38) (oi := ?o38) (v := ?v38) ?hi38 (by kernel_rfl) (by kernel_rfl) (by kernel_rfl) (fun _ _ _ h => h) ?hy38 (by assumption) ?r38
  case hi38 => simp only [List.getElem?_toArray, List.getElem?_cons_succ, List.getElem?_cons_zero]; rfl
  case hy38 => exact Or.inl ⟨by rfl, by (intro w hSw; (try dsimp only at hSw); go_simp) <;> with_reducible rfl⟩
  try simp only [Act.put, List.setIfInBounds_toArray, List.set_cons_zero, List.set_cons_succ]
  refine wpAnyH_take (i := 39) (oi := ?o39) (v := ?v39) ?hi39 (by kernel_rfl) (by kernel_rfl) (by kernel_rfl) (fun _ _ _ h => h) ?hy39 (by assumption) ?r39
  case hi39 => simp only [List.getElem?_toArray, List.getElem?_cons_succ, List.getElem?_cons_zero]; rfl
  case hy39 => exact Or.inl ⟨by rfl, by (intro w hSw; (try dsimp only at hSw); go_simp) <;> with_reducible rfl⟩
  try simp only [Act.put, List.setIfInBounds_toArray, List.set_cons_zero, List.set_cons_succ]
  refine wpAnyH_take (i := 40) (oi := ?o40) (v := ?v40) ?hi40 (by kernel_rfl) (by kernel_rfl) (by kernel_rfl) (fun _ _ _ h => h) ?hy40 (by assumption) ?r40
  case hi40 => simp only [List.getElem?_toArray, List.getElem?_cons_succ, List.getElem?_cons_zero]; rfl
  case hy40 => exact Or.inl ⟨by rfl, by (intro w hSw; (try dsimp only at hSw); go_simp) <;> with_reducible rfl⟩
  try simp only [Act.put, List.setIfInBounds_toArray, List.set_cons_zero, List.set_cons_succ]
  refine wpAnyH_take (i := 43) (oi := ?o43) (v := ?v43) ?hi43 (by kernel_rfl) (by kernel_rfl) (by kernel_rfl) (fun _ _ _ h => h) ?hy43 (by assumption) ?r43
  case hi43 => simp only [List.getElem?_toArray, List.getElem?_cons_succ, List.getElem?_cons_zero]; rfl
  case hy43 => exact Or.inl ⟨by rfl, by (intro w hSw; (try dsimp only at hSw); go_simp) <;> with_reducible rfl⟩
  try simp only [Act.put, List.setIfInBounds_toArray, List.set_cons_zero, List.set_cons_succ]
  refine wpAnyH_ready (rs := [41]) (by kernel_rfl) (by simp) ?_
  refine AllReadyH.cons (o := ?o41) ?hi41 (fun K hK => ?st41) AllReadyH.nil
  case hi41 => simp only [List.getElem?_toArray, List.getElem?_cons_succ, List.getElem?_cons_zero]; rfl
  go_simp
  (go_at_call 24; refine (CN _).mono ?_; rintro e w' ⟨rfl, hbl⟩)
  refine hK.out _ _ ?_ (fun hHeld => ?_)
  · (try dsimp only); (first | assumption | exact Two.alloc hHeld _ | exact Two.below hHeld hbl)
  clear hK K
  try simp only [Act.put, List.setIfInBounds_toArray, List.set_cons_zero, List.set_cons_succ]
  refine wpAnyH_ready (rs := [42]) (by kernel_rfl) (by simp) ?_
  refine AllReadyH.cons (o := ?o42) ?hi42 (fun K hK => ?st42) AllReadyH.nil
  case hi42 => simp only [List.getElem?_toArray, List.getElem?_cons_succ, List.getElem?_cons_zero]; rfl
  go_simp
  (go_at_call 13; refine (told_agg (notW s) _ hns).mono ?_; rintro e w' ⟨rfl, hbl⟩)
  refine hK.out _ _ ?_ (fun hHeld => ?_)
  · (try dsimp only); (first | assumption | exact Two.alloc hHeld _ | exact Two.below hHeld hbl)
  clear hK K
  try simp only [Act.put, List.setIfInBounds_toArray, List.set_cons_zero, List.set_cons_succ]
  refine wpAnyH_ready (rs := [44]) (by kernel_rfl) (by simp) ?_
  refine AllReadyH.cons (o := ?o44) ?hi44 (fun K hK => ?st44) AllReadyH.nil
  case hi44 => simp only [List.getElem?_toArray, List.getElem?_cons_succ, List.getElem?_cons_zero]; rfl
  go_simp
  (go_at_call 13; refine (told_agg (s) _ hs).mono ?_; rintro e w' ⟨rfl, hbl⟩)
  refine hK.out _ _ ?_ (fun hHeld => ?_)
  · (try dsimp only); (first | assumption | exact Two.alloc hHeld _ | exact Two.below hHeld hbl)
  clear hK K
  try simp only [Act.put, List.setIfInBounds_toArray, List.set_cons_zero, List.set_cons_succ]
  refine wpAnyH_ready (rs := [45]) (by kernel_rfl) (by simp) ?_
  refine AllReadyH.cons (o := ?o45) ?hi45 (fun K hK => ?st45) AllReadyH.nil
  case hi45 => simp only [List.getElem?_toArray, List.getElem?_cons_succ, List.getElem?_cons_zero]; rfl
  go_simp
  (go_at_call 25; refine (refNot_set s _ hs).mono ?_; rintro e w' ⟨rfl, hbl⟩)
  refine hK.out _ _ ?_ (fun hHeld => ?_)
  · (try dsimp only); (first | assumption | exact Two.alloc hHeld _ | exact Two.below hHeld hbl)
  clear hK K
  try simp only [Act.put, List.setIfInBounds_toArray, List.set_cons_zero, List.set_cons_succ]
  refine wpAnyH_take (i := 46) (oi := ?o46) (v := ?v46) ?hi46 (by kernel_rfl) (by kernel_rfl) (by kernel_rfl) (fun _ _ _ h => h) ?hy46 (by assumption) ?r46
  case hi46 => simp only [List.getElem?_toArray, List.getElem?_cons_succ, List.getElem?_cons_zero]; rfl
  case hy46 => exact Or.inl ⟨by rfl, by (intro w hSw; (try dsimp only at hSw); go_simp) <;> with_reducible rfl⟩
  try simp only [Act.put, List.setIfInBounds_toArray, List.set_cons_zero, List.set_cons_succ]
  refine wpAnyH_take (i := 47) (oi := ?o47) (v := ?v47) ?hi47 (by kernel_rfl) (by kernel_rfl) (by kernel_rfl) (fun _ _ _ h => h) ?hy47 (by assumption) ?r47
  case hi47 => simp only [List.getElem?_toArray, List.getElem?_cons_succ, List.getElem?_cons_zero]; rfl
  case hy47 => exact Or.inl ⟨by rfl, by (intro w hSw; (try dsimp only at hSw); go_simp) <;> with_reducible rfl⟩
  try simp only [Act.put, List.setIfInBounds_toArray, List.set_cons_zero, List.set_cons_succ]
  refine wpAnyH_take (i := 48) (oi := ?o48) (v := ?v48) ?hi48 (by kernel_rfl) (by kernel_rfl) (by kernel_rfl) (fun _ _ _ h => h) ?hy48 (by assumption) ?r48
  case hi48 => simp only [List.getElem?_toArray, List.getElem?_cons_succ, List.getElem?_cons_zero]; rfl
  case hy48 => exact Or.inl ⟨by rfl, by (intro w hSw; (try dsimp only at hSw); go_simp) <;> with_reducible rfl⟩
  try simp only [Act.put, List.setIfInBounds_toArray, List.set_cons_zero, List.set_cons_succ]
  refine wpAnyH_take (i := 49) (oi := ?o49) (v := ?v49) ?hi49 (by kernel_rfl) (by kernel_rfl) (by kernel_rfl) (fun _ _ _ h => h) ?hy49 (by assumption) ?r49
  case hi49 => simp only [List.getElem?_toArray, List.getElem?_cons_succ, List.getElem?_cons_zero]; rfl
  case hy49 => exact Or.inl ⟨by rfl, by (intro w hSw; (try dsimp only at hSw); go_simp) <;> with_reducible rfl⟩
  try simp only [Act.put, List.setIfInBounds_toArray, List.set_cons_zero, List.set_cons_succ]
  refine wpAnyH_take (i := 52) (oi := ?o52) (v := ?v52) ?hi52 (by kernel_rfl) (by kernel_rfl) (by kernel_rfl) (fun _ _ _ h => h) ?hy52 (by assumption) ?r52
  case hi52 => simp only [List.getElem?_toArray, List.getElem?_cons_succ, List.getElem?_cons_zero]; rfl
  case hy52 => exact Or.inl ⟨by rfl, by (intro w hSw; (try dsimp only at hSw); go_simp) <;> with_reducible rfl⟩
  try simp only [Act.put, List.setIfInBounds_toArray, List.set_cons_zero, List.set_cons_succ]
  refine wpAnyH_ready (rs := [50]) (by kernel_rfl) (by simp) ?_
  refine AllReadyH.cons (o := ?o50) ?hi50 (fun K hK => ?st50) AllReadyH.nil
  case hi50 => simp only [List.getElem?_toArray, List.getElem?_cons_succ, List.getElem?_cons_zero]; rfl
  go_simp
  (go_at_call 14; refine (CF _ (Two.pos hHeld hg) (Two.tab hHeld hg HT.out)).mono ?_; rintro e w' ⟨rfl, hbl⟩)
  refine hK.out _ _ ?_ (fun hHeld => ?_)
  · (try dsimp only); (first | assumption | exact Two.alloc hHeld _ | exact Two.below hHeld hbl)
  clear hK K
  try simp only [Act.put, List.setIfInBounds_toArray, List.set_cons_zero, List.set_cons_succ]
  refine wpAnyH_ready (rs := [51]) (by kernel_rfl) (by simp) ?_
  refine AllReadyH.cons (o := ?o51) ?hi51 (fun K hK => ?st51) AllReadyH.nil
  case hi51 => simp only [List.getElem?_toArray, List.getElem?_cons_succ, List.getElem?_cons_zero]; rfl
  go_simp
  (go_at_call 13; refine (told_agg (foldW s) _ hf).mono ?_; rintro e w' ⟨rfl, hbl⟩)
  refine hK.out _ _ ?_ (fun hHeld => ?_)
  · (try dsimp only); (first | assumption | exact Two.alloc hHeld _ | exact Two.below hHeld hbl)
  clear hK K
  try simp only [Act.put, List.setIfInBounds_toArray, List.set_cons_zero, List.set_cons_succ]
  refine wpAnyH_ready (rs := [53]) (by kernel_rfl) (by simp) ?_
  refine AllReadyH.cons (o := ?o53) ?hi53 (fun K hK => ?st53) AllReadyH.nil
  case hi53 => simp only [List.getElem?_toArray, List.getElem?_cons_succ, List.getElem?_cons_zero]; rfl
  go_simp
  (go_at_call 13; refine (told_agg (s) _ hs).mono ?_; rintro e w' ⟨rfl, hbl⟩)
  refine hK.out _ _ ?_ (fun hHeld => ?_)
  · (try dsimp only); (first | assumption | exact Two.alloc hHeld _ | exact Two.below hHeld hbl)
  clear hK K
  try simp only [Act.put, List.setIfInBounds_toArray, List.set_cons_zero, List.set_cons_succ]
  refine wpAnyH_ready (rs := [54]) (by kernel_rfl) (by simp) ?_
  refine AllReadyH.cons (o := ?o54) ?hi54 (fun K hK => ?st54) AllReadyH.nil
  case hi54 => simp only [List.getElem?_toArray, List.getElem?_cons_succ, List.getElem?_cons_zero]; rfl
  go_simp
  (go_at_call 26; refine (refFold_set s _ hs).mono ?_; rintro e w' ⟨rfl, hbl⟩)
  refine hK.out _ _ ?_ (fun hHeld => ?_)
  · (try dsimp only); (first | assumption | exact Two.alloc hHeld _ | exact Two.below hHeld hbl)
  clear hK K
  try simp only [Act.put, List.setIfInBounds_toArray, List.set_cons_zero, List.set_cons_succ]
  refine wpAnyH_take (i := 55) (oi := ?o55) (v := ?v55) ?hi55 (by kernel_rfl) (by kernel_rfl) (by kernel_rfl) (fun _ _ _ h => h) ?hy55 (by assumption) ?r55
  case hi55 => simp only [List.getElem?_toArray, List.getElem?_cons_succ, List.getElem?_cons_zero]; rfl
  case hy55 => exact Or.inl ⟨by rfl, by (intro w hSw; (try dsimp only at hSw); go_simp) <;> with_reducible rfl⟩
  try simp only [Act.put, List.setIfInBounds_toArray, List.set_cons_zero, List.set_cons_succ]
  refine wpAnyH_take (i := 56) (oi := ?o56) (v := ?v56) ?hi56 (by kernel_rfl) (by kernel_rfl) (by kernel_rfl) (fun _ _ _ h => h) ?hy56 (by assumption) ?r56
  case hi56 => simp only [List.getElem?_toArray, List.getElem?_cons_succ, List.getElem?_cons_zero]; rfl
  case hy56 => exact Or.inl ⟨by rfl, by (intro w hSw; (try dsimp only at hSw); go_simp) <;> with_reducible rfl⟩
  try simp only [Act.put, List.setIfInBounds_toArray, List.set_cons_zero, List.set_cons_succ]
  refine wpAnyH_take (i := 57) (oi := ?o57) (v := ?v57) ?hi57 (by kernel_rfl) (by kernel_rfl) (by kernel_rfl) (fun _ _ _ h => h) ?hy57 (by assumption) ?r57
  case hi57 => simp only [List.getElem?_toArray, List.getElem?_cons_succ, List.getElem?_cons_zero]; rfl
  case hy57 => exact Or.inl ⟨by rfl, by (intro w hSw; (try dsimp only at hSw); go_simp) <;> with_reducible rfl⟩
  try simp only [Act.put, List.setIfInBounds_toArray, List.set_cons_zero, List.set_cons_succ]
  refine wpAnyH_take (i := 58) (oi := ?o58) (v := ?v58) ?hi58 (by kernel_rfl) (by kernel_rfl) (by kernel_rfl) (fun _ _ _ h => h) ?hy58 (by assumption) ?r58
  case hi58 => simp only [List.getElem?_toArray, List.getElem?_cons_succ, List.getElem?_cons_zero]; rfl
  case hy58 => exact Or.inl ⟨by rfl, by (intro w hSw; (try dsimp only at hSw); go_simp) <;> with_reducible rfl⟩
  try simp only [Act.put, List.setIfInBounds_toArray, List.set_cons_zero, List.set_cons_succ]
  refine wpAnyH_take (i := 60) (oi := ?o60) (v := ?v60) ?hi60 (by kernel_rfl) (by kernel_rfl) (by kernel_rfl) (fun _ _ _ h => h) ?hy60 (by assumption) ?r60
  case hi60 => simp only [List.getElem?_toArray, List.getElem?_cons_succ, List.getElem?_cons_zero]; rfl
  case hy60 => exact Or.inl ⟨by rfl, by (intro w hSw; (try dsimp only at hSw); go_simp) <;> with_reducible rfl⟩
  try simp only [Act.put, List.setIfInBounds_toArray, List.set_cons_zero, List.set_cons_succ]
  refine wpAnyH_ready (rs := [59]) (by kernel_rfl) (by simp) ?_
  refine AllReadyH.cons (o := ?o59) ?hi59 (fun K hK => ?st59) AllReadyH.nil
  case hi59 => simp only [List.getElem?_toArray, List.getElem?_cons_succ, List.getElem?_cons_zero]; rfl
  go_simp
  (go_at_call 21; refine (CS _).mono ?_; rintro e w' ⟨rfl, hbl⟩)
  refine hK.out _ _ ?_ (fun hHeld => ?_)
  · (try dsimp only); (first | assumption | exact Two.alloc hHeld _ | exact Two.below hHeld hbl)
  clear hK K
  try simp only [Act.put, List.setIfInBounds_toArray, List.set_cons_zero, List.set_cons_succ]
  refine wpAnyH_ready (rs := [61]) (by kernel_rfl) (by simp) ?_
  refine AllReadyH.cons (o := ?o61) ?hi61 (fun K hK => ?st61) AllReadyH.nil
  case hi61 => simp only [List.getElem?_toArray, List.getElem?_cons_succ, List.getElem?_cons_zero]; rfl
  go_simp
  (go_at_call 13; refine (told_agg (s) _ hs).mono ?_; rintro e w' ⟨rfl, hbl⟩)
  refine hK.out _ _ ?_ (fun hHeld => ?_)
  · (try dsimp only); (first | assumption | exact Two.alloc hHeld _ | exact Two.below hHeld hbl)
  clear hK K
  try simp only [Act.put, List.setIfInBounds_toArray, List.set_cons_zero, List.set_cons_succ]
  refine wpAnyH_ready (rs := [62]) (by kernel_rfl) (by simp) ?_
  refine AllReadyH.cons (o := ?o62) ?hi62 (fun K hK => ?st62) AllReadyH.nil
  case hi62 => simp only [List.getElem?_toArray, List.getElem?_cons_succ, List.getElem?_cons_zero]; rfl
  go_simp
  (go_at_call 27; refine (refSize_any s _).mono ?_; rintro e w' ⟨rfl, hbl⟩)
  refine hK.out _ _ ?_ (fun hHeld => ?_)
  · (try dsimp only); (first | assumption | exact Two.alloc hHeld _ | exact Two.below hHeld hbl)
  clear hK K
  try simp only [Act.put, List.setIfInBounds_toArray, List.set_cons_zero, List.set_cons_succ]
  refine wpAnyH_take (i := 63) (oi := ?o63) (v := ?v63) ?hi63 (by kernel_rfl) (by kernel_rfl) (by kernel_rfl) (fun _ _ _ h => h) ?hy63 (by assumption) ?r63
  case hi63 => simp only [List.getElem?_toArray, List.getElem?_cons_succ, List.getElem?_cons_zero]; rfl
  case hy63 => exact Or.inl ⟨by rfl, by (intro w hSw; (try dsimp only at hSw); go_simp) <;> with_reducible rfl⟩
  try simp only [Act.put, List.setIfInBounds_toArray, List.set_cons_zero, List.set_cons_succ]
  refine wpAnyH_take (i := 64) (oi := ?o64) (v := ?v64) ?hi64 (by kernel_rfl) (by kernel_rfl) (by kernel_rfl) (fun _ _ _ h => h) ?hy64 (by assumption) ?r64
  case hi64 => simp only [List.getElem?_toArray, List.getElem?_cons_succ, List.getElem?_cons_zero]; rfl
  case hy64 => exact Or.inl ⟨by rfl, by (intro w hSw; (try dsimp only at hSw); go_simp) <;> with_reducible rfl⟩
  try simp only [Act.put, List.setIfInBounds_toArray, List.set_cons_zero, List.set_cons_succ]
  refine wpAnyH_take (i := 65) (oi := ?o65) (v := ?v65) ?hi65 (by kernel_rfl) (by kernel_rfl) (by kernel_rfl) (fun _ _ _ h => h) ?hy65 (by assumption) ?r65
  case hi65 => simp only [List.getElem?_toArray, List.getElem?_cons_succ, List.getElem?_cons_zero]; rfl
  case hy65 => exact Or.inl ⟨by rfl, by (intro w hSw; (try dsimp only at hSw); go_simp) <;> with_reducible rfl⟩
  try simp only [Act.put, List.setIfInBounds_toArray, List.set_cons_zero, List.set_cons_succ]
  refine wpAnyH_take (i := 66) (oi := ?o66) (v := ?v66) ?hi66 (by kernel_rfl) (by kernel_rfl) (by kernel_rfl) (fun _ _ _ h => h) ?hy66 (by assumption) ?r66
  case hi66 => simp only [List.getElem?_toArray, List.getElem?_cons_succ, List.getElem?_cons_zero]; rfl
  case hy66 => exact Or.inl ⟨by rfl, by (intro w hSw; (try dsimp only at hSw); go_simp) <;> with_reducible rfl⟩
  try simp only [Act.put, List.setIfInBounds_toArray, List.set_cons_zero, List.set_cons_succ]
  refine wpAnyH_take (i := 68) (oi := ?o68) (v := ?v68) ?hi68 (by kernel_rfl) (by kernel_rfl) (by kernel_rfl) (fun _ _ _ h => h) ?hy68 (by assumption) ?r68
  case hi68 => simp only [List.getElem?_toArray, List.getElem?_cons_succ, List.getElem?_cons_zero]; rfl
  case hy68 => exact Or.inl ⟨by rfl, by (intro w hSw; (try dsimp only at hSw); go_simp) <;> with_reducible rfl⟩
  try simp only [Act.put, List.setIfInBounds_toArray, List.set_cons_zero, List.set_cons_succ]
  refine wpAnyH_ready (rs := [67]) (by kernel_rfl) (by simp) ?_
  refine AllReadyH.cons (o := ?o67) ?hi67 (fun K hK => ?st67) AllReadyH.nil
  case hi67 => simp only [List.getElem?_toArray, List.getElem?_cons_succ, List.getElem?_cons_zero]; rfl
  go_simp
  (go_at_call 28; refine (CB _ (Two.pos hHeld hg) (Two.tab hHeld hg HT.out)).mono ?_; rintro e w' ⟨rfl, hbl⟩)
  refine hK.out _ _ ?_ (fun hHeld => ?_)
  · (try dsimp only); (first | assumption | exact Two.alloc hHeld _ | exact Two.below hHeld hbl)
  clear hK K
  try simp only [Act.put, List.setIfInBounds_toArray, List.set_cons_zero, List.set_cons_succ]
  refine wpAnyH_ready (rs := [69]) (by kernel_rfl) (by simp) ?_
  refine AllReadyH.cons (o := ?o69) ?hi69 (fun K hK => ?st69) AllReadyH.nil
  case hi69 => simp only [List.getElem?_toArray, List.getElem?_cons_succ, List.getElem?_cons_zero]; rfl
  go_simp
  (go_at_call 13; refine (told_agg (s) _ hs).mono ?_; rintro e w' ⟨rfl, hbl⟩)
  refine hK.out _ _ ?_ (fun hHeld => ?_)
  · (try dsimp only); (first | assumption | exact Two.alloc hHeld _ | exact Two.below hHeld hbl)
  clear hK K
  try simp only [Act.put, List.setIfInBounds_toArray, List.set_cons_zero, List.set_cons_succ]
  refine wpAnyH_ready (rs := [70]) (by kernel_rfl) (by simp) ?_
  refine AllReadyH.cons (o := ?o70) ?hi70 (fun K hK => ?st70) AllReadyH.nil
  case hi70 => simp only [List.getElem?_toArray, List.getElem?_cons_succ, List.getElem?_cons_zero]; rfl
  go_simp
  (go_at_call 29; refine (refBytes_any s _).mono ?_; rintro e w' ⟨rfl, hbl⟩)
  refine hK.out _ _ ?_ (fun hHeld => ?_)
  · (try dsimp only); (first | assumption | exact Two.alloc hHeld _ | exact Two.below hHeld hbl)
  clear hK K
  try simp only [Act.put, List.setIfInBounds_toArray, List.set_cons_zero, List.set_cons_succ]
  refine wpAnyH_take (i := 71) (oi := ?o71) (v := ?v71) ?hi71 (by kernel_rfl) (by kernel_rfl) (by kernel_rfl) (fun _ _ _ h => h) ?hy71 (by assumption) ?r71
  case hi71 => simp only [List.getElem?_toArray, List.getElem?_cons_succ, List.getElem?_cons_zero]; rfl
  case hy71 => exact Or.inl ⟨by rfl, by (intro w hSw; (try dsimp only at hSw); go_simp) <;> with_reducible rfl⟩
  try simp only [Act.put, List.setIfInBounds_toArray, List.set_cons_zero, List.set_cons_succ]
  refine wpAnyH_take (i := 72) (oi := ?o72) (v := ?v72) ?hi72 (by kernel_rfl) (by kernel_rfl) (by kernel_rfl) (fun _ _ _ h => h) ?hy72 (by assumption) ?r72
  case hi72 => simp only [List.getElem?_toArray, List.getElem?_cons_succ, List.getElem?_cons_zero]; rfl
  case hy72 => exact Or.inl ⟨by rfl, by (intro w hSw; (try dsimp only at hSw); go_simp) <;> with_reducible rfl⟩
  try simp only [Act.put, List.setIfInBounds_toArray, List.set_cons_zero, List.set_cons_succ]
  refine wpAnyH_take (i := 73) (oi := ?o73) (v := ?v73) ?hi73 (by kernel_rfl) (by kernel_rfl) (by kernel_rfl) (fun _ _ _ h => h) ?hy73 (by assumption) ?r73
  case hi73 => simp only [List.getElem?_toArray, List.getElem?_cons_succ, List.getElem?_cons_zero]; rfl
  case hy73 => exact Or.inl ⟨by rfl, by (intro w hSw; (try dsimp only at hSw); go_simp) <;> with_reducible rfl⟩
  try simp only [Act.put, List.setIfInBounds_toArray, List.set_cons_zero, List.set_cons_succ]
  refine wpAnyH_take (i := 75) (oi := ?o75) (v := ?v75) ?hi75 (by kernel_rfl) (by kernel_rfl) (by kernel_rfl) (fun _ _ _ h => h) ?hy75 (by assumption) ?r75
  case hi75 => simp only [List.getElem?_toArray, List.getElem?_cons_succ, List.getElem?_cons_zero]; rfl
  case hy75 => exact Or.inl ⟨by rfl, by (intro w hSw; (try dsimp only at hSw); go_simp) <;> with_reducible rfl⟩
  try simp only [Act.put, List.setIfInBounds_toArray, List.set_cons_zero, List.set_cons_succ]
  refine wpAnyH_ready (rs := [74]) (by kernel_rfl) (by simp) ?_
  refine AllReadyH.cons (o := ?o74) ?hi74 (fun K hK => ?st74) AllReadyH.nil
  case hi74 => simp only [List.getElem?_toArray, List.getElem?_cons_succ, List.getElem?_cons_zero]; rfl
  go_simp
  (go_at_call 15; refine (CN0 _).mono ?_; rintro e w' ⟨rfl, hbl⟩)
  refine hK.out _ _ ?_ (fun hHeld => ?_)
  · (try dsimp only); (first | assumption | exact Two.alloc hHeld _ | exact Two.below hHeld hbl)
  clear hK K
  try simp only [Act.put, List.setIfInBounds_toArray, List.set_cons_zero, List.set_cons_succ]
  refine wpAnyH_take (i := 76) (oi := ?o76) (v := ?v76) ?hi76 (by kernel_rfl) (by kernel_rfl) (by kernel_rfl) (fun _ _ _ h => h) ?hy76 (by assumption) ?r76
  case hi76 => simp only [List.getElem?_toArray, List.getElem?_cons_succ, List.getElem?_cons_zero]; rfl
  case hy76 => exact Or.inl ⟨by rfl, by (intro w hSw; (try dsimp only at hSw); go_simp) <;> with_reducible rfl⟩
  try simp only [Act.put, List.setIfInBounds_toArray, List.set_cons_zero, List.set_cons_succ]
  refine wpAnyH_take (i := 77) (oi := ?o77) (v := ?v77) ?hi77 (by kernel_rfl) (by kernel_rfl) (by kernel_rfl) (fun _ _ _ h => h) ?hy77 (by assumption) ?r77
  case hi77 => simp only [List.getElem?_toArray, List.getElem?_cons_succ, List.getElem?_cons_zero]; rfl
  case hy77 => exact Or.inl ⟨by rfl, by (intro w hSw; (try dsimp only at hSw); go_simp) <;> with_reducible rfl⟩
  try simp only [Act.put, List.setIfInBounds_toArray, List.set_cons_zero, List.set_cons_succ]
  refine wpAnyH_take (i := 78) (oi := ?o78) (v := ?v78) ?hi78 (by kernel_rfl) (by kernel_rfl) (by kernel_rfl) (fun _ _ _ h => h) ?hy78 (by assumption) ?r78
  case hi78 => simp only [List.getElem?_toArray, List.getElem?_cons_succ, List.getElem?_cons_zero]; rfl
  case hy78 => exact Or.inl ⟨by rfl, by (intro w hSw; (try dsimp only at hSw); go_simp) <;> with_reducible rfl⟩
  try simp only [Act.put, List.setIfInBounds_toArray, List.set_cons_zero, List.set_cons_succ]
  refine wpAnyH_done (by kernel_rfl) ?_ _
  refine NoPanic.normal ?_
  go_wp2
  go_ret
  exact ⟨rfl, Two.last hHeld⟩
end Go.Proofs.YtmlgbjdohijlnaaDoor.St
