/- SetOrs: the walk. -/
import Derived.Test.YtmlgbjdohijlnaaDoorStFolds2
import Derived.Test.YtmlgbjdohijlnaaDoorStBack
namespace Go.Proofs.YtmlgbjdohijlnaaDoor.St
open Go.RowKit
set_option linter.unusedVariables false
set_option linter.unusedSimpArgs false
theorem Two.put {b1 b2 : Nat} {s f : List Nat} {w0 w : World} (h : Two b1 b2 s f w0 w) (h1 : b1 < w0.heap.size) (h2 : b2 < w0.heap.size) {n : Nat} (hn : w0.heap.size ≤ n) (vs : List Nat) : Two b1 b2 s f w0 (put4 w n vs) := by
  obtain ⟨⟨a0, a1, a2, a3⟩, ⟨c0, c1, c2, c3⟩, l1, l2, hB⟩ := h
  have hB' := put4_below hB hn vs
  have go : ∀ (b i : Nat) (x : Option Value), b < w0.heap.size → w.cell? ⟨b, i, none⟩ = x → (put4 w n vs).cell? ⟨b, i, none⟩ = x := fun b i x hb hx => (hB'.cell (p := ⟨b, i, none⟩) hb).trans ((hB.cell (p := ⟨b, i, none⟩) hb).symm.trans hx)
  exact ⟨⟨go _ _ _ h1 a0, go _ _ _ h1 a1, go _ _ _ h1 a2, go _ _ _ h1 a3⟩, ⟨go _ _ _ h2 c0, go _ _ _ h2 c1, go _ _ _ h2 c2, go _ _ _ h2 c3⟩, Nat.lt_of_lt_of_le h1 hB'.size, Nat.lt_of_lt_of_le h2 hB'.size, hB'⟩
theorem Two.rise {b1 b2 : Nat} {s f : List Nat} {w0 w w' : World} (h : Two b1 b2 s f w0 w) (h' : Two b1 b2 s f w w') : Two b1 b2 s f w0 w' := h.below h'.last
theorem raw_alloc {X : World} {b : Nat} {o : Obj} (h : X.heap[b]? = some o) (o' : Obj) : (X.alloc o').heap[b]? = some o := (heap_alloc_old _ _ (Array.getElem?_eq_some_iff.1 h).1).trans h
theorem raw_below {X Y : World} {b : Nat} {o : Obj} (h : X.heap[b]? = some o) (hb : Below X.heap.size X Y) : Y.heap[b]? = some o := (hb.block b (Array.getElem?_eq_some_iff.1 h).1).trans h
theorem raw_of {b1 b2 : Nat} {s f : List Nat} {w0 W : World} {o : Obj} (h : Two b1 b2 s f w0 (W.alloc o)) : (W.alloc o).heap[W.heap.size]? = some o := heap_alloc_new _ _
theorem Two.rise2 {bu n : Nat} {u v : List Nat} {w0 w3 w : World} (h : Two bu bu u u w0 w3) (hb : Below w3.heap.size w3 w) (hz : SB w n v) (hv : Wf v) : Two bu n u v w0 w := by
  have h' := h.below hb
  exact ⟨h'.1, sb_cells hz hv, h'.2.2.1, (Array.getElem?_eq_some_iff.1 hz).1, h'.last⟩
theorem sizeW_le (s : List Nat) : sizeW s ≤ 256 := bytesN_len s
set_option maxHeartbeats 4000000 in
theorem setOrs_nat (s t : List Nat) (b : Nat) (hs : Wf s) (ht : Wf t) (hb : b < 256) (w : World) (hg : 0 < w.heap.size) (hT : Tab w) :
    Calls Tryd.prog 9 #[SV s, SV t, .int .u8 (b : Int)] w fun e w' => e = .returned (.bool true) ∧ Below w.heap.size w w' := by
  have HT := Lib.hid hT
  clear hT
  have hu : Wf (orL [s, t]) := wf_orL (wf_two hs ht)
  have hns := wf_notW hs
  have hnt := wf_notW ht
  have ho : Wf (orL [notW s, notW t]) := wf_orL (wf_two hns hnt)
  have hv : Wf (bothW s t) := wf_notW ho
  have HSS := Lib.hid (SV_eq hs)
  have HST := Lib.hid (SV_eq ht)
  have HSU := Lib.hid (SV_eq hu)
  have HSV := Lib.hid (SV_eq hv)
  have HNS := Lib.hid (SV_eq hns)
  have HNT := Lib.hid (SV_eq hnt)
  have HOO := Lib.hid (SV_eq ho)
  have HSW := Lib.hid (or_swap ht hs)
  have HAG := Lib.hid (or_again hs ht)
  have g0 := word_get hs (i := 0) (by omega)
  have g1 := word_get hs (i := 1) (by omega)
  have g2 := word_get hs (i := 2) (by omega)
  have g3 := word_get hs (i := 3) (by omega)
  have k0 := word_get ht (i := 0) (by omega)
  have k1 := word_get ht (i := 1) (by omega)
  have k2 := word_get ht (i := 2) (by omega)
  have k3 := word_get ht (i := 3) (by omega)
  have CO := fun bk W h1 h2 => or_any [s, t] bk W (wf_two hs ht) (by simp) h1 h2
  simp only [HSS.out, HST.out, HSU.out] at CO
  go_enter Tryd.func9, Tryd.ntmps9
  refine wp_seq_k fun K0 hK => ?_
  have HK := Lib.hid hK; clear hK
  go_wp2
  refine HK.out _ _ ?_
  clear HK K0
  have H2 := Lib.hid (Two.mk' (b1 := w.heap.size) (b2 := w.heap.size + 1) (w0 := w) (sb_alloc (heap_alloc_new w (Obj.cells (wc s) 25)) (Obj.cells (wc t) 25)) (show SB _ (w.heap.size + 1) t from (two_new w _ _).2) hs ht (((Below.refl _ w).alloc (Nat.le_refl _) _).alloc (alloc_le _ _) _))
  generalize (w.alloc (Obj.cells (wc s) 25)).alloc (Obj.cells (wc t) 25) = wA at *
  refine wp_seq_k fun K1 hK => ?_
  have HK := Lib.hid hK; clear hK
  obtain ⟨⟨a0, a1, a2, a3⟩, ⟨c0, c1, c2, c3⟩, l1, l2, hB⟩ := H2.out
  clear hB
  go_wp2_with (first
    | (go_at_call 15; refine (CO _ _ (by simp) (lsL (heap_alloc_new wA _) rfl)).mono ?_; rintro e w1 ⟨rfl, hb1⟩))
  clear a0 a1 a2 a3 c0 c1 c2 c3 l1 l2 CO
  refine HK.out _ _ ?_
  clear HK K1
  have HA := Lib.hid (Two.below (Two.alloc H2.out _) hb1)
  clear H2 hb1
  have HU0 := Lib.hid (show SB (w1.alloc _) w1.heap.size (orL [s, t]) from by rw [SB, wc_eq hu]; exact heap_alloc_new w1 _)
  have H2 := Lib.hid (Two.alloc HA.out (Obj.cells #[Value.int IntKind.u64 ↑(word (orL [s, t]) 0), Value.int IntKind.u64 ↑(word (orL [s, t]) 1), Value.int IntKind.u64 ↑(word (orL [s, t]) 2), Value.int IntKind.u64 ↑(word (orL [s, t]) 3)] 25))
  have HU := Lib.hid (Two.mk' HU0.out HU0.out hu hu (H2.out.last))
  clear HA HU0
  generalize w1.alloc (Obj.cells #[Value.int IntKind.u64 ↑(word (orL [s, t]) 0), Value.int IntKind.u64 ↑(word (orL [s, t]) 1), Value.int IntKind.u64 ↑(word (orL [s, t]) 2), Value.int IntKind.u64 ↑(word (orL [s, t]) 3)] 25) = w3 at *
  generalize w1.heap.size = bu at *
  refine wp_seq_k fun K2 hK => ?_
  have HK := Lib.hid hK; clear hK
  have HREST : ∀ (n : Nat) (x9 x10 x11 x12 x13 x14 x15 x16 x17 x18 x19 : Value) (W : World), Two w.heap.size (w.heap.size + 1) s t w W → Two bu n (orL [s, t]) (bothW s t) w W → K2 { tmps := #[SV s, SV t, Value.int IntKind.u8 ↑b, Value.pointer (some { block := w.heap.size, off := 0 }), Value.pointer (some { block := w.heap.size + 1, off := 0 }), undef, Value.bool false, Value.pointer (some { block := bu, off := 0 }), Value.pointer (some { block := n, off := 0 }), x9, x10, x11, x12, x13, x14, x15, x16, x17, x18, x19, undef, undef, undef, undef, undef, undef, undef, undef, undef, undef, undef, undef, undef, undef, undef, undef, undef, undef, undef, undef, undef, undef, undef, undef, undef, undef, undef, undef, undef, undef, undef, undef, undef, undef, undef, undef, undef, undef, undef, undef, undef, undef, undef, undef], defers := [] } W := by
    intro n x9 x10 x11 x12 x13 x14 x15 x16 x17 x18 x19 W h1 h2
    refine HK.out _ _ ?_
    clear HK K2 H2 HU
    refine wp_seq_k fun K3 hK => ?_
    have HK := Lib.hid hK; clear hK
    have H3 := Lib.hid (And.intro h1.drew h2.drew)
    clear h1 h2
    have CO1 := fun bk W h1 h2 => or_any [t, s] bk W (wf_two ht hs) (by simp) h1 h2
    have CO2 := fun bk W h1 h2 => or_any [orL [s, t], s] bk W (wf_two hu hs) (by simp) h1 h2
    have CHU := fun (x : Int) W hx => has_lit (orL [s, t]) x W hu hx
    have CHS := fun (x : Int) W hx => has_lit s x W hs hx
    have CHT := fun (x : Int) W hx => has_lit t x W ht hx
    have CSU := fun W => size_any (orL [s, t]) W hu
    have CSS := fun W => size_any s W hs
    have CST := fun W => size_any t W ht
    have CSV := fun W => size_any (bothW s t) W hv
    simp only [HSW.out, HAG.out] at CO1 CO2
    simp only [HSS.out, HST.out, HSU.out, HSV.out] at CO1 CO2 CHU CHS CHT CSU CSS CST CSV
    have HQ := fun W => run_eq4 (word (orL [s, t]) 0) (word (orL [s, t]) 1) (word (orL [s, t]) 2) (word (orL [s, t]) 3) W
    have hsz := size_or hs ht
    have b1 : sizeW s ≤ 256 := sizeW_le s
    have b2 : sizeW t ≤ 256 := sizeW_le t
    have e1 : IntKind.i64.wrap ((sizeW s : Int) + (sizeW t : Int)) = (sizeW (orL [s, t]) : Int) + (sizeW (bothW s t) : Int) := by rw [IntKind.wrap_i64]; omega
    have e2 : IntKind.i64.wrap ((sizeW (orL [s, t]) : Int) + (sizeW (bothW s t) : Int) - (sizeW (bothW s t) : Int)) = (sizeW (orL [s, t]) : Int) := by rw [IntKind.wrap_i64]; omega
    have e3 : IntKind.i64.wrap (sizeW (orL [s, t]) : Int) = (sizeW (orL [s, t]) : Int) := by rw [IntKind.wrap_i64]; omega
    clear hsz b1 b2
    have HMU := Lib.hid (mem_or hs ht hb)
    have hqq : (mem t b == mem t b) = true := beq_self_eq_true _
    by_cases hm : mem s b = true
    · have HM := Lib.hid hm
      clear hm
      rw [HM.out, Bool.true_or] at HMU
      refine wp_region_noPanic ?_
      refine wp_region_held_drew (S := (fun w' => ((w'.cell? ⟨w.heap.size, 0, none⟩ = some (.int .u64 (word (s) 0 : Int)) ∧ w'.cell? ⟨w.heap.size, 1, none⟩ = some (.int .u64 (word (s) 1 : Int)) ∧ w'.cell? ⟨w.heap.size, 2, none⟩ = some (.int .u64 (word (s) 2 : Int)) ∧ w'.cell? ⟨w.heap.size, 3, none⟩ = some (.int .u64 (word (s) 3 : Int))) ∧ (w'.cell? ⟨(w.heap.size + 1), 0, none⟩ = some (.int .u64 (word (t) 0 : Int)) ∧ w'.cell? ⟨(w.heap.size + 1), 1, none⟩ = some (.int .u64 (word (t) 1 : Int)) ∧ w'.cell? ⟨(w.heap.size + 1), 2, none⟩ = some (.int .u64 (word (t) 2 : Int)) ∧ w'.cell? ⟨(w.heap.size + 1), 3, none⟩ = some (.int .u64 (word (t) 3 : Int))) ∧ w.heap.size < w'.heap.size ∧ (w.heap.size + 1) < w'.heap.size ∧ Below w.heap.size w w') ∧ ((w'.cell? ⟨bu, 0, none⟩ = some (.int .u64 (word (orL [s, t]) 0 : Int)) ∧ w'.cell? ⟨bu, 1, none⟩ = some (.int .u64 (word (orL [s, t]) 1 : Int)) ∧ w'.cell? ⟨bu, 2, none⟩ = some (.int .u64 (word (orL [s, t]) 2 : Int)) ∧ w'.cell? ⟨bu, 3, none⟩ = some (.int .u64 (word (orL [s, t]) 3 : Int))) ∧ (w'.cell? ⟨n, 0, none⟩ = some (.int .u64 (word (bothW s t) 0 : Int)) ∧ w'.cell? ⟨n, 1, none⟩ = some (.int .u64 (word (bothW s t) 1 : Int)) ∧ w'.cell? ⟨n, 2, none⟩ = some (.int .u64 (word (bothW s t) 2 : Int)) ∧ w'.cell? ⟨n, 3, none⟩ = some (.int .u64 (word (bothW s t) 3 : Int))) ∧ bu < w'.heap.size ∧ n < w'.heap.size ∧ Below w.heap.size w w'))) (by kernel_rfl) ?_ (fun hHeld => ?_)
      · (try dsimp only); exact H3.out
      clear H3
      generalize W.drew = W2 at *
      refine wpAnyH_take (i := 0) (oi := ?o0a) (v := ?v0a) ?hi0a (by kernel_rfl) (by kernel_rfl) (by kernel_rfl) (fun _ _ _ h => h) ?hy0a (by assumption) ?r0a
      case hi0a => simp only [List.getElem?_toArray, List.getElem?_cons_succ, List.getElem?_cons_zero]; rfl
      case hy0a => exact Or.inl ⟨by rfl, by (intro w hSw; (try dsimp only at hSw); go_simp) <;> with_reducible rfl⟩
      try simp only [Act.put, List.setIfInBounds_toArray, List.set_cons_zero, List.set_cons_succ]
      refine wpAnyH_take (i := 1) (oi := ?o1a) (v := ?v1a) ?hi1a (by kernel_rfl) (by kernel_rfl) (by kernel_rfl) (fun _ _ _ h => h) ?hy1a (by assumption) ?r1a
      case hi1a => simp only [List.getElem?_toArray, List.getElem?_cons_succ, List.getElem?_cons_zero]; rfl
      case hy1a => exact Or.inl ⟨by rfl, by (intro w hSw; (try dsimp only at hSw); go_simp) <;> with_reducible rfl⟩
      try simp only [Act.put, List.setIfInBounds_toArray, List.set_cons_zero, List.set_cons_succ]
      refine wpAnyH_take (i := 2) (oi := ?o2a) (v := ?v2a) ?hi2a (by kernel_rfl) (by kernel_rfl) (by kernel_rfl) (fun _ _ _ h => h) ?hy2a (by assumption) ?r2a
      case hi2a => simp only [List.getElem?_toArray, List.getElem?_cons_succ, List.getElem?_cons_zero]; rfl
      case hy2a => exact Or.inl ⟨by rfl, by (intro w hSw; (try dsimp only at hSw); go_simp) <;> with_reducible rfl⟩
      try simp only [Act.put, List.setIfInBounds_toArray, List.set_cons_zero, List.set_cons_succ]
      refine wpAnyH_ready (rs := [3]) (by kernel_rfl) (by simp) ?_
      refine AllReadyH.cons (o := ?o3a) ?hi3a (fun K hK => ?st3a) AllReadyH.nil
      case hi3a => simp only [List.getElem?_toArray, List.getElem?_cons_succ, List.getElem?_cons_zero]; rfl
      go_simp
      refine hK.out _ _ ?_ (fun hHeld => ?_)
      · (try dsimp only); (first | assumption | exact And.intro (Two.alloc hHeld.1 _) (Two.alloc hHeld.2 _) | exact And.intro (Two.below hHeld.1 hbl) (Two.below hHeld.2 hbl))
      clear hK K
      try simp only [Act.put, List.setIfInBounds_toArray, List.set_cons_zero, List.set_cons_succ]
      refine wpAnyH_ready (rs := [4]) (by kernel_rfl) (by simp) ?_
      refine AllReadyH.cons (o := ?o4a) ?hi4a (fun K hK => ?st4a) AllReadyH.nil
      case hi4a => simp only [List.getElem?_toArray, List.getElem?_cons_succ, List.getElem?_cons_zero]; rfl
      go_simp
      (go_at_call 15; refine (CO1 _ _ (by simp) (lsL (heap_alloc_new _ _) rfl)).mono ?_; rintro e w' ⟨rfl, hbl⟩)
      refine hK.out _ _ ?_ (fun hHeld => ?_)
      · (try dsimp only); (first | assumption | exact And.intro (Two.alloc hHeld.1 _) (Two.alloc hHeld.2 _) | exact And.intro (Two.below hHeld.1 hbl) (Two.below hHeld.2 hbl))
      clear hK K
      try simp only [Act.put, List.setIfInBounds_toArray, List.set_cons_zero, List.set_cons_succ]
      refine wpAnyH_take (i := 5) (oi := ?o5a) (v := ?v5a) ?hi5a (by kernel_rfl) (by kernel_rfl) (by kernel_rfl) (fun _ _ _ h => h) ?hy5a (by assumption) ?r5a
      case hi5a => simp only [List.getElem?_toArray, List.getElem?_cons_succ, List.getElem?_cons_zero]; rfl
      case hy5a => exact Or.inl ⟨by rfl, by (intro w hSw; (try dsimp only at hSw); go_simp) <;> with_reducible rfl⟩
      try simp only [Act.put, List.setIfInBounds_toArray, List.set_cons_zero, List.set_cons_succ]
      refine wpAnyH_take (i := 6) (oi := ?o6a) (v := ?v6a) ?hi6a (by kernel_rfl) (by kernel_rfl) (by kernel_rfl) (fun _ _ _ h => h) ?hy6a (by assumption) ?r6a
      case hi6a => simp only [List.getElem?_toArray, List.getElem?_cons_succ, List.getElem?_cons_zero]; rfl
      case hy6a => exact Or.inl ⟨by rfl, by (intro w hSw; (try dsimp only at hSw); go_simp) <;> with_reducible rfl⟩
      try simp only [Act.put, List.setIfInBounds_toArray, List.set_cons_zero, List.set_cons_succ]
      refine wpAnyH_take (i := 7) (oi := ?o7a) (v := ?v7a) ?hi7a (by kernel_rfl) (by kernel_rfl) (by kernel_rfl) (fun _ _ _ h => h) ?hy7a (by assumption) ?r7a
      case hi7a => simp only [List.getElem?_toArray, List.getElem?_cons_succ, List.getElem?_cons_zero]; rfl
      case hy7a => exact Or.inl ⟨by rfl, by (intro w hSw; (try dsimp only at hSw); go_simp) <;> with_reducible rfl⟩
      try simp only [Act.put, List.setIfInBounds_toArray, List.set_cons_zero, List.set_cons_succ]
      refine wpAnyH_take (i := 8) (oi := ?o8a) (v := ?v8a) ?hi8a (by kernel_rfl) (by kernel_rfl) (by kernel_rfl) (fun _ _ _ h => h) ?hy8a (by assumption) ?r8a
      case hi8a => simp only [List.getElem?_toArray, List.getElem?_cons_succ, List.getElem?_cons_zero]; rfl
      case hy8a => exact Or.inl ⟨by rfl, by (intro w hSw; (try dsimp only at hSw); go_simp) <;> with_reducible rfl⟩
      try simp only [Act.put, List.setIfInBounds_toArray, List.set_cons_zero, List.set_cons_succ]
      refine wpAnyH_take (i := 11) (oi := ?o11a) (v := ?v11a) ?hi11a (by kernel_rfl) (by kernel_rfl) (by kernel_rfl) (fun _ _ _ h => h) ?hy11a (by assumption) ?r11a
      case hi11a => simp only [List.getElem?_toArray, List.getElem?_cons_succ, List.getElem?_cons_zero]; rfl
      case hy11a => exact Or.inl ⟨by rfl, by (intro w hSw; (try dsimp only at hSw); go_simp) <;> with_reducible rfl⟩
      try simp only [Act.put, List.setIfInBounds_toArray, List.set_cons_zero, List.set_cons_succ]
      refine wpAnyH_ready (rs := [9]) (by kernel_rfl) (by simp) ?_
      refine AllReadyH.cons (o := ?o9a) ?hi9a (fun K hK => ?st9a) AllReadyH.nil
      case hi9a => simp only [List.getElem?_toArray, List.getElem?_cons_succ, List.getElem?_cons_zero]; rfl
      go_simp
      refine hK.out _ _ ?_ (fun hHeld => ?_)
      · (try dsimp only); (first | assumption | exact And.intro (Two.alloc hHeld.1 _) (Two.alloc hHeld.2 _) | exact And.intro (Two.below hHeld.1 hbl) (Two.below hHeld.2 hbl))
      clear hK K
      try simp only [Act.put, List.setIfInBounds_toArray, List.set_cons_zero, List.set_cons_succ]
      refine wpAnyH_ready (rs := [10]) (by kernel_rfl) (by simp) ?_
      refine AllReadyH.cons (o := ?o10a) ?hi10a (fun K hK => ?st10a) AllReadyH.nil
      case hi10a => simp only [List.getElem?_toArray, List.getElem?_cons_succ, List.getElem?_cons_zero]; rfl
      go_simp
      (go_at_call 15; refine (CO2 _ _ (by simp) (lsL (heap_alloc_new _ _) rfl)).mono ?_; rintro e w' ⟨rfl, hbl⟩)
      refine hK.out _ _ ?_ (fun hHeld => ?_)
      · (try dsimp only); (first | assumption | exact And.intro (Two.alloc hHeld.1 _) (Two.alloc hHeld.2 _) | exact And.intro (Two.below hHeld.1 hbl) (Two.below hHeld.2 hbl))
      clear hK K
      try simp only [Act.put, List.setIfInBounds_toArray, List.set_cons_zero, List.set_cons_succ]
      refine wpAnyH_take (i := 12) (oi := ?o12a) (v := ?v12a) ?hi12a (by kernel_rfl) (by kernel_rfl) (by kernel_rfl) (fun _ _ _ h => h) ?hy12a (by assumption) ?r12a
      case hi12a => simp only [List.getElem?_toArray, List.getElem?_cons_succ, List.getElem?_cons_zero]; rfl
      case hy12a => exact Or.inl ⟨by rfl, by (intro w hSw; (try dsimp only at hSw); go_simp) <;> with_reducible rfl⟩
      try simp only [Act.put, List.setIfInBounds_toArray, List.set_cons_zero, List.set_cons_succ]
      refine wpAnyH_take (i := 13) (oi := ?o13a) (v := ?v13a) ?hi13a (by kernel_rfl) (by kernel_rfl) (by kernel_rfl) (fun _ _ _ h => h) ?hy13a (by assumption) ?r13a
      case hi13a => simp only [List.getElem?_toArray, List.getElem?_cons_succ, List.getElem?_cons_zero]; rfl
      case hy13a => exact Or.inl ⟨by rfl, by (intro w hSw; (try dsimp only at hSw); go_simp) <;> with_reducible rfl⟩
      try simp only [Act.put, List.setIfInBounds_toArray, List.set_cons_zero, List.set_cons_succ]
      refine wpAnyH_take (i := 14) (oi := ?o14a) (v := ?v14a) ?hi14a (by kernel_rfl) (by kernel_rfl) (by kernel_rfl) (fun _ _ _ h => h) ?hy14a (by assumption) ?r14a
      case hi14a => simp only [List.getElem?_toArray, List.getElem?_cons_succ, List.getElem?_cons_zero]; rfl
      case hy14a => exact Or.inl ⟨by rfl, by (intro w hSw; (try dsimp only at hSw); go_simp) <;> with_reducible rfl⟩
      try simp only [Act.put, List.setIfInBounds_toArray, List.set_cons_zero, List.set_cons_succ]
      refine wpAnyH_take (i := 15) (oi := ?o15a) (v := ?v15a) ?hi15a (by kernel_rfl) (by kernel_rfl) (by kernel_rfl) (fun _ _ _ h => h) ?hy15a (by assumption) ?r15a
      case hi15a => simp only [List.getElem?_toArray, List.getElem?_cons_succ, List.getElem?_cons_zero]; rfl
      case hy15a => exact Or.inl ⟨by rfl, by (intro w hSw; (try dsimp only at hSw); go_simp) <;> with_reducible rfl⟩
      try simp only [Act.put, List.setIfInBounds_toArray, List.set_cons_zero, List.set_cons_succ]
      refine wpAnyH_take (i := 16) (oi := ?o16a) (v := ?v16a) ?hi16a (by kernel_rfl) (by kernel_rfl) (by kernel_rfl) (fun _ _ _ h => h) ?hy16a (by assumption) ?r16a
      case hi16a => simp only [List.getElem?_toArray, List.getElem?_cons_succ, List.getElem?_cons_zero]; rfl
      case hy16a => exact Or.inl ⟨by rfl, by (intro w hSw; (try dsimp only at hSw); go_simp) <;> with_reducible rfl⟩
      try simp only [Act.put, List.setIfInBounds_toArray, List.set_cons_zero, List.set_cons_succ]
      refine wpAnyH_take (i := 18) (oi := ?o18a) (v := ?v18a) ?hi18a (by kernel_rfl) (by kernel_rfl) (by kernel_rfl) (fun _ _ _ h => h) ?hy18a (by assumption) ?r18a
      case hi18a => simp only [List.getElem?_toArray, List.getElem?_cons_succ, List.getElem?_cons_zero]; rfl
      case hy18a => exact Or.inl ⟨by rfl, by (intro w hSw; (try dsimp only at hSw); go_simp) <;> with_reducible rfl⟩
      try simp only [Act.put, List.setIfInBounds_toArray, List.set_cons_zero, List.set_cons_succ]
      refine wpAnyH_take (i := 19) (oi := ?o19a) (v := ?v19a) ?hi19a (by kernel_rfl) (by kernel_rfl) (by kernel_rfl) (fun _ _ _ h => h) ?hy19a (by assumption) ?r19a
      case hi19a => simp only [List.getElem?_toArray, List.getElem?_cons_succ, List.getElem?_cons_zero]; rfl
      case hy19a => exact Or.inl ⟨by rfl, by (intro w hSw; (try dsimp only at hSw); go_simp) <;> with_reducible rfl⟩
      try simp only [Act.put, List.setIfInBounds_toArray, List.set_cons_zero, List.set_cons_succ]
      refine wpAnyH_ready (rs := [17]) (by kernel_rfl) (by simp) ?_
      refine AllReadyH.cons (o := ?o17a) ?hi17a (fun K hK => ?st17a) AllReadyH.nil
      case hi17a => simp only [List.getElem?_toArray, List.getElem?_cons_succ, List.getElem?_cons_zero]; rfl
      go_simp
      (go_at_call 16; refine (CHU _ _ (by omega)).mono ?_; rintro e w' ⟨he, hbl⟩; rw [Int.toNat_natCast, HMU.out] at he; subst he)
      refine hK.out _ _ ?_ (fun hHeld => ?_)
      · (try dsimp only); (first | assumption | exact And.intro (Two.alloc hHeld.1 _) (Two.alloc hHeld.2 _) | exact And.intro (Two.below hHeld.1 hbl) (Two.below hHeld.2 hbl))
      clear hK K
      try simp only [Act.put, List.setIfInBounds_toArray, List.set_cons_zero, List.set_cons_succ]
      refine wpAnyH_ready (rs := [20]) (by kernel_rfl) (by simp) ?_
      refine AllReadyH.cons (o := ?o20a) ?hi20a (fun K hK => ?st20a) AllReadyH.nil
      case hi20a => simp only [List.getElem?_toArray, List.getElem?_cons_succ, List.getElem?_cons_zero]; rfl
      go_simp
      (go_at_call 16; refine (CHS _ _ (by omega)).mono ?_; rintro e w' ⟨he, hbl⟩; rw [Int.toNat_natCast, HM.out] at he; subst he)
      refine hK.out _ _ ?_ (fun hHeld => ?_)
      · (try dsimp only); (first | assumption | exact And.intro (Two.alloc hHeld.1 _) (Two.alloc hHeld.2 _) | exact And.intro (Two.below hHeld.1 hbl) (Two.below hHeld.2 hbl))
      clear hK K
      try simp only [Act.put, List.setIfInBounds_toArray, List.set_cons_zero, List.set_cons_succ]
      refine wpAnyH_take (i := 21) (oi := ?o21a) (v := ?v21a) ?hi21a (by kernel_rfl) (by kernel_rfl) (by kernel_rfl) (fun _ _ _ h => h) ?hy21a (by assumption) ?r21a
      case hi21a => simp only [List.getElem?_toArray, List.getElem?_cons_succ, List.getElem?_cons_zero]; rfl
      case hy21a => exact Or.inl ⟨by rfl, by (intro w hSw; (try dsimp only at hSw); go_simp) <;> with_reducible rfl⟩
      try simp only [Act.put, List.setIfInBounds_toArray, List.set_cons_zero, List.set_cons_succ]
      refine wpAnyH_take (i := 22) (oi := ?o22a) (v := undef) ?hi22a (by kernel_rfl) (by kernel_rfl) (by kernel_rfl) (fun _ _ _ h => h) ?hy22a (by assumption) ?r22a
      case hi22a => simp only [List.getElem?_toArray, List.getElem?_cons_succ, List.getElem?_cons_zero]; rfl
      case hy22a => exact Or.inr ⟨by rfl, rfl⟩
      try simp only [Act.put, List.setIfInBounds_toArray, List.set_cons_zero, List.set_cons_succ]
      refine wpAnyH_take (i := 23) (oi := ?o23a) (v := undef) ?hi23a (by kernel_rfl) (by kernel_rfl) (by kernel_rfl) (fun _ _ _ h => h) ?hy23a (by assumption) ?r23a
      case hi23a => simp only [List.getElem?_toArray, List.getElem?_cons_succ, List.getElem?_cons_zero]; rfl
      case hy23a => exact Or.inr ⟨by rfl, rfl⟩
      try simp only [Act.put, List.setIfInBounds_toArray, List.set_cons_zero, List.set_cons_succ]
      refine wpAnyH_take (i := 24) (oi := ?o24a) (v := undef) ?hi24a (by kernel_rfl) (by kernel_rfl) (by kernel_rfl) (fun _ _ _ h => h) ?hy24a (by assumption) ?r24a
      case hi24a => simp only [List.getElem?_toArray, List.getElem?_cons_succ, List.getElem?_cons_zero]; rfl
      case hy24a => exact Or.inr ⟨by rfl, rfl⟩
      try simp only [Act.put, List.setIfInBounds_toArray, List.set_cons_zero, List.set_cons_succ]
      refine wpAnyH_take (i := 25) (oi := ?o25a) (v := ?v25a) ?hi25a (by kernel_rfl) (by kernel_rfl) (by kernel_rfl) (fun _ _ _ h => h) ?hy25a (by assumption) ?r25a
      case hi25a => simp only [List.getElem?_toArray, List.getElem?_cons_succ, List.getElem?_cons_zero]; rfl
      case hy25a => exact Or.inl ⟨by rfl, by (intro w hSw; (try dsimp only at hSw); go_simp) <;> with_reducible rfl⟩
      try simp only [Act.put, List.setIfInBounds_toArray, List.set_cons_zero, List.set_cons_succ]
      refine wpAnyH_take (i := 26) (oi := ?o26a) (v := ?v26a) ?hi26a (by kernel_rfl) (by kernel_rfl) (by kernel_rfl) (fun _ _ _ h => h) ?hy26a (by assumption) ?r26a
      case hi26a => simp only [List.getElem?_toArray, List.getElem?_cons_succ, List.getElem?_cons_zero]; rfl
      case hy26a => exact Or.inl ⟨by rfl, by (intro w hSw; (try dsimp only at hSw); go_simp) <;> with_reducible rfl⟩
      try simp only [Act.put, List.setIfInBounds_toArray, List.set_cons_zero, List.set_cons_succ]
      refine wpAnyH_take (i := 27) (oi := ?o27a) (v := ?v27a) ?hi27a (by kernel_rfl) (by kernel_rfl) (by kernel_rfl) (fun _ _ _ h => h) ?hy27a (by assumption) ?r27a
      case hi27a => simp only [List.getElem?_toArray, List.getElem?_cons_succ, List.getElem?_cons_zero]; rfl
      case hy27a => exact Or.inl ⟨by rfl, by (intro w hSw; (try dsimp only at hSw); go_simp) <;> with_reducible rfl⟩
      try simp only [Act.put, List.setIfInBounds_toArray, List.set_cons_zero, List.set_cons_succ]
      refine wpAnyH_take (i := 28) (oi := ?o28a) (v := ?v28a) ?hi28a (by kernel_rfl) (by kernel_rfl) (by kernel_rfl) (fun _ _ _ h => h) ?hy28a (by assumption) ?r28a
      case hi28a => simp only [List.getElem?_toArray, List.getElem?_cons_succ, List.getElem?_cons_zero]; rfl
      case hy28a => exact Or.inl ⟨by rfl, by (intro w hSw; (try dsimp only at hSw); go_simp) <;> with_reducible rfl⟩
      try simp only [Act.put, List.setIfInBounds_toArray, List.set_cons_zero, List.set_cons_succ]
      refine wpAnyH_take (i := 29) (oi := ?o29a) (v := ?v29a) ?hi29a (by kernel_rfl) (by kernel_rfl) (by kernel_rfl) (fun _ _ _ h => h) ?hy29a (by assumption) ?r29a
      case hi29a => simp only [List.getElem?_toArray, List.getElem?_cons_succ, List.getElem?_cons_zero]; rfl
      case hy29a => exact Or.inl ⟨by rfl, by (intro w hSw; (try dsimp only at hSw); go_simp) <;> with_reducible rfl⟩
      try simp only [Act.put, List.setIfInBounds_toArray, List.set_cons_zero, List.set_cons_succ]
      refine wpAnyH_take (i := 31) (oi := ?o31a) (v := ?v31a) ?hi31a (by kernel_rfl) (by kernel_rfl) (by kernel_rfl) (fun _ _ _ h => h) ?hy31a (by assumption) ?r31a
      case hi31a => simp only [List.getElem?_toArray, List.getElem?_cons_succ, List.getElem?_cons_zero]; rfl
      case hy31a => exact Or.inl ⟨by rfl, by (intro w hSw; (try dsimp only at hSw); go_simp) <;> with_reducible rfl⟩
      try simp only [Act.put, List.setIfInBounds_toArray, List.set_cons_zero, List.set_cons_succ]
      refine wpAnyH_take (i := 33) (oi := ?o33a) (v := ?v33a) ?hi33a (by kernel_rfl) (by kernel_rfl) (by kernel_rfl) (fun _ _ _ h => h) ?hy33a (by assumption) ?r33a
      case hi33a => simp only [List.getElem?_toArray, List.getElem?_cons_succ, List.getElem?_cons_zero]; rfl
      case hy33a => exact Or.inl ⟨by rfl, by (intro w hSw; (try dsimp only at hSw); go_simp) <;> with_reducible rfl⟩
      try simp only [Act.put, List.setIfInBounds_toArray, List.set_cons_zero, List.set_cons_succ]
      refine wpAnyH_take (i := 36) (oi := ?o36a) (v := ?v36a) ?hi36a (by kernel_rfl) (by kernel_rfl) (by kernel_rfl) (fun _ _ _ h => h) ?hy36a (by assumption) ?r36a
      case hi36a => simp only [List.getElem?_toArray, List.getElem?_cons_succ, List.getElem?_cons_zero]; rfl
      case hy36a => exact Or.inl ⟨by rfl, by (intro w hSw; (try dsimp only at hSw); go_simp) <;> with_reducible rfl⟩
      try simp only [Act.put, List.setIfInBounds_toArray, List.set_cons_zero, List.set_cons_succ]
      refine wpAnyH_ready (rs := [30]) (by kernel_rfl) (by simp) ?_
      refine AllReadyH.cons (o := ?o30a) ?hi30a (fun K hK => ?st30a) AllReadyH.nil
      case hi30a => simp only [List.getElem?_toArray, List.getElem?_cons_succ, List.getElem?_cons_zero]; rfl
      go_simp
      (go_at_call 21; refine (CSU _).mono ?_; rintro e w' ⟨rfl, hbl⟩)
      refine hK.out _ _ ?_ (fun hHeld => ?_)
      · (try dsimp only); (first | assumption | exact And.intro (Two.alloc hHeld.1 _) (Two.alloc hHeld.2 _) | exact And.intro (Two.below hHeld.1 hbl) (Two.below hHeld.2 hbl))
      clear hK K
      try simp only [Act.put, List.setIfInBounds_toArray, List.set_cons_zero, List.set_cons_succ]
      refine wpAnyH_ready (rs := [32]) (by kernel_rfl) (by simp) ?_
      refine AllReadyH.cons (o := ?o32a) ?hi32a (fun K hK => ?st32a) AllReadyH.nil
      case hi32a => simp only [List.getElem?_toArray, List.getElem?_cons_succ, List.getElem?_cons_zero]; rfl
      go_simp
      (go_at_call 21; refine (CSS _).mono ?_; rintro e w' ⟨rfl, hbl⟩)
      refine hK.out _ _ ?_ (fun hHeld => ?_)
      · (try dsimp only); (first | assumption | exact And.intro (Two.alloc hHeld.1 _) (Two.alloc hHeld.2 _) | exact And.intro (Two.below hHeld.1 hbl) (Two.below hHeld.2 hbl))
      clear hK K
      try simp only [Act.put, List.setIfInBounds_toArray, List.set_cons_zero, List.set_cons_succ]
      refine wpAnyH_ready (rs := [34]) (by kernel_rfl) (by simp) ?_
      refine AllReadyH.cons (o := ?o34a) ?hi34a (fun K hK => ?st34a) AllReadyH.nil
      case hi34a => simp only [List.getElem?_toArray, List.getElem?_cons_succ, List.getElem?_cons_zero]; rfl
      go_simp
      (go_at_call 21; refine (CST _).mono ?_; rintro e w' ⟨rfl, hbl⟩)
      refine hK.out _ _ ?_ (fun hHeld => ?_)
      · (try dsimp only); (first | assumption | exact And.intro (Two.alloc hHeld.1 _) (Two.alloc hHeld.2 _) | exact And.intro (Two.below hHeld.1 hbl) (Two.below hHeld.2 hbl))
      clear hK K
      try simp only [Act.put, List.setIfInBounds_toArray, List.set_cons_zero, List.set_cons_succ]
      refine wpAnyH_take (i := 35) (oi := ?o35a) (v := ?v35a) ?hi35a (by kernel_rfl) (by kernel_rfl) (by kernel_rfl) (fun _ _ _ h => h) ?hy35a (by assumption) ?r35a
      case hi35a => simp only [List.getElem?_toArray, List.getElem?_cons_succ, List.getElem?_cons_zero]; rfl
      case hy35a => exact Or.inl ⟨by rfl, by (intro w hSw; (try dsimp only at hSw); go_simp) <;> with_reducible rfl⟩
      try simp only [Act.put, List.setIfInBounds_toArray, List.set_cons_zero, List.set_cons_succ]
      refine wpAnyH_ready (rs := [37]) (by kernel_rfl) (by simp) ?_
      refine AllReadyH.cons (o := ?o37a) ?hi37a (fun K hK => ?st37a) AllReadyH.nil
      case hi37a => simp only [List.getElem?_toArray, List.getElem?_cons_succ, List.getElem?_cons_zero]; rfl
      go_simp
      (go_at_call 21; refine (CSV _).mono ?_; rintro e w' ⟨rfl, hbl⟩)
      refine hK.out _ _ ?_ (fun hHeld => ?_)
      · (try dsimp only); (first | assumption | exact And.intro (Two.alloc hHeld.1 _) (Two.alloc hHeld.2 _) | exact And.intro (Two.below hHeld.1 hbl) (Two.below hHeld.2 hbl))
      clear hK K
      try simp only [Act.put, List.setIfInBounds_toArray, List.set_cons_zero, List.set_cons_succ]
      refine wpAnyH_take (i := 38) (oi := ?o38a) (v := ?v38a) ?hi38a (by kernel_rfl) (by kernel_rfl) (by kernel_rfl) (fun _ _ _ h => h) ?hy38a (by assumption) ?r38a
      case hi38a => simp only [List.getElem?_toArray, List.getElem?_cons_succ, List.getElem?_cons_zero]; rfl
      case hy38a => exact Or.inl ⟨by rfl, by (intro w hSw; (try dsimp only at hSw); go_simp) <;> with_reducible rfl⟩
      try simp only [Act.put, List.setIfInBounds_toArray, List.set_cons_zero, List.set_cons_succ]
      refine wpAnyH_take (i := 39) (oi := ?o39a) (v := ?v39a) ?hi39a (by kernel_rfl) (by kernel_rfl) (by kernel_rfl) (fun _ _ _ h => h) ?hy39a (by assumption) ?r39a
      case hi39a => simp only [List.getElem?_toArray, List.getElem?_cons_succ, List.getElem?_cons_zero]; rfl
      case hy39a => exact Or.inl ⟨by rfl, by (intro w hSw; (try dsimp only at hSw); go_simp) <;> with_reducible rfl⟩
      try simp only [Act.put, List.setIfInBounds_toArray, List.set_cons_zero, List.set_cons_succ]
      refine wpAnyH_take (i := 40) (oi := ?o40a) (v := ?v40a) ?hi40a (by kernel_rfl) (by kernel_rfl) (by kernel_rfl) (fun _ _ _ h => h) ?hy40a (by assumption) ?r40a
      case hi40a => simp only [List.getElem?_toArray, List.getElem?_cons_succ, List.getElem?_cons_zero]; rfl
      case hy40a => exact Or.inl ⟨by rfl, by (intro w hSw; (try dsimp only at hSw); go_simp) <;> with_reducible rfl⟩
      try simp only [Act.put, List.setIfInBounds_toArray, List.set_cons_zero, List.set_cons_succ]
      refine wpAnyH_take (i := 41) (oi := ?o41a) (v := ?v41a) ?hi41a (by kernel_rfl) (by kernel_rfl) (by kernel_rfl) (fun _ _ _ h => h) ?hy41a (by assumption) ?r41a
      case hi41a => simp only [List.getElem?_toArray, List.getElem?_cons_succ, List.getElem?_cons_zero]; rfl
      case hy41a => exact Or.inl ⟨by rfl, by (intro w hSw; (try dsimp only at hSw); go_simp) <;> with_reducible rfl⟩
      try simp only [Act.put, List.setIfInBounds_toArray, List.set_cons_zero, List.set_cons_succ]
      refine wpAnyH_ready (rs := [42]) (by kernel_rfl) (by simp) ?_
      refine AllReadyH.cons (o := ?o42a) ?hi42a (fun K hK => ?st42a) AllReadyH.nil
      case hi42a => simp only [List.getElem?_toArray, List.getElem?_cons_succ, List.getElem?_cons_zero]; rfl
      go_simp
      (go_at_call 10; refine (shown_any _ (Two.pos hHeld.1 hg) (Two.tab hHeld.1 hg HT.out)).mono ?_; rintro e w' ⟨rfl, hbl⟩)
      refine hK.out _ _ ?_ (fun hHeld => ?_)
      · (try dsimp only); (first | assumption | exact And.intro (Two.alloc hHeld.1 _) (Two.alloc hHeld.2 _) | exact And.intro (Two.below hHeld.1 hbl) (Two.below hHeld.2 hbl))
      clear hK K
      try simp only [Act.put, List.setIfInBounds_toArray, List.set_cons_zero, List.set_cons_succ]
      refine wpAnyH_take (i := 43) (oi := ?o43a) (v := ?v43a) ?hi43a (by kernel_rfl) (by kernel_rfl) (by kernel_rfl) (fun _ _ _ h => h) ?hy43a (by assumption) ?r43a
      case hi43a => simp only [List.getElem?_toArray, List.getElem?_cons_succ, List.getElem?_cons_zero]; rfl
      case hy43a => exact Or.inl ⟨by rfl, by (intro w hSw; (try dsimp only at hSw); go_simp) <;> with_reducible rfl⟩
      try simp only [Act.put, List.setIfInBounds_toArray, List.set_cons_zero, List.set_cons_succ]
      refine wpAnyH_take (i := 44) (oi := ?o44a) (v := ?v44a) ?hi44a (by kernel_rfl) (by kernel_rfl) (by kernel_rfl) (fun _ _ _ h => h) ?hy44a (by assumption) ?r44a
      case hi44a => simp only [List.getElem?_toArray, List.getElem?_cons_succ, List.getElem?_cons_zero]; rfl
      case hy44a => exact Or.inl ⟨by rfl, by (intro w hSw; (try dsimp only at hSw); go_simp) <;> with_reducible rfl⟩
      try simp only [Act.put, List.setIfInBounds_toArray, List.set_cons_zero, List.set_cons_succ]
      refine wpAnyH_done (by kernel_rfl) ?_ _
      refine NoPanic.normal ?_
      refine HK.out _ _ ?_
      go_wp2
      go_ret
      exact ⟨rfl, Two.last hHeld.1⟩
    · have HM := Lib.hid (Bool.eq_false_iff.2 hm)
      clear hm
      rw [HM.out, Bool.false_or] at HMU
      refine wp_region_noPanic ?_
      refine wp_region_held_drew (S := (fun w' => ((w'.cell? ⟨w.heap.size, 0, none⟩ = some (.int .u64 (word (s) 0 : Int)) ∧ w'.cell? ⟨w.heap.size, 1, none⟩ = some (.int .u64 (word (s) 1 : Int)) ∧ w'.cell? ⟨w.heap.size, 2, none⟩ = some (.int .u64 (word (s) 2 : Int)) ∧ w'.cell? ⟨w.heap.size, 3, none⟩ = some (.int .u64 (word (s) 3 : Int))) ∧ (w'.cell? ⟨(w.heap.size + 1), 0, none⟩ = some (.int .u64 (word (t) 0 : Int)) ∧ w'.cell? ⟨(w.heap.size + 1), 1, none⟩ = some (.int .u64 (word (t) 1 : Int)) ∧ w'.cell? ⟨(w.heap.size + 1), 2, none⟩ = some (.int .u64 (word (t) 2 : Int)) ∧ w'.cell? ⟨(w.heap.size + 1), 3, none⟩ = some (.int .u64 (word (t) 3 : Int))) ∧ w.heap.size < w'.heap.size ∧ (w.heap.size + 1) < w'.heap.size ∧ Below w.heap.size w w') ∧ ((w'.cell? ⟨bu, 0, none⟩ = some (.int .u64 (word (orL [s, t]) 0 : Int)) ∧ w'.cell? ⟨bu, 1, none⟩ = some (.int .u64 (word (orL [s, t]) 1 : Int)) ∧ w'.cell? ⟨bu, 2, none⟩ = some (.int .u64 (word (orL [s, t]) 2 : Int)) ∧ w'.cell? ⟨bu, 3, none⟩ = some (.int .u64 (word (orL [s, t]) 3 : Int))) ∧ (w'.cell? ⟨n, 0, none⟩ = some (.int .u64 (word (bothW s t) 0 : Int)) ∧ w'.cell? ⟨n, 1, none⟩ = some (.int .u64 (word (bothW s t) 1 : Int)) ∧ w'.cell? ⟨n, 2, none⟩ = some (.int .u64 (word (bothW s t) 2 : Int)) ∧ w'.cell? ⟨n, 3, none⟩ = some (.int .u64 (word (bothW s t) 3 : Int))) ∧ bu < w'.heap.size ∧ n < w'.heap.size ∧ Below w.heap.size w w'))) (by kernel_rfl) ?_ (fun hHeld => ?_)
      · (try dsimp only); exact H3.out
      clear H3
      generalize W.drew = W2 at *
      refine wpAnyH_take (i := 0) (oi := ?o0b) (v := ?v0b) ?hi0b (by kernel_rfl) (by kernel_rfl) (by kernel_rfl) (fun _ _ _ h => h) ?hy0b (by assumption) ?r0b
      case hi0b => simp only [List.getElem?_toArray, List.getElem?_cons_succ, List.getElem?_cons_zero]; rfl
      case hy0b => exact Or.inl ⟨by rfl, by (intro w hSw; (try dsimp only at hSw); go_simp) <;> with_reducible rfl⟩
      try simp only [Act.put, List.setIfInBounds_toArray, List.set_cons_zero, List.set_cons_succ]
      refine wpAnyH_take (i := 1) (oi := ?o1b) (v := ?v1b) ?hi1b (by kernel_rfl) (by kernel_rfl) (by kernel_rfl) (fun _ _ _ h => h) ?hy1b (by assumption) ?r1b
      case hi1b => simp only [List.getElem?_toArray, List.getElem?_cons_succ, List.getElem?_cons_zero]; rfl
      case hy1b => exact Or.inl ⟨by rfl, by (intro w hSw; (try dsimp only at hSw); go_simp) <;> with_reducible rfl⟩
      try simp only [Act.put, List.setIfInBounds_toArray, List.set_cons_zero, List.set_cons_succ]
      refine wpAnyH_take (i := 2) (oi := ?o2b) (v := ?v2b) ?hi2b (by kernel_rfl) (by kernel_rfl) (by kernel_rfl) (fun _ _ _ h => h) ?hy2b (by assumption) ?r2b
      case hi2b => simp only [List.getElem?_toArray, List.getElem?_cons_succ, List.getElem?_cons_zero]; rfl
      case hy2b => exact Or.inl ⟨by rfl, by (intro w hSw; (try dsimp only at hSw); go_simp) <;> with_reducible rfl⟩
      try simp only [Act.put, List.setIfInBounds_toArray, List.set_cons_zero, List.set_cons_succ]
      refine wpAnyH_ready (rs := [3]) (by kernel_rfl) (by simp) ?_
      refine AllReadyH.cons (o := ?o3b) ?hi3b (fun K hK => ?st3b) AllReadyH.nil
      case hi3b => simp only [List.getElem?_toArray, List.getElem?_cons_succ, List.getElem?_cons_zero]; rfl
      go_simp
      refine hK.out _ _ ?_ (fun hHeld => ?_)
      · (try dsimp only); (first | assumption | exact And.intro (Two.alloc hHeld.1 _) (Two.alloc hHeld.2 _) | exact And.intro (Two.below hHeld.1 hbl) (Two.below hHeld.2 hbl))
      clear hK K
      try simp only [Act.put, List.setIfInBounds_toArray, List.set_cons_zero, List.set_cons_succ]
      refine wpAnyH_ready (rs := [4]) (by kernel_rfl) (by simp) ?_
      refine AllReadyH.cons (o := ?o4b) ?hi4b (fun K hK => ?st4b) AllReadyH.nil
      case hi4b => simp only [List.getElem?_toArray, List.getElem?_cons_succ, List.getElem?_cons_zero]; rfl
      go_simp
      (go_at_call 15; refine (CO1 _ _ (by simp) (lsL (heap_alloc_new _ _) rfl)).mono ?_; rintro e w' ⟨rfl, hbl⟩)
      refine hK.out _ _ ?_ (fun hHeld => ?_)
      · (try dsimp only); (first | assumption | exact And.intro (Two.alloc hHeld.1 _) (Two.alloc hHeld.2 _) | exact And.intro (Two.below hHeld.1 hbl) (Two.below hHeld.2 hbl))
      clear hK K
      try simp only [Act.put, List.setIfInBounds_toArray, List.set_cons_zero, List.set_cons_succ]
      refine wpAnyH_take (i := 5) (oi := ?o5b) (v := ?v5b) ?hi5b (by kernel_rfl) (by kernel_rfl) (by kernel_rfl) (fun _ _ _ h => h) ?hy5b (by assumption) ?r5b
      case hi5b => simp only [List.getElem?_toArray, List.getElem?_cons_succ, List.getElem?_cons_zero]; rfl
      case hy5b => exact Or.inl ⟨by rfl, by (intro w hSw; (try dsimp only at hSw); go_simp) <;> with_reducible rfl⟩
      try simp only [Act.put, List.setIfInBounds_toArray, List.set_cons_zero, List.set_cons_succ]
      refine wpAnyH_take (i := 6) (oi := ?o6b) (v := ?v6b) ?hi6b (by kernel_rfl) (by kernel_rfl) (by kernel_rfl) (fun _ _ _ h => h) ?hy6b (by assumption) ?r6b
      case hi6b => simp only [List.getElem?_toArray, List.getElem?_cons_succ, List.getElem?_cons_zero]; rfl
      case hy6b => exact Or.inl ⟨by rfl, by (intro w hSw; (try dsimp only at hSw); go_simp) <;> with_reducible rfl⟩
      try simp only [Act.put, List.setIfInBounds_toArray, List.set_cons_zero, List.set_cons_succ]
      refine wpAnyH_take (i := 7) (oi := ?o7b) (v := ?v7b) ?hi7b (by kernel_rfl) (by kernel_rfl) (by kernel_rfl) (fun _ _ _ h => h) ?hy7b (by assumption) ?r7b
      case hi7b => simp only [List.getElem?_toArray, List.getElem?_cons_succ, List.getElem?_cons_zero]; rfl
      case hy7b => exact Or.inl ⟨by rfl, by (intro w hSw; (try dsimp only at hSw); go_simp) <;> with_reducible rfl⟩
      try simp only [Act.put, List.setIfInBounds_toArray, List.set_cons_zero, List.set_cons_succ]
      refine wpAnyH_take (i := 8) (oi := ?o8b) (v := ?v8b) ?hi8b (by kernel_rfl) (by kernel_rfl) (by kernel_rfl) (fun _ _ _ h => h) ?hy8b (by assumption) ?r8b
      case hi8b => simp only [List.getElem?_toArray, List.getElem?_cons_succ, List.getElem?_cons_zero]; rfl
      case hy8b => exact Or.inl ⟨by rfl, by (intro w hSw; (try dsimp only at hSw); go_simp) <;> with_reducible rfl⟩
      try simp only [Act.put, List.setIfInBounds_toArray, List.set_cons_zero, List.set_cons_succ]
      refine wpAnyH_take (i := 11) (oi := ?o11b) (v := ?v11b) ?hi11b (by kernel_rfl) (by kernel_rfl) (by kernel_rfl) (fun _ _ _ h => h) ?hy11b (by assumption) ?r11b
      case hi11b => simp only [List.getElem?_toArray, List.getElem?_cons_succ, List.getElem?_cons_zero]; rfl
      case hy11b => exact Or.inl ⟨by rfl, by (intro w hSw; (try dsimp only at hSw); go_simp) <;> with_reducible rfl⟩
      try simp only [Act.put, List.setIfInBounds_toArray, List.set_cons_zero, List.set_cons_succ]
      refine wpAnyH_ready (rs := [9]) (by kernel_rfl) (by simp) ?_
      refine AllReadyH.cons (o := ?o9b) ?hi9b (fun K hK => ?st9b) AllReadyH.nil
      case hi9b => simp only [List.getElem?_toArray, List.getElem?_cons_succ, List.getElem?_cons_zero]; rfl
      go_simp
      refine hK.out _ _ ?_ (fun hHeld => ?_)
      · (try dsimp only); (first | assumption | exact And.intro (Two.alloc hHeld.1 _) (Two.alloc hHeld.2 _) | exact And.intro (Two.below hHeld.1 hbl) (Two.below hHeld.2 hbl))
      clear hK K
      try simp only [Act.put, List.setIfInBounds_toArray, List.set_cons_zero, List.set_cons_succ]
      refine wpAnyH_ready (rs := [10]) (by kernel_rfl) (by simp) ?_
      refine AllReadyH.cons (o := ?o10b) ?hi10b (fun K hK => ?st10b) AllReadyH.nil
      case hi10b => simp only [List.getElem?_toArray, List.getElem?_cons_succ, List.getElem?_cons_zero]; rfl
      go_simp
      (go_at_call 15; refine (CO2 _ _ (by simp) (lsL (heap_alloc_new _ _) rfl)).mono ?_; rintro e w' ⟨rfl, hbl⟩)
      refine hK.out _ _ ?_ (fun hHeld => ?_)
      · (try dsimp only); (first | assumption | exact And.intro (Two.alloc hHeld.1 _) (Two.alloc hHeld.2 _) | exact And.intro (Two.below hHeld.1 hbl) (Two.below hHeld.2 hbl))
      clear hK K
      try simp only [Act.put, List.setIfInBounds_toArray, List.set_cons_zero, List.set_cons_succ]
      refine wpAnyH_take (i := 12) (oi := ?o12b) (v := ?v12b) ?hi12b (by kernel_rfl) (by kernel_rfl) (by kernel_rfl) (fun _ _ _ h => h) ?hy12b (by assumption) ?r12b
      case hi12b => simp only [List.getElem?_toArray, List.getElem?_cons_succ, List.getElem?_cons_zero]; rfl
      case hy12b => exact Or.inl ⟨by rfl, by (intro w hSw; (try dsimp only at hSw); go_simp) <;> with_reducible rfl⟩
      try simp only [Act.put, List.setIfInBounds_toArray, List.set_cons_zero, List.set_cons_succ]
      refine wpAnyH_take (i := 13) (oi := ?o13b) (v := ?v13b) ?hi13b (by kernel_rfl) (by kernel_rfl) (by kernel_rfl) (fun _ _ _ h => h) ?hy13b (by assumption) ?r13b
      case hi13b => simp only [List.getElem?_toArray, List.getElem?_cons_succ, List.getElem?_cons_zero]; rfl
      case hy13b => exact Or.inl ⟨by rfl, by (intro w hSw; (try dsimp only at hSw); go_simp) <;> with_reducible rfl⟩
      try simp only [Act.put, List.setIfInBounds_toArray, List.set_cons_zero, List.set_cons_succ]
      refine wpAnyH_take (i := 14) (oi := ?o14b) (v := ?v14b) ?hi14b (by kernel_rfl) (by kernel_rfl) (by kernel_rfl) (fun _ _ _ h => h) ?hy14b (by assumption) ?r14b
      case hi14b => simp only [List.getElem?_toArray, List.getElem?_cons_succ, List.getElem?_cons_zero]; rfl
      case hy14b => exact Or.inl ⟨by rfl, by (intro w hSw; (try dsimp only at hSw); go_simp) <;> with_reducible rfl⟩
      try simp only [Act.put, List.setIfInBounds_toArray, List.set_cons_zero, List.set_cons_succ]
      refine wpAnyH_take (i := 15) (oi := ?o15b) (v := ?v15b) ?hi15b (by kernel_rfl) (by kernel_rfl) (by kernel_rfl) (fun _ _ _ h => h) ?hy15b (by assumption) ?r15b
      case hi15b => simp only [List.getElem?_toArray, List.getElem?_cons_succ, List.getElem?_cons_zero]; rfl
      case hy15b => exact Or.inl ⟨by rfl, by (intro w hSw; (try dsimp only at hSw); go_simp) <;> with_reducible rfl⟩
      try simp only [Act.put, List.setIfInBounds_toArray, List.set_cons_zero, List.set_cons_succ]
      refine wpAnyH_take (i := 16) (oi := ?o16b) (v := ?v16b) ?hi16b (by kernel_rfl) (by kernel_rfl) (by kernel_rfl) (fun _ _ _ h => h) ?hy16b (by assumption) ?r16b
      case hi16b => simp only [List.getElem?_toArray, List.getElem?_cons_succ, List.getElem?_cons_zero]; rfl
      case hy16b => exact Or.inl ⟨by rfl, by (intro w hSw; (try dsimp only at hSw); go_simp) <;> with_reducible rfl⟩
      try simp only [Act.put, List.setIfInBounds_toArray, List.set_cons_zero, List.set_cons_succ]
      refine wpAnyH_take (i := 18) (oi := ?o18b) (v := ?v18b) ?hi18b (by kernel_rfl) (by kernel_rfl) (by kernel_rfl) (fun _ _ _ h => h) ?hy18b (by assumption) ?r18b
      case hi18b => simp only [List.getElem?_toArray, List.getElem?_cons_succ, List.getElem?_cons_zero]; rfl
      case hy18b => exact Or.inl ⟨by rfl, by (intro w hSw; (try dsimp only at hSw); go_simp) <;> with_reducible rfl⟩
      try simp only [Act.put, List.setIfInBounds_toArray, List.set_cons_zero, List.set_cons_succ]
      refine wpAnyH_take (i := 19) (oi := ?o19b) (v := ?v19b) ?hi19b (by kernel_rfl) (by kernel_rfl) (by kernel_rfl) (fun _ _ _ h => h) ?hy19b (by assumption) ?r19b
      case hi19b => simp only [List.getElem?_toArray, List.getElem?_cons_succ, List.getElem?_cons_zero]; rfl
      case hy19b => exact Or.inl ⟨by rfl, by (intro w hSw; (try dsimp only at hSw); go_simp) <;> with_reducible rfl⟩
      try simp only [Act.put, List.setIfInBounds_toArray, List.set_cons_zero, List.set_cons_succ]
      refine wpAnyH_ready (rs := [17]) (by kernel_rfl) (by simp) ?_
      refine AllReadyH.cons (o := ?o17b) ?hi17b (fun K hK => ?st17b) AllReadyH.nil
      case hi17b => simp only [List.getElem?_toArray, List.getElem?_cons_succ, List.getElem?_cons_zero]; rfl
      go_simp
      (go_at_call 16; refine (CHU _ _ (by omega)).mono ?_; rintro e w' ⟨he, hbl⟩; rw [Int.toNat_natCast, HMU.out] at he; subst he)
      refine hK.out _ _ ?_ (fun hHeld => ?_)
      · (try dsimp only); (first | assumption | exact And.intro (Two.alloc hHeld.1 _) (Two.alloc hHeld.2 _) | exact And.intro (Two.below hHeld.1 hbl) (Two.below hHeld.2 hbl))
      clear hK K
      try simp only [Act.put, List.setIfInBounds_toArray, List.set_cons_zero, List.set_cons_succ]
      refine wpAnyH_ready (rs := [20]) (by kernel_rfl) (by simp) ?_
      refine AllReadyH.cons (o := ?o20b) ?hi20b (fun K hK => ?st20b) AllReadyH.nil
      case hi20b => simp only [List.getElem?_toArray, List.getElem?_cons_succ, List.getElem?_cons_zero]; rfl
      go_simp
      (go_at_call 16; refine (CHS _ _ (by omega)).mono ?_; rintro e w' ⟨he, hbl⟩; rw [Int.toNat_natCast, HM.out] at he; subst he)
      refine hK.out _ _ ?_ (fun hHeld => ?_)
      · (try dsimp only); (first | assumption | exact And.intro (Two.alloc hHeld.1 _) (Two.alloc hHeld.2 _) | exact And.intro (Two.below hHeld.1 hbl) (Two.below hHeld.2 hbl))
      clear hK K
      try simp only [Act.put, List.setIfInBounds_toArray, List.set_cons_zero, List.set_cons_succ]
      refine wpAnyH_take (i := 21) (oi := ?o21b) (v := ?v21b) ?hi21b (by kernel_rfl) (by kernel_rfl) (by kernel_rfl) (fun _ _ _ h => h) ?hy21b (by assumption) ?r21b
      case hi21b => simp only [List.getElem?_toArray, List.getElem?_cons_succ, List.getElem?_cons_zero]; rfl
      case hy21b => exact Or.inl ⟨by rfl, by (intro w hSw; (try dsimp only at hSw); go_simp) <;> with_reducible rfl⟩
      try simp only [Act.put, List.setIfInBounds_toArray, List.set_cons_zero, List.set_cons_succ]
      refine wpAnyH_take (i := 22) (oi := ?o22b) (v := ?v22b) ?hi22b (by kernel_rfl) (by kernel_rfl) (by kernel_rfl) (fun _ _ _ h => h) ?hy22b (by assumption) ?r22b
      case hi22b => simp only [List.getElem?_toArray, List.getElem?_cons_succ, List.getElem?_cons_zero]; rfl
      case hy22b => exact Or.inl ⟨by rfl, by (intro w hSw; (try dsimp only at hSw); go_simp) <;> with_reducible rfl⟩
      try simp only [Act.put, List.setIfInBounds_toArray, List.set_cons_zero, List.set_cons_succ]
      refine wpAnyH_take (i := 23) (oi := ?o23b) (v := ?v23b) ?hi23b (by kernel_rfl) (by kernel_rfl) (by kernel_rfl) (fun _ _ _ h => h) ?hy23b (by assumption) ?r23b
      case hi23b => simp only [List.getElem?_toArray, List.getElem?_cons_succ, List.getElem?_cons_zero]; rfl
      case hy23b => exact Or.inl ⟨by rfl, by (intro w hSw; (try dsimp only at hSw); go_simp) <;> with_reducible rfl⟩
      try simp only [Act.put, List.setIfInBounds_toArray, List.set_cons_zero, List.set_cons_succ]
      refine wpAnyH_ready (rs := [24]) (by kernel_rfl) (by simp) ?_
      refine AllReadyH.cons (o := ?o24b) ?hi24b (fun K hK => ?st24b) AllReadyH.nil
      case hi24b => simp only [List.getElem?_toArray, List.getElem?_cons_succ, List.getElem?_cons_zero]; rfl
      go_simp
      (go_at_call 16; refine (CHT _ _ (by omega)).mono ?_; rintro e w' ⟨he, hbl⟩; rw [Int.toNat_natCast] at he; subst he)
      refine hK.out _ _ ?_ (fun hHeld => ?_)
      · (try dsimp only); (first | assumption | exact And.intro (Two.alloc hHeld.1 _) (Two.alloc hHeld.2 _) | exact And.intro (Two.below hHeld.1 hbl) (Two.below hHeld.2 hbl))
      clear hK K
      try simp only [Act.put, List.setIfInBounds_toArray, List.set_cons_zero, List.set_cons_succ]
      refine wpAnyH_take (i := 25) (oi := ?o25b) (v := ?v25b) ?hi25b (by kernel_rfl) (by kernel_rfl) (by kernel_rfl) (fun _ _ _ h => h) ?hy25b (by assumption) ?r25b
      case hi25b => simp only [List.getElem?_toArray, List.getElem?_cons_succ, List.getElem?_cons_zero]; rfl
      case hy25b => exact Or.inl ⟨by rfl, by (intro w hSw; (try dsimp only at hSw); go_simp) <;> with_reducible rfl⟩
      try simp only [Act.put, List.setIfInBounds_toArray, List.set_cons_zero, List.set_cons_succ]
      refine wpAnyH_take (i := 26) (oi := ?o26b) (v := ?v26b) ?hi26b (by kernel_rfl) (by kernel_rfl) (by kernel_rfl) (fun _ _ _ h => h) ?hy26b (by assumption) ?r26b
      case hi26b => simp only [List.getElem?_toArray, List.getElem?_cons_succ, List.getElem?_cons_zero]; rfl
      case hy26b => exact Or.inl ⟨by rfl, by (intro w hSw; (try dsimp only at hSw); go_simp) <;> with_reducible rfl⟩
      try simp only [Act.put, List.setIfInBounds_toArray, List.set_cons_zero, List.set_cons_succ]
      refine wpAnyH_take (i := 27) (oi := ?o27b) (v := ?v27b) ?hi27b (by kernel_rfl) (by kernel_rfl) (by kernel_rfl) (fun _ _ _ h => h) ?hy27b (by assumption) ?r27b
      case hi27b => simp only [List.getElem?_toArray, List.getElem?_cons_succ, List.getElem?_cons_zero]; rfl
      case hy27b => exact Or.inl ⟨by rfl, by (intro w hSw; (try dsimp only at hSw); go_simp) <;> with_reducible rfl⟩
      try simp only [Act.put, List.setIfInBounds_toArray, List.set_cons_zero, List.set_cons_succ]
      refine wpAnyH_take (i := 28) (oi := ?o28b) (v := ?v28b) ?hi28b (by kernel_rfl) (by kernel_rfl) (by kernel_rfl) (fun _ _ _ h => h) ?hy28b (by assumption) ?r28b
      case hi28b => simp only [List.getElem?_toArray, List.getElem?_cons_succ, List.getElem?_cons_zero]; rfl
      case hy28b => exact Or.inl ⟨by rfl, by (intro w hSw; (try dsimp only at hSw); go_simp) <;> with_reducible rfl⟩
      try simp only [Act.put, List.setIfInBounds_toArray, List.set_cons_zero, List.set_cons_succ]
      refine wpAnyH_take (i := 29) (oi := ?o29b) (v := ?v29b) ?hi29b (by kernel_rfl) (by kernel_rfl) (by kernel_rfl) (fun _ _ _ h => h) ?hy29b (by assumption) ?r29b
      case hi29b => simp only [List.getElem?_toArray, List.getElem?_cons_succ, List.getElem?_cons_zero]; rfl
      case hy29b => exact Or.inl ⟨by rfl, by (intro w hSw; (try dsimp only at hSw); go_simp) <;> with_reducible rfl⟩
      try simp only [Act.put, List.setIfInBounds_toArray, List.set_cons_zero, List.set_cons_succ]
      refine wpAnyH_take (i := 31) (oi := ?o31b) (v := ?v31b) ?hi31b (by kernel_rfl) (by kernel_rfl) (by kernel_rfl) (fun _ _ _ h => h) ?hy31b (by assumption) ?r31b
      case hi31b => simp only [List.getElem?_toArray, List.getElem?_cons_succ, List.getElem?_cons_zero]; rfl
      case hy31b => exact Or.inl ⟨by rfl, by (intro w hSw; (try dsimp only at hSw); go_simp) <;> with_reducible rfl⟩
      try simp only [Act.put, List.setIfInBounds_toArray, List.set_cons_zero, List.set_cons_succ]
      refine wpAnyH_take (i := 33) (oi := ?o33b) (v := ?v33b) ?hi33b (by kernel_rfl) (by kernel_rfl) (by kernel_rfl) (fun _ _ _ h => h) ?hy33b (by assumption) ?r33b
      case hi33b => simp only [List.getElem?_toArray, List.getElem?_cons_succ, List.getElem?_cons_zero]; rfl
      case hy33b => exact Or.inl ⟨by rfl, by (intro w hSw; (try dsimp only at hSw); go_simp) <;> with_reducible rfl⟩
      try simp only [Act.put, List.setIfInBounds_toArray, List.set_cons_zero, List.set_cons_succ]
      refine wpAnyH_take (i := 36) (oi := ?o36b) (v := ?v36b) ?hi36b (by kernel_rfl) (by kernel_rfl) (by kernel_rfl) (fun _ _ _ h => h) ?hy36b (by assumption) ?r36b
      case hi36b => simp only [List.getElem?_toArray, List.getElem?_cons_succ, List.getElem?_cons_zero]; rfl
      case hy36b => exact Or.inl ⟨by rfl, by (intro w hSw; (try dsimp only at hSw); go_simp) <;> with_reducible rfl⟩
      try simp only [Act.put, List.setIfInBounds_toArray, List.set_cons_zero, List.set_cons_succ]
      refine wpAnyH_ready (rs := [30]) (by kernel_rfl) (by simp) ?_
      refine AllReadyH.cons (o := ?o30b) ?hi30b (fun K hK => ?st30b) AllReadyH.nil
      case hi30b => simp only [List.getElem?_toArray, List.getElem?_cons_succ, List.getElem?_cons_zero]; rfl
      go_simp
      (go_at_call 21; refine (CSU _).mono ?_; rintro e w' ⟨rfl, hbl⟩)
      refine hK.out _ _ ?_ (fun hHeld => ?_)
      · (try dsimp only); (first | assumption | exact And.intro (Two.alloc hHeld.1 _) (Two.alloc hHeld.2 _) | exact And.intro (Two.below hHeld.1 hbl) (Two.below hHeld.2 hbl))
      clear hK K
      try simp only [Act.put, List.setIfInBounds_toArray, List.set_cons_zero, List.set_cons_succ]
      refine wpAnyH_ready (rs := [32]) (by kernel_rfl) (by simp) ?_
      refine AllReadyH.cons (o := ?o32b) ?hi32b (fun K hK => ?st32b) AllReadyH.nil
      case hi32b => simp only [List.getElem?_toArray, List.getElem?_cons_succ, List.getElem?_cons_zero]; rfl
      go_simp
      (go_at_call 21; refine (CSS _).mono ?_; rintro e w' ⟨rfl, hbl⟩)
      refine hK.out _ _ ?_ (fun hHeld => ?_)
      · (try dsimp only); (first | assumption | exact And.intro (Two.alloc hHeld.1 _) (Two.alloc hHeld.2 _) | exact And.intro (Two.below hHeld.1 hbl) (Two.below hHeld.2 hbl))
      clear hK K
      try simp only [Act.put, List.setIfInBounds_toArray, List.set_cons_zero, List.set_cons_succ]
      refine wpAnyH_ready (rs := [34]) (by kernel_rfl) (by simp) ?_
      refine AllReadyH.cons (o := ?o34b) ?hi34b (fun K hK => ?st34b) AllReadyH.nil
      case hi34b => simp only [List.getElem?_toArray, List.getElem?_cons_succ, List.getElem?_cons_zero]; rfl
      go_simp
      (go_at_call 21; refine (CST _).mono ?_; rintro e w' ⟨rfl, hbl⟩)
      refine hK.out _ _ ?_ (fun hHeld => ?_)
      · (try dsimp only); (first | assumption | exact And.intro (Two.alloc hHeld.1 _) (Two.alloc hHeld.2 _) | exact And.intro (Two.below hHeld.1 hbl) (Two.below hHeld.2 hbl))
      clear hK K
      try simp only [Act.put, List.setIfInBounds_toArray, List.set_cons_zero, List.set_cons_succ]
      refine wpAnyH_take (i := 35) (oi := ?o35b) (v := ?v35b) ?hi35b (by kernel_rfl) (by kernel_rfl) (by kernel_rfl) (fun _ _ _ h => h) ?hy35b (by assumption) ?r35b
      case hi35b => simp only [List.getElem?_toArray, List.getElem?_cons_succ, List.getElem?_cons_zero]; rfl
      case hy35b => exact Or.inl ⟨by rfl, by (intro w hSw; (try dsimp only at hSw); go_simp) <;> with_reducible rfl⟩
      try simp only [Act.put, List.setIfInBounds_toArray, List.set_cons_zero, List.set_cons_succ]
      refine wpAnyH_ready (rs := [37]) (by kernel_rfl) (by simp) ?_
      refine AllReadyH.cons (o := ?o37b) ?hi37b (fun K hK => ?st37b) AllReadyH.nil
      case hi37b => simp only [List.getElem?_toArray, List.getElem?_cons_succ, List.getElem?_cons_zero]; rfl
      go_simp
      (go_at_call 21; refine (CSV _).mono ?_; rintro e w' ⟨rfl, hbl⟩)
      refine hK.out _ _ ?_ (fun hHeld => ?_)
      · (try dsimp only); (first | assumption | exact And.intro (Two.alloc hHeld.1 _) (Two.alloc hHeld.2 _) | exact And.intro (Two.below hHeld.1 hbl) (Two.below hHeld.2 hbl))
      clear hK K
      try simp only [Act.put, List.setIfInBounds_toArray, List.set_cons_zero, List.set_cons_succ]
      refine wpAnyH_take (i := 38) (oi := ?o38b) (v := ?v38b) ?hi38b (by kernel_rfl) (by kernel_rfl) (by kernel_rfl) (fun _ _ _ h => h) ?hy38b (by assumption) ?r38b
      case hi38b => simp only [List.getElem?_toArray, List.getElem?_cons_succ, List.getElem?_cons_zero]; rfl
      case hy38b => exact Or.inl ⟨by rfl, by (intro w hSw; (try dsimp only at hSw); go_simp) <;> with_reducible rfl⟩
      try simp only [Act.put, List.setIfInBounds_toArray, List.set_cons_zero, List.set_cons_succ]
      refine wpAnyH_take (i := 39) (oi := ?o39b) (v := ?v39b) ?hi39b (by kernel_rfl) (by kernel_rfl) (by kernel_rfl) (fun _ _ _ h => h) ?hy39b (by assumption) ?r39b
      case hi39b => simp only [List.getElem?_toArray, List.getElem?_cons_succ, List.getElem?_cons_zero]; rfl
      case hy39b => exact Or.inl ⟨by rfl, by (intro w hSw; (try dsimp only at hSw); go_simp) <;> with_reducible rfl⟩
      try simp only [Act.put, List.setIfInBounds_toArray, List.set_cons_zero, List.set_cons_succ]
      refine wpAnyH_take (i := 40) (oi := ?o40b) (v := ?v40b) ?hi40b (by kernel_rfl) (by kernel_rfl) (by kernel_rfl) (fun _ _ _ h => h) ?hy40b (by assumption) ?r40b
      case hi40b => simp only [List.getElem?_toArray, List.getElem?_cons_succ, List.getElem?_cons_zero]; rfl
      case hy40b => exact Or.inl ⟨by rfl, by (intro w hSw; (try dsimp only at hSw); go_simp) <;> with_reducible rfl⟩
      try simp only [Act.put, List.setIfInBounds_toArray, List.set_cons_zero, List.set_cons_succ]
      refine wpAnyH_take (i := 41) (oi := ?o41b) (v := ?v41b) ?hi41b (by kernel_rfl) (by kernel_rfl) (by kernel_rfl) (fun _ _ _ h => h) ?hy41b (by assumption) ?r41b
      case hi41b => simp only [List.getElem?_toArray, List.getElem?_cons_succ, List.getElem?_cons_zero]; rfl
      case hy41b => exact Or.inl ⟨by rfl, by (intro w hSw; (try dsimp only at hSw); go_simp) <;> with_reducible rfl⟩
      try simp only [Act.put, List.setIfInBounds_toArray, List.set_cons_zero, List.set_cons_succ]
      refine wpAnyH_ready (rs := [42]) (by kernel_rfl) (by simp) ?_
      refine AllReadyH.cons (o := ?o42b) ?hi42b (fun K hK => ?st42b) AllReadyH.nil
      case hi42b => simp only [List.getElem?_toArray, List.getElem?_cons_succ, List.getElem?_cons_zero]; rfl
      go_simp
      (go_at_call 10; refine (shown_any _ (Two.pos hHeld.1 hg) (Two.tab hHeld.1 hg HT.out)).mono ?_; rintro e w' ⟨rfl, hbl⟩)
      refine hK.out _ _ ?_ (fun hHeld => ?_)
      · (try dsimp only); (first | assumption | exact And.intro (Two.alloc hHeld.1 _) (Two.alloc hHeld.2 _) | exact And.intro (Two.below hHeld.1 hbl) (Two.below hHeld.2 hbl))
      clear hK K
      try simp only [Act.put, List.setIfInBounds_toArray, List.set_cons_zero, List.set_cons_succ]
      refine wpAnyH_take (i := 43) (oi := ?o43b) (v := ?v43b) ?hi43b (by kernel_rfl) (by kernel_rfl) (by kernel_rfl) (fun _ _ _ h => h) ?hy43b (by assumption) ?r43b
      case hi43b => simp only [List.getElem?_toArray, List.getElem?_cons_succ, List.getElem?_cons_zero]; rfl
      case hy43b => exact Or.inl ⟨by rfl, by (intro w hSw; (try dsimp only at hSw); go_simp) <;> with_reducible rfl⟩
      try simp only [Act.put, List.setIfInBounds_toArray, List.set_cons_zero, List.set_cons_succ]
      refine wpAnyH_take (i := 44) (oi := ?o44b) (v := ?v44b) ?hi44b (by kernel_rfl) (by kernel_rfl) (by kernel_rfl) (fun _ _ _ h => h) ?hy44b (by assumption) ?r44b
      case hi44b => simp only [List.getElem?_toArray, List.getElem?_cons_succ, List.getElem?_cons_zero]; rfl
      case hy44b => exact Or.inl ⟨by rfl, by (intro w hSw; (try dsimp only at hSw); go_simp) <;> with_reducible rfl⟩
      try simp only [Act.put, List.setIfInBounds_toArray, List.set_cons_zero, List.set_cons_succ]
      refine wpAnyH_done (by kernel_rfl) ?_ _
      refine NoPanic.normal ?_
      refine HK.out _ _ ?_
      go_wp2
      go_ret
      exact ⟨rfl, Two.last hHeld.1⟩
  have CNS := fun W => not_any s W hs
  have CNT := fun W => not_any t W ht
  have CO2 := fun bk W h1 h2 => or_any [notW s, notW t] bk W (wf_two hns hnt) (by simp) h1 h2
  have CNO := fun W => not_any (orL [notW s, notW t]) W ho
  rw [show notW (orL [notW s, notW t]) = bothW s t from rfl] at CNO
  simp only [HSS.out, HST.out, HNS.out, HNT.out, HOO.out, HSV.out] at CNS CNT CO2 CNO
  have hl1 := H2.out.2.2.1
  have hl2 := H2.out.2.2.2.1
  have H23 := Lib.hid (Two.drew (show Two w.heap.size (w.heap.size + 1) s t w3 w3 from ⟨H2.out.1, H2.out.2.1, hl1, hl2, Below.refl _ _⟩))
  refine wp_region_noPanic ?_
  refine wp_region_held_drew (S := (fun w' => ((w'.cell? ⟨w.heap.size, 0, none⟩ = some (.int .u64 (word (s) 0 : Int)) ∧ w'.cell? ⟨w.heap.size, 1, none⟩ = some (.int .u64 (word (s) 1 : Int)) ∧ w'.cell? ⟨w.heap.size, 2, none⟩ = some (.int .u64 (word (s) 2 : Int)) ∧ w'.cell? ⟨w.heap.size, 3, none⟩ = some (.int .u64 (word (s) 3 : Int))) ∧ (w'.cell? ⟨(w.heap.size + 1), 0, none⟩ = some (.int .u64 (word (t) 0 : Int)) ∧ w'.cell? ⟨(w.heap.size + 1), 1, none⟩ = some (.int .u64 (word (t) 1 : Int)) ∧ w'.cell? ⟨(w.heap.size + 1), 2, none⟩ = some (.int .u64 (word (t) 2 : Int)) ∧ w'.cell? ⟨(w.heap.size + 1), 3, none⟩ = some (.int .u64 (word (t) 3 : Int))) ∧ w.heap.size < w'.heap.size ∧ (w.heap.size + 1) < w'.heap.size ∧ Below w3.heap.size w3 w'))) (by kernel_rfl) ?_ (fun hHeld => ?_)
  · (try dsimp only); exact H23.out
  clear H23
  generalize w3.drew = w4 at *
  refine wpAnyH_take (i := 0) (oi := ?o0c) (v := ?v0c) ?hi0c (by kernel_rfl) (by kernel_rfl) (by kernel_rfl) (fun _ _ _ h => h) ?hy0c (by assumption) ?r0c
  case hi0c => simp only [List.getElem?_toArray, List.getElem?_cons_succ, List.getElem?_cons_zero]; rfl
  case hy0c => exact Or.inl ⟨by rfl, by (intro w hSw; (try dsimp only at hSw); go_simp) <;> with_reducible rfl⟩
  try simp only [Act.put, List.setIfInBounds_toArray, List.set_cons_zero, List.set_cons_succ]
  refine wpAnyH_take (i := 2) (oi := ?o2c) (v := ?v2c) ?hi2c (by kernel_rfl) (by kernel_rfl) (by kernel_rfl) (fun _ _ _ h => h) ?hy2c (by assumption) ?r2c
  case hi2c => simp only [List.getElem?_toArray, List.getElem?_cons_succ, List.getElem?_cons_zero]; rfl
  case hy2c => exact Or.inl ⟨by rfl, by (intro w hSw; (try dsimp only at hSw); go_simp) <;> with_reducible rfl⟩
  try simp only [Act.put, List.setIfInBounds_toArray, List.set_cons_zero, List.set_cons_succ]
  refine wpAnyH_ready (rs := [1, 7]) (by kernel_rfl) (by simp) ?_
  refine AllReadyH.cons (o := ?o1_1) ?hi1_1 (fun K hK => ?st1_1) (AllReadyH.cons (o := ?o7_1) ?hi7_1 (fun K hK => ?st7_1) AllReadyH.nil)
  case hi1_1 => simp only [List.getElem?_toArray, List.getElem?_cons_succ, List.getElem?_cons_zero]; rfl
  case hi7_1 => simp only [List.getElem?_toArray, List.getElem?_cons_succ, List.getElem?_cons_zero]; rfl
  case st1_1 =>
    go_simp
    (go_at_call 24; refine (CNS _).mono ?_; rintro e v2 ⟨rfl, hbl⟩)
    have hPrev := hHeld
    refine hK.out _ _ ?_ (fun hHeld => ?_)
    · (try dsimp only); (first | assumption | exact Two.alloc hHeld _ | exact Two.below hHeld hbl)
    clear hK K
    try simp only [Act.put, List.setIfInBounds_toArray, List.set_cons_zero, List.set_cons_succ]
    clear hPrev
    refine wpAnyH_ready (rs := [3, 7]) (by kernel_rfl) (by simp) ?_
    refine AllReadyH.cons (o := ?o3_3) ?hi3_3 (fun K hK => ?st3_3) (AllReadyH.cons (o := ?o7_3) ?hi7_3 (fun K hK => ?st7_3) AllReadyH.nil)
    case hi3_3 => simp only [List.getElem?_toArray, List.getElem?_cons_succ, List.getElem?_cons_zero]; rfl
    case hi7_3 => simp only [List.getElem?_toArray, List.getElem?_cons_succ, List.getElem?_cons_zero]; rfl
    case st3_3 =>
      go_simp
      (go_at_call 24; refine (CNT _).mono ?_; rintro e v4 ⟨rfl, hbl⟩)
      have hPrev := hHeld
      refine hK.out _ _ ?_ (fun hHeld => ?_)
      · (try dsimp only); (first | assumption | exact Two.alloc hHeld _ | exact Two.below hHeld hbl)
      clear hK K
      try simp only [Act.put, List.setIfInBounds_toArray, List.set_cons_zero, List.set_cons_succ]
      clear hPrev
      refine wpAnyH_ready (rs := [4, 7]) (by kernel_rfl) (by simp) ?_
      refine AllReadyH.cons (o := ?o4_5) ?hi4_5 (fun K hK => ?st4_5) (AllReadyH.cons (o := ?o7_5) ?hi7_5 (fun K hK => ?st7_5) AllReadyH.nil)
      case hi4_5 => simp only [List.getElem?_toArray, List.getElem?_cons_succ, List.getElem?_cons_zero]; rfl
      case hi7_5 => simp only [List.getElem?_toArray, List.getElem?_cons_succ, List.getElem?_cons_zero]; rfl
      case st4_5 =>
        go_simp
        have hPrev := hHeld
        refine hK.out _ _ ?_ (fun hHeld => ?_)
        · (try dsimp only); (first | assumption | exact Two.alloc hHeld _ | exact Two.below hHeld hbl)
        clear hK K
        try simp only [Act.put, List.setIfInBounds_toArray, List.set_cons_zero, List.set_cons_succ]
        have HL := Lib.hid (raw_of hHeld)
        clear hPrev
        generalize v4.alloc (Obj.cells #[Value.int IntKind.u64 ↑(word (notW s) 0), Value.int IntKind.u64 ↑(word (notW s) 1), Value.int IntKind.u64 ↑(word (notW s) 2), Value.int IntKind.u64 ↑(word (notW s) 3), Value.int IntKind.u64 ↑(word (notW t) 0), Value.int IntKind.u64 ↑(word (notW t) 1), Value.int IntKind.u64 ↑(word (notW t) 2), Value.int IntKind.u64 ↑(word (notW t) 3)] 25) = v6 at *
        refine wpAnyH_ready (rs := [5, 7]) (by kernel_rfl) (by simp) ?_
        refine AllReadyH.cons (o := ?o5_7) ?hi5_7 (fun K hK => ?st5_7) (AllReadyH.cons (o := ?o7_7) ?hi7_7 (fun K hK => ?st7_7) AllReadyH.nil)
        case hi5_7 => simp only [List.getElem?_toArray, List.getElem?_cons_succ, List.getElem?_cons_zero]; rfl
        case hi7_7 => simp only [List.getElem?_toArray, List.getElem?_cons_succ, List.getElem?_cons_zero]; rfl
        case st5_7 =>
          go_simp
          (go_at_call 15; refine (CO2 _ _ (Array.getElem?_eq_some_iff.1 HL.out).1 (lsL HL.out rfl)).mono ?_; rintro e v8 ⟨rfl, hbl⟩)
          have hPrev := hHeld
          refine hK.out _ _ ?_ (fun hHeld => ?_)
          · (try dsimp only); (first | assumption | exact Two.alloc hHeld _ | exact Two.below hHeld hbl)
          clear hK K
          try simp only [Act.put, List.setIfInBounds_toArray, List.set_cons_zero, List.set_cons_succ]
          clear hPrev
          refine wpAnyH_ready (rs := [6, 7]) (by kernel_rfl) (by simp) ?_
          refine AllReadyH.cons (o := ?o6_9) ?hi6_9 (fun K hK => ?st6_9) (AllReadyH.cons (o := ?o7_9) ?hi7_9 (fun K hK => ?st7_9) AllReadyH.nil)
          case hi6_9 => simp only [List.getElem?_toArray, List.getElem?_cons_succ, List.getElem?_cons_zero]; rfl
          case hi7_9 => simp only [List.getElem?_toArray, List.getElem?_cons_succ, List.getElem?_cons_zero]; rfl
          case st6_9 =>
            go_simp
            (go_at_call 24; refine (CNO _).mono ?_; rintro e v10 ⟨rfl, hbl⟩)
            have hPrev := hHeld
            refine hK.out _ _ ?_ (fun hHeld => ?_)
            · (try dsimp only); (first | assumption | exact Two.alloc hHeld _ | exact Two.below hHeld hbl)
            clear hK K
            try simp only [Act.put, List.setIfInBounds_toArray, List.set_cons_zero, List.set_cons_succ]
            clear hPrev
            refine wpAnyH_ready (rs := [7]) (by kernel_rfl) (by simp) ?_
            refine AllReadyH.cons (o := ?o7_11) ?hi7_11 (fun K hK => ?st7_11) AllReadyH.nil
            case hi7_11 => simp only [List.getElem?_toArray, List.getElem?_cons_succ, List.getElem?_cons_zero]; rfl
            case st7_11 =>
              go_simp
              have hPrev := hHeld
              refine hK.out _ _ ?_ (fun hHeld => ?_)
              · (try dsimp only); (first | assumption | exact Two.alloc hHeld _ | exact Two.below hHeld hbl)
              clear hK K
              try simp only [Act.put, List.setIfInBounds_toArray, List.set_cons_zero, List.set_cons_succ]
              have HZ := Lib.hid (And.intro (raw_of hHeld) (Two.last hPrev).size)
              clear hPrev
              generalize v10.alloc (Obj.cells #[Value.int IntKind.u64 0, Value.int IntKind.u64 0, Value.int IntKind.u64 0, Value.int IntKind.u64 0] 25) = v12 at *
              have hz : SB _ _ zeroW := HZ.out.1
              have z0 := hz.cell wf_zero (i := 0) (by omega)
              have z1 := hz.cell wf_zero (i := 1) (by omega)
              have z2 := hz.cell wf_zero (i := 2) (by omega)
              have z3 := hz.cell wf_zero (i := 3) (by omega)
              have f0 := Lib.frozen_of_heap hz 0
              have f1 := Lib.frozen_of_heap hz 1
              have f2 := Lib.frozen_of_heap hz 2
              have f3 := Lib.frozen_of_heap hz 3
              refine wpAnyH_ready (rs := [8]) (by kernel_rfl) (by simp) ?_
              refine AllReadyH.cons (o := ?oz13) ?hiz13 (fun K hK => ?stz13) AllReadyH.nil
              case hiz13 => simp only [List.getElem?_toArray, List.getElem?_cons_succ, List.getElem?_cons_zero]; rfl
              go_simp
              refine hK.out _ _ ?_ (fun hHeld => ?_)
              · (try dsimp only); exact Two.put hHeld hl1 hl2 HZ.out.2 (bothW s t)
              clear hK K
              try simp only [Act.put, List.setIfInBounds_toArray, List.set_cons_zero, List.set_cons_succ]
              refine wpAnyH_done (by kernel_rfl) ?_ _
              refine NoPanic.normal ?_
              have hzv := SB.put hz wf_zero hv
              exact HREST _ _ _ _ _ _ _ _ _ _ _ _ _ (Two.rise H2.out hHeld) (Two.rise2 HU.out (Two.last hHeld) hzv hv)
          case st7_9 =>
            go_simp
            have hPrev := hHeld
            refine hK.out _ _ ?_ (fun hHeld => ?_)
            · (try dsimp only); (first | assumption | exact Two.alloc hHeld _ | exact Two.below hHeld hbl)
            clear hK K
            try simp only [Act.put, List.setIfInBounds_toArray, List.set_cons_zero, List.set_cons_succ]
            have HZ := Lib.hid (And.intro (raw_of hHeld) (Two.last hPrev).size)
            clear hPrev
            generalize v8.alloc (Obj.cells #[Value.int IntKind.u64 0, Value.int IntKind.u64 0, Value.int IntKind.u64 0, Value.int IntKind.u64 0] 25) = v14 at *
            refine wpAnyH_ready (rs := [6]) (by kernel_rfl) (by simp) ?_
            refine AllReadyH.cons (o := ?o6_15) ?hi6_15 (fun K hK => ?st6_15) AllReadyH.nil
            case hi6_15 => simp only [List.getElem?_toArray, List.getElem?_cons_succ, List.getElem?_cons_zero]; rfl
            case st6_15 =>
              go_simp
              (go_at_call 24; refine (CNO _).mono ?_; rintro e v16 ⟨rfl, hbl⟩)
              have hPrev := hHeld
              refine hK.out _ _ ?_ (fun hHeld => ?_)
              · (try dsimp only); (first | assumption | exact Two.alloc hHeld _ | exact Two.below hHeld hbl)
              clear hK K
              try simp only [Act.put, List.setIfInBounds_toArray, List.set_cons_zero, List.set_cons_succ]
              have HZ := Lib.hid (And.intro (raw_below HZ.out.1 hbl) HZ.out.2)
              clear hPrev
              have hz : SB _ _ zeroW := HZ.out.1
              have z0 := hz.cell wf_zero (i := 0) (by omega)
              have z1 := hz.cell wf_zero (i := 1) (by omega)
              have z2 := hz.cell wf_zero (i := 2) (by omega)
              have z3 := hz.cell wf_zero (i := 3) (by omega)
              have f0 := Lib.frozen_of_heap hz 0
              have f1 := Lib.frozen_of_heap hz 1
              have f2 := Lib.frozen_of_heap hz 2
              have f3 := Lib.frozen_of_heap hz 3
              refine wpAnyH_ready (rs := [8]) (by kernel_rfl) (by simp) ?_
              refine AllReadyH.cons (o := ?oz17) ?hiz17 (fun K hK => ?stz17) AllReadyH.nil
              case hiz17 => simp only [List.getElem?_toArray, List.getElem?_cons_succ, List.getElem?_cons_zero]; rfl
              go_simp
              refine hK.out _ _ ?_ (fun hHeld => ?_)
              · (try dsimp only); exact Two.put hHeld hl1 hl2 HZ.out.2 (bothW s t)
              clear hK K
              try simp only [Act.put, List.setIfInBounds_toArray, List.set_cons_zero, List.set_cons_succ]
              refine wpAnyH_done (by kernel_rfl) ?_ _
              refine NoPanic.normal ?_
              have hzv := SB.put hz wf_zero hv
              exact HREST _ _ _ _ _ _ _ _ _ _ _ _ _ (Two.rise H2.out hHeld) (Two.rise2 HU.out (Two.last hHeld) hzv hv)
        case st7_7 =>
          go_simp
          have hPrev := hHeld
          refine hK.out _ _ ?_ (fun hHeld => ?_)
          · (try dsimp only); (first | assumption | exact Two.alloc hHeld _ | exact Two.below hHeld hbl)
          clear hK K
          try simp only [Act.put, List.setIfInBounds_toArray, List.set_cons_zero, List.set_cons_succ]
          have HZ := Lib.hid (And.intro (raw_of hHeld) (Two.last hPrev).size)
          have HL := Lib.hid (raw_alloc HL.out (Obj.cells #[Value.int IntKind.u64 0, Value.int IntKind.u64 0, Value.int IntKind.u64 0, Value.int IntKind.u64 0] 25))
          clear hPrev
          generalize v6.alloc (Obj.cells #[Value.int IntKind.u64 0, Value.int IntKind.u64 0, Value.int IntKind.u64 0, Value.int IntKind.u64 0] 25) = v18 at *
          refine wpAnyH_ready (rs := [5]) (by kernel_rfl) (by simp) ?_
          refine AllReadyH.cons (o := ?o5_19) ?hi5_19 (fun K hK => ?st5_19) AllReadyH.nil
          case hi5_19 => simp only [List.getElem?_toArray, List.getElem?_cons_succ, List.getElem?_cons_zero]; rfl
          case st5_19 =>
            go_simp
            (go_at_call 15; refine (CO2 _ _ (Array.getElem?_eq_some_iff.1 HL.out).1 (lsL HL.out rfl)).mono ?_; rintro e v20 ⟨rfl, hbl⟩)
            have hPrev := hHeld
            refine hK.out _ _ ?_ (fun hHeld => ?_)
            · (try dsimp only); (first | assumption | exact Two.alloc hHeld _ | exact Two.below hHeld hbl)
            clear hK K
            try simp only [Act.put, List.setIfInBounds_toArray, List.set_cons_zero, List.set_cons_succ]
            have HZ := Lib.hid (And.intro (raw_below HZ.out.1 hbl) HZ.out.2)
            clear hPrev
            refine wpAnyH_ready (rs := [6]) (by kernel_rfl) (by simp) ?_
            refine AllReadyH.cons (o := ?o6_21) ?hi6_21 (fun K hK => ?st6_21) AllReadyH.nil
            case hi6_21 => simp only [List.getElem?_toArray, List.getElem?_cons_succ, List.getElem?_cons_zero]; rfl
            case st6_21 =>
              go_simp
              (go_at_call 24; refine (CNO _).mono ?_; rintro e v22 ⟨rfl, hbl⟩)
              have hPrev := hHeld
              refine hK.out _ _ ?_ (fun hHeld => ?_)
              · (try dsimp only); (first | assumption | exact Two.alloc hHeld _ | exact Two.below hHeld hbl)
              clear hK K
              try simp only [Act.put, List.setIfInBounds_toArray, List.set_cons_zero, List.set_cons_succ]
              have HZ := Lib.hid (And.intro (raw_below HZ.out.1 hbl) HZ.out.2)
              clear hPrev
              have hz : SB _ _ zeroW := HZ.out.1
              have z0 := hz.cell wf_zero (i := 0) (by omega)
              have z1 := hz.cell wf_zero (i := 1) (by omega)
              have z2 := hz.cell wf_zero (i := 2) (by omega)
              have z3 := hz.cell wf_zero (i := 3) (by omega)
              have f0 := Lib.frozen_of_heap hz 0
              have f1 := Lib.frozen_of_heap hz 1
              have f2 := Lib.frozen_of_heap hz 2
              have f3 := Lib.frozen_of_heap hz 3
              refine wpAnyH_ready (rs := [8]) (by kernel_rfl) (by simp) ?_
              refine AllReadyH.cons (o := ?oz23) ?hiz23 (fun K hK => ?stz23) AllReadyH.nil
              case hiz23 => simp only [List.getElem?_toArray, List.getElem?_cons_succ, List.getElem?_cons_zero]; rfl
              go_simp
              refine hK.out _ _ ?_ (fun hHeld => ?_)
              · (try dsimp only); exact Two.put hHeld hl1 hl2 HZ.out.2 (bothW s t)
              clear hK K
              try simp only [Act.put, List.setIfInBounds_toArray, List.set_cons_zero, List.set_cons_succ]
              refine wpAnyH_done (by kernel_rfl) ?_ _
              refine NoPanic.normal ?_
              have hzv := SB.put hz wf_zero hv
              exact HREST _ _ _ _ _ _ _ _ _ _ _ _ _ (Two.rise H2.out hHeld) (Two.rise2 HU.out (Two.last hHeld) hzv hv)
      case st7_5 =>
        go_simp
        have hPrev := hHeld
        refine hK.out _ _ ?_ (fun hHeld => ?_)
        · (try dsimp only); (first | assumption | exact Two.alloc hHeld _ | exact Two.below hHeld hbl)
        clear hK K
        try simp only [Act.put, List.setIfInBounds_toArray, List.set_cons_zero, List.set_cons_succ]
        have HZ := Lib.hid (And.intro (raw_of hHeld) (Two.last hPrev).size)
        clear hPrev
        generalize v4.alloc (Obj.cells #[Value.int IntKind.u64 0, Value.int IntKind.u64 0, Value.int IntKind.u64 0, Value.int IntKind.u64 0] 25) = v24 at *
        refine wpAnyH_ready (rs := [4]) (by kernel_rfl) (by simp) ?_
        refine AllReadyH.cons (o := ?o4_25) ?hi4_25 (fun K hK => ?st4_25) AllReadyH.nil
        case hi4_25 => simp only [List.getElem?_toArray, List.getElem?_cons_succ, List.getElem?_cons_zero]; rfl
        case st4_25 =>
          go_simp
          have hPrev := hHeld
          refine hK.out _ _ ?_ (fun hHeld => ?_)
          · (try dsimp only); (first | assumption | exact Two.alloc hHeld _ | exact Two.below hHeld hbl)
          clear hK K
          try simp only [Act.put, List.setIfInBounds_toArray, List.set_cons_zero, List.set_cons_succ]
          have HL := Lib.hid (raw_of hHeld)
          have HZ := Lib.hid (And.intro (raw_alloc HZ.out.1 (Obj.cells #[Value.int IntKind.u64 ↑(word (notW s) 0), Value.int IntKind.u64 ↑(word (notW s) 1), Value.int IntKind.u64 ↑(word (notW s) 2), Value.int IntKind.u64 ↑(word (notW s) 3), Value.int IntKind.u64 ↑(word (notW t) 0), Value.int IntKind.u64 ↑(word (notW t) 1), Value.int IntKind.u64 ↑(word (notW t) 2), Value.int IntKind.u64 ↑(word (notW t) 3)] 25)) HZ.out.2)
          clear hPrev
          generalize v24.alloc (Obj.cells #[Value.int IntKind.u64 ↑(word (notW s) 0), Value.int IntKind.u64 ↑(word (notW s) 1), Value.int IntKind.u64 ↑(word (notW s) 2), Value.int IntKind.u64 ↑(word (notW s) 3), Value.int IntKind.u64 ↑(word (notW t) 0), Value.int IntKind.u64 ↑(word (notW t) 1), Value.int IntKind.u64 ↑(word (notW t) 2), Value.int IntKind.u64 ↑(word (notW t) 3)] 25) = v26 at *
          refine wpAnyH_ready (rs := [5]) (by kernel_rfl) (by simp) ?_
          refine AllReadyH.cons (o := ?o5_27) ?hi5_27 (fun K hK => ?st5_27) AllReadyH.nil
          case hi5_27 => simp only [List.getElem?_toArray, List.getElem?_cons_succ, List.getElem?_cons_zero]; rfl
          case st5_27 =>
            go_simp
            (go_at_call 15; refine (CO2 _ _ (Array.getElem?_eq_some_iff.1 HL.out).1 (lsL HL.out rfl)).mono ?_; rintro e v28 ⟨rfl, hbl⟩)
            have hPrev := hHeld
            refine hK.out _ _ ?_ (fun hHeld => ?_)
            · (try dsimp only); (first | assumption | exact Two.alloc hHeld _ | exact Two.below hHeld hbl)
            clear hK K
            try simp only [Act.put, List.setIfInBounds_toArray, List.set_cons_zero, List.set_cons_succ]
            have HZ := Lib.hid (And.intro (raw_below HZ.out.1 hbl) HZ.out.2)
            clear hPrev
            refine wpAnyH_ready (rs := [6]) (by kernel_rfl) (by simp) ?_
            refine AllReadyH.cons (o := ?o6_29) ?hi6_29 (fun K hK => ?st6_29) AllReadyH.nil
            case hi6_29 => simp only [List.getElem?_toArray, List.getElem?_cons_succ, List.getElem?_cons_zero]; rfl
            case st6_29 =>
              go_simp
              (go_at_call 24; refine (CNO _).mono ?_; rintro e v30 ⟨rfl, hbl⟩)
              have hPrev := hHeld
              refine hK.out _ _ ?_ (fun hHeld => ?_)
              · (try dsimp only); (first | assumption | exact Two.alloc hHeld _ | exact Two.below hHeld hbl)
              clear hK K
              try simp only [Act.put, List.setIfInBounds_toArray, List.set_cons_zero, List.set_cons_succ]
              have HZ := Lib.hid (And.intro (raw_below HZ.out.1 hbl) HZ.out.2)
              clear hPrev
              have hz : SB _ _ zeroW := HZ.out.1
              have z0 := hz.cell wf_zero (i := 0) (by omega)
              have z1 := hz.cell wf_zero (i := 1) (by omega)
              have z2 := hz.cell wf_zero (i := 2) (by omega)
              have z3 := hz.cell wf_zero (i := 3) (by omega)
              have f0 := Lib.frozen_of_heap hz 0
              have f1 := Lib.frozen_of_heap hz 1
              have f2 := Lib.frozen_of_heap hz 2
              have f3 := Lib.frozen_of_heap hz 3
              refine wpAnyH_ready (rs := [8]) (by kernel_rfl) (by simp) ?_
              refine AllReadyH.cons (o := ?oz31) ?hiz31 (fun K hK => ?stz31) AllReadyH.nil
              case hiz31 => simp only [List.getElem?_toArray, List.getElem?_cons_succ, List.getElem?_cons_zero]; rfl
              go_simp
              refine hK.out _ _ ?_ (fun hHeld => ?_)
              · (try dsimp only); exact Two.put hHeld hl1 hl2 HZ.out.2 (bothW s t)
              clear hK K
              try simp only [Act.put, List.setIfInBounds_toArray, List.set_cons_zero, List.set_cons_succ]
              refine wpAnyH_done (by kernel_rfl) ?_ _
              refine NoPanic.normal ?_
              have hzv := SB.put hz wf_zero hv
              exact HREST _ _ _ _ _ _ _ _ _ _ _ _ _ (Two.rise H2.out hHeld) (Two.rise2 HU.out (Two.last hHeld) hzv hv)
    case st7_3 =>
      go_simp
      have hPrev := hHeld
      refine hK.out _ _ ?_ (fun hHeld => ?_)
      · (try dsimp only); (first | assumption | exact Two.alloc hHeld _ | exact Two.below hHeld hbl)
      clear hK K
      try simp only [Act.put, List.setIfInBounds_toArray, List.set_cons_zero, List.set_cons_succ]
      have HZ := Lib.hid (And.intro (raw_of hHeld) (Two.last hPrev).size)
      clear hPrev
      generalize v2.alloc (Obj.cells #[Value.int IntKind.u64 0, Value.int IntKind.u64 0, Value.int IntKind.u64 0, Value.int IntKind.u64 0] 25) = v32 at *
      refine wpAnyH_ready (rs := [3]) (by kernel_rfl) (by simp) ?_
      refine AllReadyH.cons (o := ?o3_33) ?hi3_33 (fun K hK => ?st3_33) AllReadyH.nil
      case hi3_33 => simp only [List.getElem?_toArray, List.getElem?_cons_succ, List.getElem?_cons_zero]; rfl
      case st3_33 =>
        go_simp
        (go_at_call 24; refine (CNT _).mono ?_; rintro e v34 ⟨rfl, hbl⟩)
        have hPrev := hHeld
        refine hK.out _ _ ?_ (fun hHeld => ?_)
        · (try dsimp only); (first | assumption | exact Two.alloc hHeld _ | exact Two.below hHeld hbl)
        clear hK K
        try simp only [Act.put, List.setIfInBounds_toArray, List.set_cons_zero, List.set_cons_succ]
        have HZ := Lib.hid (And.intro (raw_below HZ.out.1 hbl) HZ.out.2)
        clear hPrev
        refine wpAnyH_ready (rs := [4]) (by kernel_rfl) (by simp) ?_
        refine AllReadyH.cons (o := ?o4_35) ?hi4_35 (fun K hK => ?st4_35) AllReadyH.nil
        case hi4_35 => simp only [List.getElem?_toArray, List.getElem?_cons_succ, List.getElem?_cons_zero]; rfl
        case st4_35 =>
          go_simp
          have hPrev := hHeld
          refine hK.out _ _ ?_ (fun hHeld => ?_)
          · (try dsimp only); (first | assumption | exact Two.alloc hHeld _ | exact Two.below hHeld hbl)
          clear hK K
          try simp only [Act.put, List.setIfInBounds_toArray, List.set_cons_zero, List.set_cons_succ]
          have HL := Lib.hid (raw_of hHeld)
          have HZ := Lib.hid (And.intro (raw_alloc HZ.out.1 (Obj.cells #[Value.int IntKind.u64 ↑(word (notW s) 0), Value.int IntKind.u64 ↑(word (notW s) 1), Value.int IntKind.u64 ↑(word (notW s) 2), Value.int IntKind.u64 ↑(word (notW s) 3), Value.int IntKind.u64 ↑(word (notW t) 0), Value.int IntKind.u64 ↑(word (notW t) 1), Value.int IntKind.u64 ↑(word (notW t) 2), Value.int IntKind.u64 ↑(word (notW t) 3)] 25)) HZ.out.2)
          clear hPrev
          generalize v34.alloc (Obj.cells #[Value.int IntKind.u64 ↑(word (notW s) 0), Value.int IntKind.u64 ↑(word (notW s) 1), Value.int IntKind.u64 ↑(word (notW s) 2), Value.int IntKind.u64 ↑(word (notW s) 3), Value.int IntKind.u64 ↑(word (notW t) 0), Value.int IntKind.u64 ↑(word (notW t) 1), Value.int IntKind.u64 ↑(word (notW t) 2), Value.int IntKind.u64 ↑(word (notW t) 3)] 25) = v36 at *
          refine wpAnyH_ready (rs := [5]) (by kernel_rfl) (by simp) ?_
          refine AllReadyH.cons (o := ?o5_37) ?hi5_37 (fun K hK => ?st5_37) AllReadyH.nil
          case hi5_37 => simp only [List.getElem?_toArray, List.getElem?_cons_succ, List.getElem?_cons_zero]; rfl
          case st5_37 =>
            go_simp
            (go_at_call 15; refine (CO2 _ _ (Array.getElem?_eq_some_iff.1 HL.out).1 (lsL HL.out rfl)).mono ?_; rintro e v38 ⟨rfl, hbl⟩)
            have hPrev := hHeld
            refine hK.out _ _ ?_ (fun hHeld => ?_)
            · (try dsimp only); (first | assumption | exact Two.alloc hHeld _ | exact Two.below hHeld hbl)
            clear hK K
            try simp only [Act.put, List.setIfInBounds_toArray, List.set_cons_zero, List.set_cons_succ]
            have HZ := Lib.hid (And.intro (raw_below HZ.out.1 hbl) HZ.out.2)
            clear hPrev
            refine wpAnyH_ready (rs := [6]) (by kernel_rfl) (by simp) ?_
            refine AllReadyH.cons (o := ?o6_39) ?hi6_39 (fun K hK => ?st6_39) AllReadyH.nil
            case hi6_39 => simp only [List.getElem?_toArray, List.getElem?_cons_succ, List.getElem?_cons_zero]; rfl
            case st6_39 =>
              go_simp
              (go_at_call 24; refine (CNO _).mono ?_; rintro e v40 ⟨rfl, hbl⟩)
              have hPrev := hHeld
              refine hK.out _ _ ?_ (fun hHeld => ?_)
              · (try dsimp only); (first | assumption | exact Two.alloc hHeld _ | exact Two.below hHeld hbl)
              clear hK K
              try simp only [Act.put, List.setIfInBounds_toArray, List.set_cons_zero, List.set_cons_succ]
              have HZ := Lib.hid (And.intro (raw_below HZ.out.1 hbl) HZ.out.2)
              clear hPrev
              have hz : SB _ _ zeroW := HZ.out.1
              have z0 := hz.cell wf_zero (i := 0) (by omega)
              have z1 := hz.cell wf_zero (i := 1) (by omega)
              have z2 := hz.cell wf_zero (i := 2) (by omega)
              have z3 := hz.cell wf_zero (i := 3) (by omega)
              have f0 := Lib.frozen_of_heap hz 0
              have f1 := Lib.frozen_of_heap hz 1
              have f2 := Lib.frozen_of_heap hz 2
              have f3 := Lib.frozen_of_heap hz 3
              refine wpAnyH_ready (rs := [8]) (by kernel_rfl) (by simp) ?_
              refine AllReadyH.cons (o := ?oz41) ?hiz41 (fun K hK => ?stz41) AllReadyH.nil
              case hiz41 => simp only [List.getElem?_toArray, List.getElem?_cons_succ, List.getElem?_cons_zero]; rfl
              go_simp
              refine hK.out _ _ ?_ (fun hHeld => ?_)
              · (try dsimp only); exact Two.put hHeld hl1 hl2 HZ.out.2 (bothW s t)
              clear hK K
              try simp only [Act.put, List.setIfInBounds_toArray, List.set_cons_zero, List.set_cons_succ]
              refine wpAnyH_done (by kernel_rfl) ?_ _
              refine NoPanic.normal ?_
              have hzv := SB.put hz wf_zero hv
              exact HREST _ _ _ _ _ _ _ _ _ _ _ _ _ (Two.rise H2.out hHeld) (Two.rise2 HU.out (Two.last hHeld) hzv hv)
  case st7_1 =>
    go_simp
    have hPrev := hHeld
    refine hK.out _ _ ?_ (fun hHeld => ?_)
    · (try dsimp only); (first | assumption | exact Two.alloc hHeld _ | exact Two.below hHeld hbl)
    clear hK K
    try simp only [Act.put, List.setIfInBounds_toArray, List.set_cons_zero, List.set_cons_succ]
    have HZ := Lib.hid (And.intro (raw_of hHeld) (Two.last hPrev).size)
    clear hPrev
    generalize w4.alloc (Obj.cells #[Value.int IntKind.u64 0, Value.int IntKind.u64 0, Value.int IntKind.u64 0, Value.int IntKind.u64 0] 25) = v42 at *
    refine wpAnyH_ready (rs := [1]) (by kernel_rfl) (by simp) ?_
    refine AllReadyH.cons (o := ?o1_43) ?hi1_43 (fun K hK => ?st1_43) AllReadyH.nil
    case hi1_43 => simp only [List.getElem?_toArray, List.getElem?_cons_succ, List.getElem?_cons_zero]; rfl
    case st1_43 =>
      go_simp
      (go_at_call 24; refine (CNS _).mono ?_; rintro e v44 ⟨rfl, hbl⟩)
      have hPrev := hHeld
      refine hK.out _ _ ?_ (fun hHeld => ?_)
      · (try dsimp only); (first | assumption | exact Two.alloc hHeld _ | exact Two.below hHeld hbl)
      clear hK K
      try simp only [Act.put, List.setIfInBounds_toArray, List.set_cons_zero, List.set_cons_succ]
      have HZ := Lib.hid (And.intro (raw_below HZ.out.1 hbl) HZ.out.2)
      clear hPrev
      refine wpAnyH_ready (rs := [3]) (by kernel_rfl) (by simp) ?_
      refine AllReadyH.cons (o := ?o3_45) ?hi3_45 (fun K hK => ?st3_45) AllReadyH.nil
      case hi3_45 => simp only [List.getElem?_toArray, List.getElem?_cons_succ, List.getElem?_cons_zero]; rfl
      case st3_45 =>
        go_simp
        (go_at_call 24; refine (CNT _).mono ?_; rintro e v46 ⟨rfl, hbl⟩)
        have hPrev := hHeld
        refine hK.out _ _ ?_ (fun hHeld => ?_)
        · (try dsimp only); (first | assumption | exact Two.alloc hHeld _ | exact Two.below hHeld hbl)
        clear hK K
        try simp only [Act.put, List.setIfInBounds_toArray, List.set_cons_zero, List.set_cons_succ]
        have HZ := Lib.hid (And.intro (raw_below HZ.out.1 hbl) HZ.out.2)
        clear hPrev
        refine wpAnyH_ready (rs := [4]) (by kernel_rfl) (by simp) ?_
        refine AllReadyH.cons (o := ?o4_47) ?hi4_47 (fun K hK => ?st4_47) AllReadyH.nil
        case hi4_47 => simp only [List.getElem?_toArray, List.getElem?_cons_succ, List.getElem?_cons_zero]; rfl
        case st4_47 =>
          go_simp
          have hPrev := hHeld
          refine hK.out _ _ ?_ (fun hHeld => ?_)
          · (try dsimp only); (first | assumption | exact Two.alloc hHeld _ | exact Two.below hHeld hbl)
          clear hK K
          try simp only [Act.put, List.setIfInBounds_toArray, List.set_cons_zero, List.set_cons_succ]
          have HL := Lib.hid (raw_of hHeld)
          have HZ := Lib.hid (And.intro (raw_alloc HZ.out.1 (Obj.cells #[Value.int IntKind.u64 ↑(word (notW s) 0), Value.int IntKind.u64 ↑(word (notW s) 1), Value.int IntKind.u64 ↑(word (notW s) 2), Value.int IntKind.u64 ↑(word (notW s) 3), Value.int IntKind.u64 ↑(word (notW t) 0), Value.int IntKind.u64 ↑(word (notW t) 1), Value.int IntKind.u64 ↑(word (notW t) 2), Value.int IntKind.u64 ↑(word (notW t) 3)] 25)) HZ.out.2)
          clear hPrev
          generalize v46.alloc (Obj.cells #[Value.int IntKind.u64 ↑(word (notW s) 0), Value.int IntKind.u64 ↑(word (notW s) 1), Value.int IntKind.u64 ↑(word (notW s) 2), Value.int IntKind.u64 ↑(word (notW s) 3), Value.int IntKind.u64 ↑(word (notW t) 0), Value.int IntKind.u64 ↑(word (notW t) 1), Value.int IntKind.u64 ↑(word (notW t) 2), Value.int IntKind.u64 ↑(word (notW t) 3)] 25) = v48 at *
          refine wpAnyH_ready (rs := [5]) (by kernel_rfl) (by simp) ?_
          refine AllReadyH.cons (o := ?o5_49) ?hi5_49 (fun K hK => ?st5_49) AllReadyH.nil
          case hi5_49 => simp only [List.getElem?_toArray, List.getElem?_cons_succ, List.getElem?_cons_zero]; rfl
          case st5_49 =>
            go_simp
            (go_at_call 15; refine (CO2 _ _ (Array.getElem?_eq_some_iff.1 HL.out).1 (lsL HL.out rfl)).mono ?_; rintro e v50 ⟨rfl, hbl⟩)
            have hPrev := hHeld
            refine hK.out _ _ ?_ (fun hHeld => ?_)
            · (try dsimp only); (first | assumption | exact Two.alloc hHeld _ | exact Two.below hHeld hbl)
            clear hK K
            try simp only [Act.put, List.setIfInBounds_toArray, List.set_cons_zero, List.set_cons_succ]
            have HZ := Lib.hid (And.intro (raw_below HZ.out.1 hbl) HZ.out.2)
            clear hPrev
            refine wpAnyH_ready (rs := [6]) (by kernel_rfl) (by simp) ?_
            refine AllReadyH.cons (o := ?o6_51) ?hi6_51 (fun K hK => ?st6_51) AllReadyH.nil
            case hi6_51 => simp only [List.getElem?_toArray, List.getElem?_cons_succ, List.getElem?_cons_zero]; rfl
            case st6_51 =>
              go_simp
              (go_at_call 24; refine (CNO _).mono ?_; rintro e v52 ⟨rfl, hbl⟩)
              have hPrev := hHeld
              refine hK.out _ _ ?_ (fun hHeld => ?_)
              · (try dsimp only); (first | assumption | exact Two.alloc hHeld _ | exact Two.below hHeld hbl)
              clear hK K
              try simp only [Act.put, List.setIfInBounds_toArray, List.set_cons_zero, List.set_cons_succ]
              have HZ := Lib.hid (And.intro (raw_below HZ.out.1 hbl) HZ.out.2)
              clear hPrev
              have hz : SB _ _ zeroW := HZ.out.1
              have z0 := hz.cell wf_zero (i := 0) (by omega)
              have z1 := hz.cell wf_zero (i := 1) (by omega)
              have z2 := hz.cell wf_zero (i := 2) (by omega)
              have z3 := hz.cell wf_zero (i := 3) (by omega)
              have f0 := Lib.frozen_of_heap hz 0
              have f1 := Lib.frozen_of_heap hz 1
              have f2 := Lib.frozen_of_heap hz 2
              have f3 := Lib.frozen_of_heap hz 3
              refine wpAnyH_ready (rs := [8]) (by kernel_rfl) (by simp) ?_
              refine AllReadyH.cons (o := ?oz53) ?hiz53 (fun K hK => ?stz53) AllReadyH.nil
              case hiz53 => simp only [List.getElem?_toArray, List.getElem?_cons_succ, List.getElem?_cons_zero]; rfl
              go_simp
              refine hK.out _ _ ?_ (fun hHeld => ?_)
              · (try dsimp only); exact Two.put hHeld hl1 hl2 HZ.out.2 (bothW s t)
              clear hK K
              try simp only [Act.put, List.setIfInBounds_toArray, List.set_cons_zero, List.set_cons_succ]
              refine wpAnyH_done (by kernel_rfl) ?_ _
              refine NoPanic.normal ?_
              have hzv := SB.put hz wf_zero hv
              exact HREST _ _ _ _ _ _ _ _ _ _ _ _ _ (Two.rise H2.out hHeld) (Two.rise2 HU.out (Two.last hHeld) hzv hv)
theorem setOrs_walk (s t : List Nat) (b : Int) (hs : Wf s) (ht : Wf t) (wb : (Lit.int .u8 b).wf = true) (W : World) (hg : 0 < W.heap.size) (hT : Tab W) :
    Calls Tryd.prog 9 #[SV s, SV t, .int .u8 b] W fun e w' => e = .returned (.bool true) ∧ Below W.heap.size W w' := by
  obtain ⟨b, rfl, hb⟩ := u8_nat wb
  exact setOrs_nat s t b hs ht hb W hg hT
end Go.Proofs.YtmlgbjdohijlnaaDoor.St
