/- The reference's show, Print, digits: the walks. -/
import Derived.Test.YtcijhfdccbgcpaaDoorAdN
import Derived.Test.YtcijhfdccbgcpaaDoorAdP
namespace Go.Proofs.YtcijhfdccbgcpaaDoor.Ad
open Go.RowKit Go.Shelf
set_option linter.unusedVariables false
set_option linter.unusedSimpArgs false
theorem dig_at (n : Int) (h0 : 0 ≤ n) (h1 : n ≤ 999999999) (w : World) : Calls Tryd.prog 42 #[E n] w fun e w' => e = .returned (S (Lib.itoa n)) ∧ Below w.heap.size w w' := by
  obtain ⟨u, rfl⟩ : ∃ u : Nat, n = (u : Int) := ⟨n.toNat, by omega⟩
  rw [Lib.itoa_nonneg]
  exact digits_any u w (by omega)
def TB (w0 : World) (k n m : Int) (w : World) : Prop :=
  (w.cell? ⟨w0.heap.size, 0, none⟩ = some (E k) ∧ w.cell? ⟨w0.heap.size, 1, none⟩ = some (E n) ∧ w.cell? ⟨w0.heap.size, 2, none⟩ = some (E m)) ∧ Below w0.heap.size w0 w
theorem TB.below {w0 : World} {k n m : Int} {w w' : World} (h : TB w0 k n m w) (hb : Below w.heap.size w w') : TB w0 k n m w' :=
  ⟨⟨(hb.cell (lt_cell h.1.1)).trans h.1.1, (hb.cell (lt_cell h.1.2.1)).trans h.1.2.1, (hb.cell (lt_cell h.1.2.2)).trans h.1.2.2⟩, h.2.trans (hb.mono h.2.size)⟩
theorem tb0 (w : World) (k n m : Int) : TB w k n m (w.alloc (.cells #[E k, E n, E m] 31)) := by
  have hg := heap_alloc_new w (.cells #[E k, E n, E m] 31)
  exact ⟨⟨(Lib.cell_of_heap hg 0).trans rfl, (Lib.cell_of_heap hg 1).trans rfl, (Lib.cell_of_heap hg 2).trans rfl⟩, (Below.refl w.heap.size w).alloc (Nat.le_refl _) _⟩
set_option maxRecDepth 100000 in
set_option maxHeartbeats 1600000 in
theorem show_0 (n m : Int) (w : World) (hn : 0 ≤ n ∧ n ≤ 999999999) (hm : 0 ≤ m ∧ m ≤ 999999999) :
    Calls Tryd.prog 27 #[AV ⟨0, n, m⟩] w fun e w' => e = .returned (S (textA ⟨0, n, m⟩)) ∧ Below w.heap.size w w' := by
  have HO := Lib.hid (show textA ⟨0, n, m⟩ = [] from by unfold textA; simp)
  have hl1 := itoa_len hn.1 hn.2
  have hl2 := itoa_len hm.1 hm.2
  have HIN := Lib.hid (fun (w' : World) => dig_at n hn.1 hn.2 w')
  have HIM := Lib.hid (fun (w' : World) => dig_at m hm.1 hm.2 w')
  clear hn hm
  generalize Lib.itoa n = x at *
  generalize Lib.itoa m = y at *
  have c1 := fun w => run_string_add_lists (P := Tryd.prog) w x [126] (by omega) (by decide)
  have c2 := fun w => run_string_add_lists (P := Tryd.prog) w (x ++ [126]) y (by simp; omega) (by omega)
  have c3 := fun w => run_string_add_lists (P := Tryd.prog) w [47] x (by decide) (by omega)
  have c4 := fun w => run_string_add_lists (P := Tryd.prog) w (47 :: x) [47] (by simp; omega) (by decide)
  have c5 := fun w => run_string_add_lists (P := Tryd.prog) w [43] x (by decide) (by omega)
  have c6 := fun w => run_string_add_lists (P := Tryd.prog) w [126] x (by decide) (by omega)
  have HT0 := Lib.hid (tb0 w 0 n m)
  go_enter Tryd.func27, Tryd.ntmps27
  go_wp2
  go_ret
  exact ⟨by rw [HO.out]; exact ret1 rfl, HT0.out.2⟩
set_option maxRecDepth 100000 in
set_option maxHeartbeats 1600000 in
theorem show_1 (n m : Int) (w : World) (hn : 0 ≤ n ∧ n ≤ 999999999) (hm : 0 ≤ m ∧ m ≤ 999999999) :
    Calls Tryd.prog 27 #[AV ⟨1, n, m⟩] w fun e w' => e = .returned (S (textA ⟨1, n, m⟩)) ∧ Below w.heap.size w w' := by
  have HO := Lib.hid (show textA ⟨1, n, m⟩ = Lib.itoa n from by unfold textA; simp)
  have hl1 := itoa_len hn.1 hn.2
  have hl2 := itoa_len hm.1 hm.2
  have HIN := Lib.hid (fun (w' : World) => dig_at n hn.1 hn.2 w')
  have HIM := Lib.hid (fun (w' : World) => dig_at m hm.1 hm.2 w')
  clear hn hm
  generalize Lib.itoa n = x at *
  generalize Lib.itoa m = y at *
  have c1 := fun w => run_string_add_lists (P := Tryd.prog) w x [126] (by omega) (by decide)
  have c2 := fun w => run_string_add_lists (P := Tryd.prog) w (x ++ [126]) y (by simp; omega) (by omega)
  have c3 := fun w => run_string_add_lists (P := Tryd.prog) w [47] x (by decide) (by omega)
  have c4 := fun w => run_string_add_lists (P := Tryd.prog) w (47 :: x) [47] (by simp; omega) (by decide)
  have c5 := fun w => run_string_add_lists (P := Tryd.prog) w [43] x (by decide) (by omega)
  have c6 := fun w => run_string_add_lists (P := Tryd.prog) w [126] x (by decide) (by omega)
  have HT0 := Lib.hid (tb0 w 1 n m)
  go_enter Tryd.func27, Tryd.ntmps27
  go_wp2_with (go_at_call 42; refine (HIN.out _).mono ?_; rintro e w1 ⟨rfl, hb⟩; have HT := Lib.hid (HT0.out.below hb); clear hb)
  go_ret
  exact ⟨by rw [HO.out]; exact ret1 (by first | rfl | simp), HT.out.2⟩
set_option maxRecDepth 100000 in
set_option maxHeartbeats 1600000 in
theorem show_2 (n m : Int) (w : World) (hn : 0 ≤ n ∧ n ≤ 999999999) (hm : 0 ≤ m ∧ m ≤ 999999999) :
    Calls Tryd.prog 27 #[AV ⟨2, n, m⟩] w fun e w' => e = .returned (S (textA ⟨2, n, m⟩)) ∧ Below w.heap.size w w' := by
  have HO := Lib.hid (show textA ⟨2, n, m⟩ = [36] from by unfold textA; simp)
  have hl1 := itoa_len hn.1 hn.2
  have hl2 := itoa_len hm.1 hm.2
  have HIN := Lib.hid (fun (w' : World) => dig_at n hn.1 hn.2 w')
  have HIM := Lib.hid (fun (w' : World) => dig_at m hm.1 hm.2 w')
  clear hn hm
  generalize Lib.itoa n = x at *
  generalize Lib.itoa m = y at *
  have c1 := fun w => run_string_add_lists (P := Tryd.prog) w x [126] (by omega) (by decide)
  have c2 := fun w => run_string_add_lists (P := Tryd.prog) w (x ++ [126]) y (by simp; omega) (by omega)
  have c3 := fun w => run_string_add_lists (P := Tryd.prog) w [47] x (by decide) (by omega)
  have c4 := fun w => run_string_add_lists (P := Tryd.prog) w (47 :: x) [47] (by simp; omega) (by decide)
  have c5 := fun w => run_string_add_lists (P := Tryd.prog) w [43] x (by decide) (by omega)
  have c6 := fun w => run_string_add_lists (P := Tryd.prog) w [126] x (by decide) (by omega)
  have HT0 := Lib.hid (tb0 w 2 n m)
  go_enter Tryd.func27, Tryd.ntmps27
  go_wp2
  go_ret
  exact ⟨by rw [HO.out]; exact ret1 rfl, HT0.out.2⟩
set_option maxRecDepth 100000 in
set_option maxHeartbeats 1600000 in
theorem show_3 (n m : Int) (w : World) (hn : 0 ≤ n ∧ n ≤ 999999999) (hm : 0 ≤ m ∧ m ≤ 999999999) :
    Calls Tryd.prog 27 #[AV ⟨3, n, m⟩] w fun e w' => e = .returned (S (textA ⟨3, n, m⟩)) ∧ Below w.heap.size w w' := by
  have HO := Lib.hid (show textA ⟨3, n, m⟩ = Lib.itoa n ++ [126] ++ Lib.itoa m from by unfold textA; simp)
  have hl1 := itoa_len hn.1 hn.2
  have hl2 := itoa_len hm.1 hm.2
  have HIN := Lib.hid (fun (w' : World) => dig_at n hn.1 hn.2 w')
  have HIM := Lib.hid (fun (w' : World) => dig_at m hm.1 hm.2 w')
  clear hn hm
  generalize Lib.itoa n = x at *
  generalize Lib.itoa m = y at *
  have c1 := fun w => run_string_add_lists (P := Tryd.prog) w x [126] (by omega) (by decide)
  have c2 := fun w => run_string_add_lists (P := Tryd.prog) w (x ++ [126]) y (by simp; omega) (by omega)
  have c3 := fun w => run_string_add_lists (P := Tryd.prog) w [47] x (by decide) (by omega)
  have c4 := fun w => run_string_add_lists (P := Tryd.prog) w (47 :: x) [47] (by simp; omega) (by decide)
  have c5 := fun w => run_string_add_lists (P := Tryd.prog) w [43] x (by decide) (by omega)
  have c6 := fun w => run_string_add_lists (P := Tryd.prog) w [126] x (by decide) (by omega)
  have HT0 := Lib.hid (tb0 w 3 n m)
  go_enter Tryd.func27, Tryd.ntmps27
  go_wp2
  refine wp_region_noPanic ?_
  refine wp_region_held_drew (S := fun w' => (w'.cell? ⟨w.heap.size, 0, none⟩ = some (E 3) ∧ w'.cell? ⟨w.heap.size, 1, none⟩ = some (E n) ∧ w'.cell? ⟨w.heap.size, 2, none⟩ = some (E m)) ∧ Below w.heap.size w w') (by kernel_rfl) ?_ (fun hHeld => ?_)
  · (try dsimp only); exact TB.below HT0.out (Below.refl _ _).drew
  refine wpAnyH_take (i := 0) (oi := ?o0) (v := ?v0) ?hi0 (by kernel_rfl) (by kernel_rfl) (by kernel_rfl) (fun _ _ _ h => h) ?hy0 (by assumption) ?r0
  case hi0 => simp only [List.getElem?_toArray, List.getElem?_cons_succ, List.getElem?_cons_zero]; rfl
  case hy0 => exact Or.inl ⟨by rfl, by (intro w hSw; (try dsimp only at hSw); go_simp) <;> with_reducible rfl⟩
  try simp only [Act.put, List.setIfInBounds_toArray, List.set_cons_zero, List.set_cons_succ]
  refine wpAnyH_take (i := 1) (oi := ?o1) (v := ?v1) ?hi1 (by kernel_rfl) (by kernel_rfl) (by kernel_rfl) (fun _ _ _ h => h) ?hy1 (by assumption) ?r1
  case hi1 => simp only [List.getElem?_toArray, List.getElem?_cons_succ, List.getElem?_cons_zero]; rfl
  case hy1 => exact Or.inl ⟨by rfl, by (intro w hSw; (try dsimp only at hSw); go_simp) <;> with_reducible rfl⟩
  try simp only [Act.put, List.setIfInBounds_toArray, List.set_cons_zero, List.set_cons_succ]
  refine wpAnyH_take (i := 4) (oi := ?o4) (v := ?v4) ?hi4 (by kernel_rfl) (by kernel_rfl) (by kernel_rfl) (fun _ _ _ h => h) ?hy4 (by assumption) ?r4
  case hi4 => simp only [List.getElem?_toArray, List.getElem?_cons_succ, List.getElem?_cons_zero]; rfl
  case hy4 => exact Or.inl ⟨by rfl, by (intro w hSw; (try dsimp only at hSw); go_simp) <;> with_reducible rfl⟩
  try simp only [Act.put, List.setIfInBounds_toArray, List.set_cons_zero, List.set_cons_succ]
  refine wpAnyH_take (i := 5) (oi := ?o5) (v := ?v5) ?hi5 (by kernel_rfl) (by kernel_rfl) (by kernel_rfl) (fun _ _ _ h => h) ?hy5 (by assumption) ?r5
  case hi5 => simp only [List.getElem?_toArray, List.getElem?_cons_succ, List.getElem?_cons_zero]; rfl
  case hy5 => exact Or.inl ⟨by rfl, by (intro w hSw; (try dsimp only at hSw); go_simp) <;> with_reducible rfl⟩
  try simp only [Act.put, List.setIfInBounds_toArray, List.set_cons_zero, List.set_cons_succ]
  refine wpAnyH_ready (rs := [2]) (by kernel_rfl) (by simp) ?_
  refine AllReadyH.cons (o := ?o2) ?hi2 (fun K hK => ?st2) AllReadyH.nil
  case hi2 => simp only [List.getElem?_toArray, List.getElem?_cons_succ, List.getElem?_cons_zero]; rfl
  go_simp
  (go_at_call 42; refine (HIN.out _).mono ?_; rintro e w' ⟨rfl, hbl⟩)
  refine hK.out _ _ ?_ (fun hHeld => ?_)
  · (try dsimp only); (exact TB.below hHeld hbl)
  clear hK K
  try simp only [Act.put, List.setIfInBounds_toArray, List.set_cons_zero, List.set_cons_succ]
  refine wpAnyH_take (i := 3) (oi := ?o3) (v := ?v3) ?hi3 (by kernel_rfl) (by kernel_rfl) (by kernel_rfl) (fun _ _ _ h => h) ?hy3 (by assumption) ?r3
  case hi3 => simp only [List.getElem?_toArray, List.getElem?_cons_succ, List.getElem?_cons_zero]; rfl
  case hy3 => exact Or.inl ⟨by rfl, by (intro w hSw; (try dsimp only at hSw); go_simp) <;> with_reducible rfl⟩
  try simp only [Act.put, List.setIfInBounds_toArray, List.set_cons_zero, List.set_cons_succ]
  refine wpAnyH_ready (rs := [6]) (by kernel_rfl) (by simp) ?_
  refine AllReadyH.cons (o := ?o6) ?hi6 (fun K hK => ?st6) AllReadyH.nil
  case hi6 => simp only [List.getElem?_toArray, List.getElem?_cons_succ, List.getElem?_cons_zero]; rfl
  go_simp
  (go_at_call 42; refine (HIM.out _).mono ?_; rintro e w' ⟨rfl, hbl⟩)
  refine hK.out _ _ ?_ (fun hHeld => ?_)
  · (try dsimp only); (exact TB.below hHeld hbl)
  clear hK K
  try simp only [Act.put, List.setIfInBounds_toArray, List.set_cons_zero, List.set_cons_succ]
  refine wpAnyH_take (i := 7) (oi := ?o7) (v := ?v7) ?hi7 (by kernel_rfl) (by kernel_rfl) (by kernel_rfl) (fun _ _ _ h => h) ?hy7 (by assumption) ?r7
  case hi7 => simp only [List.getElem?_toArray, List.getElem?_cons_succ, List.getElem?_cons_zero]; rfl
  case hy7 => exact Or.inl ⟨by rfl, by (intro w hSw; (try dsimp only at hSw); go_simp) <;> with_reducible rfl⟩
  try simp only [Act.put, List.setIfInBounds_toArray, List.set_cons_zero, List.set_cons_succ]
  refine wpAnyH_take (i := 8) (oi := ?o8) (v := ?v8) ?hi8 (by kernel_rfl) (by kernel_rfl) (by kernel_rfl) (fun _ _ _ h => h) ?hy8 (by assumption) ?r8
  case hi8 => simp only [List.getElem?_toArray, List.getElem?_cons_succ, List.getElem?_cons_zero]; rfl
  case hy8 => exact Or.inl ⟨by rfl, by (intro w hSw; (try dsimp only at hSw); go_simp) <;> with_reducible rfl⟩
  try simp only [Act.put, List.setIfInBounds_toArray, List.set_cons_zero, List.set_cons_succ]
  refine wpAnyH_done (by kernel_rfl) ?_ _
  refine NoPanic.normal ?_
  go_wp2
  go_ret
  exact ⟨by rw [HO.out]; exact ret1 (by simp), hHeld.2⟩
set_option maxRecDepth 100000 in
set_option maxHeartbeats 1600000 in
theorem show_4 (n m : Int) (w : World) (hn : 0 ≤ n ∧ n ≤ 999999999) (hm : 0 ≤ m ∧ m ≤ 999999999) :
    Calls Tryd.prog 27 #[AV ⟨4, n, m⟩] w fun e w' => e = .returned (S (textA ⟨4, n, m⟩)) ∧ Below w.heap.size w w' := by
  have HO := Lib.hid (show textA ⟨4, n, m⟩ = [47] ++ Lib.itoa n ++ [47] from by unfold textA; simp)
  have hl1 := itoa_len hn.1 hn.2
  have hl2 := itoa_len hm.1 hm.2
  have HIN := Lib.hid (fun (w' : World) => dig_at n hn.1 hn.2 w')
  have HIM := Lib.hid (fun (w' : World) => dig_at m hm.1 hm.2 w')
  clear hn hm
  generalize Lib.itoa n = x at *
  generalize Lib.itoa m = y at *
  have c1 := fun w => run_string_add_lists (P := Tryd.prog) w x [126] (by omega) (by decide)
  have c2 := fun w => run_string_add_lists (P := Tryd.prog) w (x ++ [126]) y (by simp; omega) (by omega)
  have c3 := fun w => run_string_add_lists (P := Tryd.prog) w [47] x (by decide) (by omega)
  have c4 := fun w => run_string_add_lists (P := Tryd.prog) w (47 :: x) [47] (by simp; omega) (by decide)
  have c5 := fun w => run_string_add_lists (P := Tryd.prog) w [43] x (by decide) (by omega)
  have c6 := fun w => run_string_add_lists (P := Tryd.prog) w [126] x (by decide) (by omega)
  have HT0 := Lib.hid (tb0 w 4 n m)
  go_enter Tryd.func27, Tryd.ntmps27
  go_wp2_with (go_at_call 42; refine (HIN.out _).mono ?_; rintro e w1 ⟨rfl, hb⟩; have HT := Lib.hid (HT0.out.below hb); clear hb)
  go_ret
  exact ⟨by rw [HO.out]; exact ret1 (by first | rfl | simp), HT.out.2⟩
set_option maxRecDepth 100000 in
set_option maxHeartbeats 1600000 in
theorem show_5 (n m : Int) (w : World) (hn : 0 ≤ n ∧ n ≤ 999999999) (hm : 0 ≤ m ∧ m ≤ 999999999) :
    Calls Tryd.prog 27 #[AV ⟨5, n, m⟩] w fun e w' => e = .returned (S (textA ⟨5, n, m⟩)) ∧ Below w.heap.size w w' := by
  have HO := Lib.hid (show textA ⟨5, n, m⟩ = [43] ++ Lib.itoa n from by unfold textA; simp)
  have hl1 := itoa_len hn.1 hn.2
  have hl2 := itoa_len hm.1 hm.2
  have HIN := Lib.hid (fun (w' : World) => dig_at n hn.1 hn.2 w')
  have HIM := Lib.hid (fun (w' : World) => dig_at m hm.1 hm.2 w')
  clear hn hm
  generalize Lib.itoa n = x at *
  generalize Lib.itoa m = y at *
  have c1 := fun w => run_string_add_lists (P := Tryd.prog) w x [126] (by omega) (by decide)
  have c2 := fun w => run_string_add_lists (P := Tryd.prog) w (x ++ [126]) y (by simp; omega) (by omega)
  have c3 := fun w => run_string_add_lists (P := Tryd.prog) w [47] x (by decide) (by omega)
  have c4 := fun w => run_string_add_lists (P := Tryd.prog) w (47 :: x) [47] (by simp; omega) (by decide)
  have c5 := fun w => run_string_add_lists (P := Tryd.prog) w [43] x (by decide) (by omega)
  have c6 := fun w => run_string_add_lists (P := Tryd.prog) w [126] x (by decide) (by omega)
  have HT0 := Lib.hid (tb0 w 5 n m)
  go_enter Tryd.func27, Tryd.ntmps27
  go_wp2_with (go_at_call 42; refine (HIN.out _).mono ?_; rintro e w1 ⟨rfl, hb⟩; have HT := Lib.hid (HT0.out.below hb); clear hb)
  go_ret
  exact ⟨by rw [HO.out]; exact ret1 (by first | rfl | simp), HT.out.2⟩
set_option maxRecDepth 100000 in
set_option maxHeartbeats 1600000 in
theorem show_6 (n m : Int) (w : World) (hn : 0 ≤ n ∧ n ≤ 999999999) (hm : 0 ≤ m ∧ m ≤ 999999999) :
    Calls Tryd.prog 27 #[AV ⟨6, n, m⟩] w fun e w' => e = .returned (S (textA ⟨6, n, m⟩)) ∧ Below w.heap.size w w' := by
  have HO := Lib.hid (show textA ⟨6, n, m⟩ = [126] ++ Lib.itoa n from by unfold textA; simp)
  have hl1 := itoa_len hn.1 hn.2
  have hl2 := itoa_len hm.1 hm.2
  have HIN := Lib.hid (fun (w' : World) => dig_at n hn.1 hn.2 w')
  have HIM := Lib.hid (fun (w' : World) => dig_at m hm.1 hm.2 w')
  clear hn hm
  generalize Lib.itoa n = x at *
  generalize Lib.itoa m = y at *
  have c1 := fun w => run_string_add_lists (P := Tryd.prog) w x [126] (by omega) (by decide)
  have c2 := fun w => run_string_add_lists (P := Tryd.prog) w (x ++ [126]) y (by simp; omega) (by omega)
  have c3 := fun w => run_string_add_lists (P := Tryd.prog) w [47] x (by decide) (by omega)
  have c4 := fun w => run_string_add_lists (P := Tryd.prog) w (47 :: x) [47] (by simp; omega) (by decide)
  have c5 := fun w => run_string_add_lists (P := Tryd.prog) w [43] x (by decide) (by omega)
  have c6 := fun w => run_string_add_lists (P := Tryd.prog) w [126] x (by decide) (by omega)
  have HT0 := Lib.hid (tb0 w 6 n m)
  go_enter Tryd.func27, Tryd.ntmps27
  go_wp2_with (go_at_call 42; refine (HIN.out _).mono ?_; rintro e w1 ⟨rfl, hb⟩; have HT := Lib.hid (HT0.out.below hb); clear hb)
  go_ret
  exact ⟨by rw [HO.out]; exact ret1 (by first | rfl | simp), HT.out.2⟩
theorem show_any (a : A3) (w : World) (h : One a) :
    Calls Tryd.prog 27 #[AV a] w fun e w' => e = .returned (S (textA a)) ∧ Below w.heap.size w w' := by
  obtain ⟨k, n, m⟩ := a
  have hb : (0 ≤ n ∧ n ≤ 999999999) ∧ (0 ≤ m ∧ m ≤ 999999999) ∧ 0 ≤ k ∧ k ≤ 6 := by unfold One at h; dsimp only at h; omega
  obtain ⟨hn, hm, h0, h6⟩ := hb
  obtain rfl | rfl | rfl | rfl | rfl | rfl | rfl : k = 0 ∨ k = 1 ∨ k = 2 ∨ k = 3 ∨ k = 4 ∨ k = 5 ∨ k = 6 := by omega
  · exact show_0 n m w hn hm
  · exact show_1 n m w hn hm
  · exact show_2 n m w hn hm
  · exact show_3 n m w hn hm
  · exact show_4 n m w hn hm
  · exact show_5 n m w hn hm
  · exact show_6 n m w hn hm
set_option maxRecDepth 100000 in
set_option maxHeartbeats 1600000 in
theorem rprint_no (a b : A3) (nt : Bool) (w : World) (hm : ¬ May a b) :
    Calls Tryd.prog 14 #[RV a b nt] w fun e w' => e = .returned (.tuple #[S (printR a b nt).1, E (printR a b nt).2]) ∧ Below w.heap.size w w' := by
  have HG0 : Hid (RCt 33 (w.alloc (Obj.cells #[E a.k, E a.n, E a.m, E b.k, E b.n, E b.m, .bool nt] 33)) w.heap.size a b nt) := Lib.hid (heap_alloc_new _ _)
  have HB0 := Lib.hid ((Below.refl w.heap.size w).alloc (Nat.le_refl _) (Obj.cells #[E a.k, E a.n, E a.m, E b.k, E b.n, E b.m, .bool nt] 33))
  have HM := Lib.hid (fun w' => rmay_any a b nt w')
  have HO := Lib.hid (show printR a b nt = ([], 1) from by unfold printR; rw [if_neg hm])
  have hd := decide_eq_false hm
  rw [hd] at HM
  obtain ⟨ak, an, am⟩ := a
  obtain ⟨bk, bn, bm⟩ := b
  go_enter Tryd.func14, Tryd.ntmps14
  go_wp2_with (go_at_call 19; refine (HM.out _).mono ?_; rintro e w1 ⟨rfl, hb⟩; have HG1 := Lib.hid (HG0.out.below hb); have HB1 := Lib.hid (HB0.out.trans (hb.mono HB0.out.size)); clear hb; clear HB0; obtain ⟨q0, q1, q2, q3, q4, q5, q6⟩ := HG1.out.cells)
  go_ret2
  exact ⟨by rw [HO.out]; rfl, HB1.out⟩
set_option maxRecDepth 100000 in
set_option maxHeartbeats 1600000 in
theorem rprint_yes (a b : A3) (nt : Bool) (w : World) (hm : May a b) :
    Calls Tryd.prog 14 #[RV a b nt] w fun e w' => e = .returned (.tuple #[S (printR a b nt).1, E (printR a b nt).2]) ∧ Below w.heap.size w w' := by
  have HG0 : Hid (RCt 33 (w.alloc (Obj.cells #[E a.k, E a.n, E a.m, E b.k, E b.n, E b.m, .bool nt] 33)) w.heap.size a b nt) := Lib.hid (heap_alloc_new _ _)
  have HB0 := Lib.hid ((Below.refl w.heap.size w).alloc (Nat.le_refl _) (Obj.cells #[E a.k, E a.n, E a.m, E b.k, E b.n, E b.m, .bool nt] 33))
  have HM := Lib.hid (fun w' => rmay_any a b nt w')
  have hd := decide_eq_true hm
  rw [hd] at HM
  have HTA := Lib.hid (fun w' => show_any a w' hm.1)
  have HTB := Lib.hid (fun w' => show_any b w' hm.2.1)
  have ha := textA_len hm.1
  have hb := textA_len hm.2.1
  obtain ⟨ak, an, am⟩ := a
  obtain ⟨bk, bn, bm⟩ := b
  by_cases k0 : bk = 0
  · subst k0
    cases nt
    · -- True false
      have hv : printR ⟨ak, an, am⟩ ⟨0, bn, bm⟩ false = (textA ⟨ak, an, am⟩, 0) := by
        unfold printR; rw [if_pos hm]; simp [tailB, tailN]
      have HO := Lib.hid hv
      clear hv
      generalize textA ⟨ak, an, am⟩ = x at *
      go_enter Tryd.func14, Tryd.ntmps14
      go_wp2_with (first
        | (go_at_call 19; refine (HM.out _).mono ?_; rintro e w1 ⟨rfl, hb⟩; have HG1 := Lib.hid (HG0.out.below hb); have HB1 := Lib.hid (HB0.out.trans (hb.mono HB0.out.size)); clear hb; clear HB0; obtain ⟨q0, q1, q2, q3, q4, q5, q6⟩ := HG1.out.cells)
        | (go_at_call 27; have hb0 := HB1.out; clear HB1; refine (HTA.out _).mono ?_; rintro e w2 ⟨rfl, hb⟩; have HG2 := Lib.hid (HG1.out.below hb); have HB2 := Lib.hid (hb0.trans (hb.mono hb0.size)); clear hb hb0; obtain ⟨p0, p1, p2, p3, p4, p5, p6⟩ := HG2.out.cells))
      go_ret2
      exact ⟨by rw [HO.out]; exact ret2 (by first | rfl | simp) rfl, HB2.out⟩
    · -- True true
      have hv : printR ⟨ak, an, am⟩ ⟨0, bn, bm⟩ true = (textA ⟨ak, an, am⟩ ++ [33], 0) := by
        unfold printR; rw [if_pos hm]; simp [tailB, tailN]
      have HO := Lib.hid hv
      clear hv
      generalize textA ⟨ak, an, am⟩ = x at *
      have c3 := fun w => run_string_add_lists (P := Tryd.prog) w x [33] (by (try simp); omega) (by decide)
      go_enter Tryd.func14, Tryd.ntmps14
      go_wp2_with (first
        | (go_at_call 19; refine (HM.out _).mono ?_; rintro e w1 ⟨rfl, hb⟩; have HG1 := Lib.hid (HG0.out.below hb); have HB1 := Lib.hid (HB0.out.trans (hb.mono HB0.out.size)); clear hb; clear HB0; obtain ⟨q0, q1, q2, q3, q4, q5, q6⟩ := HG1.out.cells)
        | (go_at_call 27; have hb0 := HB1.out; clear HB1; refine (HTA.out _).mono ?_; rintro e w2 ⟨rfl, hb⟩; have HG2 := Lib.hid (HG1.out.below hb); have HB2 := Lib.hid (hb0.trans (hb.mono hb0.size)); clear hb hb0; obtain ⟨p0, p1, p2, p3, p4, p5, p6⟩ := HG2.out.cells))
      go_ret2
      exact ⟨by rw [HO.out]; exact ret2 (by first | rfl | simp) rfl, HB2.out⟩
  · cases nt
    · -- False false
      have hv : printR ⟨ak, an, am⟩ ⟨bk, bn, bm⟩ false = (textA ⟨ak, an, am⟩ ++ 44 :: textA ⟨bk, bn, bm⟩, 0) := by
        unfold printR; rw [if_pos hm]; simp [tailB, tailN, k0]
      have HO := Lib.hid hv
      clear hv
      generalize textA ⟨ak, an, am⟩ = x at *
      generalize textA ⟨bk, bn, bm⟩ = y at *
      have c1 := fun w => run_string_add_lists (P := Tryd.prog) w x [44] (by omega) (by decide)
      have c2 := fun w => run_string_add_lists (P := Tryd.prog) w (x ++ [44]) y (by simp; omega) (by omega)
      have k0B : (bk == 0) = false := by rw [beq_eq_false_iff_ne]; exact k0
      have k0N : (bk != 0) = true := by rw [bne_iff_ne]; exact k0
      go_enter Tryd.func14, Tryd.ntmps14
      go_wp2_with (first
        | (go_at_call 19; refine (HM.out _).mono ?_; rintro e w1 ⟨rfl, hb⟩; have HG1 := Lib.hid (HG0.out.below hb); have HB1 := Lib.hid (HB0.out.trans (hb.mono HB0.out.size)); clear hb; clear HB0; obtain ⟨q0, q1, q2, q3, q4, q5, q6⟩ := HG1.out.cells)
        | (go_at_call 27; have hb0 := HB1.out; clear HB1; refine (HTA.out _).mono ?_; rintro e w2 ⟨rfl, hb⟩; have HG2 := Lib.hid (HG1.out.below hb); have HB2 := Lib.hid (hb0.trans (hb.mono hb0.size)); clear hb hb0; obtain ⟨p0, p1, p2, p3, p4, p5, p6⟩ := HG2.out.cells)
        | (go_at_call 27; have hb0 := HB2.out; clear HB2; refine (HTB.out _).mono ?_; rintro e w3 ⟨rfl, hb⟩; have HG3 := Lib.hid (HG2.out.below hb); have HB3 := Lib.hid (hb0.trans (hb.mono hb0.size)); clear hb hb0; obtain ⟨r0, r1, r2, r3, r4, r5, r6⟩ := HG3.out.cells))
      go_ret2
      exact ⟨by rw [HO.out]; exact ret2 (by first | rfl | simp) rfl, HB3.out⟩
    · -- False true
      have hv : printR ⟨ak, an, am⟩ ⟨bk, bn, bm⟩ true = (textA ⟨ak, an, am⟩ ++ 44 :: textA ⟨bk, bn, bm⟩ ++ [33], 0) := by
        unfold printR; rw [if_pos hm]; simp [tailB, tailN, k0]
      have HO := Lib.hid hv
      clear hv
      generalize textA ⟨ak, an, am⟩ = x at *
      generalize textA ⟨bk, bn, bm⟩ = y at *
      have c1 := fun w => run_string_add_lists (P := Tryd.prog) w x [44] (by omega) (by decide)
      have c2 := fun w => run_string_add_lists (P := Tryd.prog) w (x ++ [44]) y (by simp; omega) (by omega)
      have k0B : (bk == 0) = false := by rw [beq_eq_false_iff_ne]; exact k0
      have k0N : (bk != 0) = true := by rw [bne_iff_ne]; exact k0
      have c3 := fun w => run_string_add_lists (P := Tryd.prog) w (x ++ 44 :: y) [33] (by (try simp); omega) (by decide)
      go_enter Tryd.func14, Tryd.ntmps14
      go_wp2_with (first
        | (go_at_call 19; refine (HM.out _).mono ?_; rintro e w1 ⟨rfl, hb⟩; have HG1 := Lib.hid (HG0.out.below hb); have HB1 := Lib.hid (HB0.out.trans (hb.mono HB0.out.size)); clear hb; clear HB0; obtain ⟨q0, q1, q2, q3, q4, q5, q6⟩ := HG1.out.cells)
        | (go_at_call 27; have hb0 := HB1.out; clear HB1; refine (HTA.out _).mono ?_; rintro e w2 ⟨rfl, hb⟩; have HG2 := Lib.hid (HG1.out.below hb); have HB2 := Lib.hid (hb0.trans (hb.mono hb0.size)); clear hb hb0; obtain ⟨p0, p1, p2, p3, p4, p5, p6⟩ := HG2.out.cells)
        | (go_at_call 27; have hb0 := HB2.out; clear HB2; refine (HTB.out _).mono ?_; rintro e w3 ⟨rfl, hb⟩; have HG3 := Lib.hid (HG2.out.below hb); have HB3 := Lib.hid (hb0.trans (hb.mono hb0.size)); clear hb hb0; obtain ⟨r0, r1, r2, r3, r4, r5, r6⟩ := HG3.out.cells))
      go_ret2
      exact ⟨by rw [HO.out]; exact ret2 (by first | rfl | simp) rfl, HB3.out⟩
theorem rprint_any (a b : A3) (nt : Bool) (w : World) :
    Calls Tryd.prog 14 #[RV a b nt] w fun e w' => e = .returned (.tuple #[S (printR a b nt).1, E (printR a b nt).2]) ∧ Below w.heap.size w w' := by
  by_cases hm : May a b
  · exact rprint_yes a b nt w hm
  · exact rprint_no a b nt w hm
set_option maxRecDepth 100000 in
set_option maxHeartbeats 1600000 in
theorem dig_loop (s : List UInt8) (w : World) (hl : s.length ≤ 1000) :
    Calls Tryd.prog 47 #[S s] w fun e w' => e = .returned (.tuple #[E (digL s).1, .bool (digL s).2]) ∧ Below w.heap.size w w' := by
  have hsz : (ByteArray.mk s.toArray).size = s.length := by simp [ByteArray.size]
  go_enter Tryd.func47, Tryd.ntmps47
  go_wp2
  go_loop [4, 5] (fun n i => ∃ k acc : Nat, k ≤ s.length ∧ n = .int .i64 (acc : Nat) ∧ i = .int .i64 (k : Nat) ∧ acc ≤ 9999999999 ∧ Hid (digLoop s 0 = digLoop (s.drop k) acc)) (fun _ i => s.length - (intOf i).toNat)
  case atStart => exact ⟨0, 0, Nat.zero_le _, rfl, rfl, by omega, Lib.hid (by simp)⟩
  case round =>
    obtain ⟨k, acc, hk, rfl, rfl, hacc, HD⟩ := hrel
    by_cases hlt : k < s.length
    · have hlt' : ((k : Nat) : Int) < ((s.length : Nat) : Int) := by omega
      have hx : ((ByteArray.mk s.toArray)[k]'hlt) = s[k] := rfl
      have OD := Lib.hid (show digLoop (s.drop k) acc = if s[k].toNat < 48 ∨ 57 < s[k].toNat ∨ 999999999 < acc then none else digLoop (s.drop (k + 1)) (acc * 10 + (s[k].toNat - 48)) from by rw [List.drop_eq_getElem_cons hlt]; rfl)
      have hcb := UInt8.toNat_lt s[k]
      generalize s[k] = c at *
      by_cases h1 : c.toNat < 48
      · have HO := Lib.hid (show digL s = (0, false) from by unfold digL; rw [HD.out, OD.out, if_pos (Or.inl h1)])
        have h1' : ((c.toNat : Nat) : Int) < 48 := by omega
        clear OD HD
        go_wp2
        go_ret2
        exact ⟨by rw [HO.out]; exact ret2 rfl rfl, Below.refl _ _⟩
      by_cases h2 : 57 < c.toNat
      · have HO := Lib.hid (show digL s = (0, false) from by unfold digL; rw [HD.out, OD.out, if_pos (Or.inr (Or.inl h2))])
        have h1' : ¬ ((c.toNat : Nat) : Int) < 48 := by omega
        have h2' : (57 : Int) < ((c.toNat : Nat) : Int) := by omega
        clear OD HD
        go_wp2
        go_ret2
        exact ⟨by rw [HO.out]; exact ret2 rfl rfl, Below.refl _ _⟩
      by_cases h3 : 999999999 < acc
      · have HO := Lib.hid (show digL s = (0, false) from by unfold digL; rw [HD.out, OD.out, if_pos (Or.inr (Or.inr h3))])
        have h1' : ¬ ((c.toNat : Nat) : Int) < 48 := by omega
        have h2' : ¬ (57 : Int) < ((c.toNat : Nat) : Int) := by omega
        have h3' : (999999999 : Int) < acc := by omega
        clear OD HD
        go_wp2
        go_ret2
        exact ⟨by rw [HO.out]; exact ret2 rfl rfl, Below.refl _ _⟩
      have HO := Lib.hid (show digLoop s 0 = digLoop (s.drop (k + 1)) (acc * 10 + (c.toNat - 48)) from by rw [HD.out, OD.out, if_neg (by omega)])
      have h1' : ¬ ((c.toNat : Nat) : Int) < 48 := by omega
      have h2' : ¬ (57 : Int) < ((c.toNat : Nat) : Int) := by omega
      have h3' : ¬ (999999999 : Int) < acc := by omega
      have h4 : IntKind.u8.wrap (((c.toNat : Nat) : Int) - 48) = ((c.toNat - 48 : Nat) : Int) := by rw [IntKind.wrap_u8]; omega
      have h5 : c.toNat - 48 ≤ 9 := by omega
      clear OD HD
      generalize c.toNat - 48 = d at *
      go_wp2
      go_round
      case rel => exact ⟨k + 1, acc * 10 + d, by omega, by go_num, by go_num, by omega, HO⟩
      case measure => simp [intOf]; omega
    · obtain rfl : k = s.length := by omega
      have hlt' : ¬ ((s.length : Nat) : Int) < ((s.length : Nat) : Int) := by omega
      have HI := Lib.hid (fun w' => digits_any acc w' (by omega))
      by_cases h0 : s = []
      · subst h0
        have HO := Lib.hid (show digL [] = (0, false) from rfl)
        have ha : digLoop ([] : List UInt8) 0 = some 0 := rfl
        obtain rfl : acc = 0 := by
          have h := HD.out
          simp only [List.drop_nil] at h
          have h2 : some 0 = some acc := h
          exact (Option.some.inj h2).symm
        go_wp2
        go_ret2
        exact ⟨by rw [HO.out]; rfl, Below.refl _ _⟩
      · have HO := Lib.hid (show digL s = ((acc : Int), Lib.decDigits acc == s) from by
          unfold digL
          rw [HD.out, List.drop_of_length_le (Nat.le_refl _)]
          have h1 : (s == []) = false := by rw [beq_eq_false_iff_ne]; exact h0
          show ((acc : Int), !(s == []) && (Lib.decDigits acc == s)) = _
          rw [h1]; rfl)
        have h0B : (s != []) = true := by rw [bne_iff_ne]; exact h0
        have h0C : (s == []) = false := by rw [beq_eq_false_iff_ne]; exact h0
        clear HD
        generalize Lib.decDigits acc = y at *
        go_wp2_with (go_at_call 42; refine (HI.out _).mono ?_; rintro e w' ⟨rfl, hb⟩; have HB := Lib.hid hb; clear hb)
        go_ret2
        exact ⟨by rw [HO.out]; exact ret2 rfl (by simp), HB.out⟩
end Go.Proofs.YtcijhfdccbgcpaaDoor.Ad
