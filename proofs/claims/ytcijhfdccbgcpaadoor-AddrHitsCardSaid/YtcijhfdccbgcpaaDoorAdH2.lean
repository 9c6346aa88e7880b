/- AddrHits: the walk. -/
import Derived.Test.YtcijhfdccbgcpaaDoorAdH
namespace Go.Proofs.YtcijhfdccbgcpaaDoor.Ad
open Go.RowKit Go.Shelf
set_option linter.unusedVariables false
set_option linter.unusedSimpArgs false
/-- An address and a line, one behind the other. -/
def Lh (w0 : World) (a : A3) (N : Int) (last : Bool) (v : Value) (w : World) : Prop :=
  w.heap[w0.heap.size]? = some (.cells #[E a.k, E a.n, E a.m] 23 (0, 0)) ∧ w.heap[w0.heap.size + 1]? = some (.cells #[E N, .bool last, v] 44 (0, 0)) ∧ Below w0.heap.size w0 w
theorem Lh.below {w0 : World} {a : A3} {N : Int} {last : Bool} {v : Value} {w w' : World} (h : Lh w0 a N last v w) (hb : Below w.heap.size w w') : Lh w0 a N last v w' :=
  ⟨(hb.block _ (lt_heap h.1)).trans h.1, (hb.block _ (lt_heap h.2.1)).trans h.2.1, h.2.2.trans (hb.mono h.2.2.size)⟩
theorem Lh.cells {w0 : World} {a : A3} {N : Int} {last : Bool} {v : Value} {w : World} (h : Lh w0 a N last v w) :
    (w.cell? ⟨w0.heap.size, 0, none⟩ = some (E a.k) ∧ w.cell? ⟨w0.heap.size, 1, none⟩ = some (E a.n) ∧ w.cell? ⟨w0.heap.size, 2, none⟩ = some (E a.m)) ∧
    w.cell? ⟨w0.heap.size + 1, 0, none⟩ = some (E N) ∧ w.cell? ⟨w0.heap.size + 1, 1, none⟩ = some (.bool last) ∧ w.cell? ⟨w0.heap.size + 1, 2, none⟩ = some v := by
  obtain ⟨h1, h2, _⟩ := h
  refine ⟨⟨?_, ?_, ?_⟩, ?_, ?_, ?_⟩
  all_goals first | (rw [Lib.cell_of_heap h1]; rfl) | (rw [Lib.cell_of_heap h2]; rfl)
theorem lh0 (w : World) (a : A3) (N : Int) (last : Bool) (v : Value) : Lh w a N last v ((w.alloc (.cells #[E a.k, E a.n, E a.m] 23)).alloc (.cells #[E N, .bool last, v] 44)) := by
  have e1 : (w.alloc (.cells #[E a.k, E a.n, E a.m] 23)).heap.size = w.heap.size + 1 := by simp
  have h1 := heap_alloc_new w (.cells #[E a.k, E a.n, E a.m] 23)
  have h2 := heap_alloc_new (w.alloc (.cells #[E a.k, E a.n, E a.m] 23)) (.cells #[E N, .bool last, v] 44)
  rw [e1] at h2
  refine ⟨?_, h2, ((Below.refl w.heap.size w).alloc (Nat.le_refl _) _).alloc (by simp) _⟩
  rw [heap_alloc_old _ _ (by rw [e1]; omega), h1]
set_option maxRecDepth 100000 in
set_option maxHeartbeats 3200000 in
theorem hits_big (k n m N : Int) (last : Bool) (ao : Option Addr) (c : Nat) (hs : List Bool) (w : World) (hL : Lay w) (hb : Bs w (.slice ao hs.length c) hs) (h : (100 : Int) < (hs.length : Int)) :
    Calls Tryd.prog 4 #[AV ⟨k, n, m⟩, LV N last (.slice ao hs.length c)] w fun e w' => e = .returned (.bool true) ∧ Below w.heap.size w w' := by
  have HSH := Lib.hid (fun w1 (h : Below w.heap.size w w1) => shown_at w w1 hL h)
  have HM := Lib.hid (fun w' => may_any ⟨k, n, m⟩ ⟨0, 0, 0⟩ false w')
  have HF := Lib.hid (lh0 w ⟨k, n, m⟩ N last (.slice ao hs.length c))
  go_enter Tryd.func4, Tryd.ntmps4
  go_wp2_with (go_at_call 12; refine (HSH.out _ HF.out.2.2).mono ?_; rintro e w2 ⟨rfl, hb⟩; have HF2 := Lib.hid (Lh.below HF.out hb); clear hb)
  go_ret
  exact ⟨rfl, HF2.out.2.2⟩
set_option maxRecDepth 100000 in
set_option maxHeartbeats 3200000 in
theorem hits_neg (k n m N : Int) (last : Bool) (ao : Option Addr) (c : Nat) (hs : List Bool) (w : World) (hL : Lay w) (hb : Bs w (.slice ao hs.length c) hs) (h0 : ¬ (100 : Int) < (hs.length : Int)) (h : N < 0) :
    Calls Tryd.prog 4 #[AV ⟨k, n, m⟩, LV N last (.slice ao hs.length c)] w fun e w' => e = .returned (.bool true) ∧ Below w.heap.size w w' := by
  have HSH := Lib.hid (fun w1 (h : Below w.heap.size w w1) => shown_at w w1 hL h)
  have HM := Lib.hid (fun w' => may_any ⟨k, n, m⟩ ⟨0, 0, 0⟩ false w')
  have HF := Lib.hid (lh0 w ⟨k, n, m⟩ N last (.slice ao hs.length c))
  go_enter Tryd.func4, Tryd.ntmps4
  go_wp2_with (go_at_call 12; refine (HSH.out _ HF.out.2.2).mono ?_; rintro e w2 ⟨rfl, hb⟩; have HF2 := Lib.hid (Lh.below HF.out hb); clear hb)
  go_ret
  exact ⟨rfl, HF2.out.2.2⟩
set_option maxRecDepth 100000 in
set_option maxHeartbeats 3200000 in
theorem hits_far (k n m N : Int) (last : Bool) (ao : Option Addr) (c : Nat) (hs : List Bool) (w : World) (hL : Lay w) (hb : Bs w (.slice ao hs.length c) hs) (h0 : ¬ (100 : Int) < (hs.length : Int)) (h1 : ¬ N < 0) (h : 999999999 < N) :
    Calls Tryd.prog 4 #[AV ⟨k, n, m⟩, LV N last (.slice ao hs.length c)] w fun e w' => e = .returned (.bool true) ∧ Below w.heap.size w w' := by
  have HSH := Lib.hid (fun w1 (h : Below w.heap.size w w1) => shown_at w w1 hL h)
  have HM := Lib.hid (fun w' => may_any ⟨k, n, m⟩ ⟨0, 0, 0⟩ false w')
  have HF := Lib.hid (lh0 w ⟨k, n, m⟩ N last (.slice ao hs.length c))
  go_enter Tryd.func4, Tryd.ntmps4
  go_wp2_with (go_at_call 12; refine (HSH.out _ HF.out.2.2).mono ?_; rintro e w2 ⟨rfl, hb⟩; have HF2 := Lib.hid (Lh.below HF.out hb); clear hb)
  go_ret
  exact ⟨rfl, HF2.out.2.2⟩
set_option maxRecDepth 100000 in
set_option maxHeartbeats 3200000 in
theorem hits_bad (k n m N : Int) (last : Bool) (ao : Option Addr) (c : Nat) (hs : List Bool) (w : World) (hL : Lay w) (hb : Bs w (.slice ao hs.length c) hs) (h0 : ¬ (100 : Int) < (hs.length : Int)) (h1 : ¬ N < 0) (h2 : ¬ 999999999 < N) (hm : ¬ May ⟨k, n, m⟩ ⟨0, 0, 0⟩) (h5 : k ≠ 5) (h6 : k ≠ 6) :
    Calls Tryd.prog 4 #[AV ⟨k, n, m⟩, LV N last (.slice ao hs.length c)] w fun e w' => e = .returned (.bool true) ∧ Below w.heap.size w w' := by
  have HSH := Lib.hid (fun w1 (h : Below w.heap.size w w1) => shown_at w w1 hL h)
  have HM := Lib.hid (fun w' => may_any ⟨k, n, m⟩ ⟨0, 0, 0⟩ false w')
  have HF := Lib.hid (lh0 w ⟨k, n, m⟩ N last (.slice ao hs.length c))
  rw [decide_eq_false hm] at HM
  have e5 : (k != 5) = true := by rw [bne_iff_ne]; exact h5
  have e6 : (k != 6) = true := by rw [bne_iff_ne]; exact h6
  go_enter Tryd.func4, Tryd.ntmps4
  go_wp2_with (first
    | (go_at_call 18; refine (HM.out _).mono ?_; rintro e w1 ⟨rfl, hb⟩; have HF1 := Lib.hid (HF.out.below hb); clear hb; obtain ⟨⟨q0, q1, q2⟩, q3, q4, q5⟩ := HF1.out.cells)
    | (go_at_call 12; refine (HSH.out _ HF1.out.2.2).mono ?_; rintro e w2 ⟨rfl, hb⟩; have HF2 := Lib.hid (Lh.below HF1.out hb); clear hb))
  go_ret
  exact ⟨rfl, HF2.out.2.2⟩
set_option maxRecDepth 100000 in
set_option maxHeartbeats 3200000 in
theorem hits_may (k n m N : Int) (last : Bool) (ao : Option Addr) (c : Nat) (hs : List Bool) (w : World) (hL : Lay w) (hb : Bs w (.slice ao hs.length c) hs) (h0 : ¬ (100 : Int) < (hs.length : Int)) (h1 : ¬ N < 0) (h2 : ¬ 999999999 < N) (hm : May ⟨k, n, m⟩ ⟨0, 0, 0⟩) (hk : Ok ⟨k, n, m⟩ ⟨N, last, hs⟩) :
    Calls Tryd.prog 4 #[AV ⟨k, n, m⟩, LV N last (.slice ao hs.length c)] w fun e w' => e = .returned (.bool true) ∧ Below w.heap.size w w' := by
  have HSH := Lib.hid (fun w1 (h : Below w.heap.size w w1) => shown_at w w1 hL h)
  have HM := Lib.hid (fun w' => may_any ⟨k, n, m⟩ ⟨0, 0, 0⟩ false w')
  have HF := Lib.hid (lh0 w ⟨k, n, m⟩ N last (.slice ao hs.length c))
  rw [decide_eq_true hm] at HM
  have HA : Hid (∀ w', Below w.heap.size w w' → Calls Tryd.prog 20 #[AV ⟨k, n, m⟩, LV N last (.slice ao hs.length c)] w' fun e w2 => e = .returned (.bool (hits ⟨k, n, m⟩ ⟨N, last, hs⟩)) ∧ Below w'.heap.size w' w2) := Lib.hid (fun w' h => hits_any ⟨k, n, m⟩ ⟨N, last, hs⟩ ao c w' hk (hb.below h))
  have HB : Hid (∀ w', Below w.heap.size w w' → Calls Tryd.prog 21 #[AV ⟨k, n, m⟩, LV N last (.slice ao hs.length c)] w' fun e w2 => e = .returned (.bool (hits ⟨k, n, m⟩ ⟨N, last, hs⟩)) ∧ Below w'.heap.size w' w2) := Lib.hid (fun w' h => rhits_any ⟨k, n, m⟩ ⟨N, last, hs⟩ ao c w' hk (hb.below h))
  clear hk
  go_enter Tryd.func4, Tryd.ntmps4
  go_wp2_with (first
    | (go_at_call 18; refine (HM.out _).mono ?_; rintro e w1 ⟨rfl, hb⟩; have HF1 := Lib.hid (HF.out.below hb); clear hb; obtain ⟨⟨q0, q1, q2⟩, q3, q4, q5⟩ := HF1.out.cells)
    | (go_at_call 12; refine (HSH.out _ HF1.out.2.2).mono ?_; rintro e w2 ⟨rfl, hb⟩; have HF2 := Lib.hid (Lh.below HF1.out hb); clear hb))
  generalize hits ⟨k, n, m⟩ ⟨N, last, hs⟩ = x at *
  refine wp_region_noPanic ?_
  refine wp_region_held_drew (S := fun w' => Lh w ⟨k, n, m⟩ N last (.slice ao hs.length c) w') (by kernel_rfl) ?_ (fun hHeld => ?_)
  · (try dsimp only); exact HF2.out.below (Below.refl _ _).drew
  refine wpAnyH_take (i := 0) (oi := ?o0) (v := ?v0) ?hi0 (by kernel_rfl) (by kernel_rfl) (by kernel_rfl) (fun _ _ _ h => h) ?hy0 (by assumption) ?r0
  case hi0 => simp only [List.getElem?_toArray, List.getElem?_cons_succ, List.getElem?_cons_zero]; rfl
  case hy0 => exact Or.inl ⟨by rfl, by (intro w hSw; (try dsimp only at hSw); obtain ⟨⟨q0, q1, q2⟩, q3, q4, q5⟩ := hSw.cells; go_simp) <;> with_reducible rfl⟩
  try simp only [Act.put, List.setIfInBounds_toArray, List.set_cons_zero, List.set_cons_succ]
  refine wpAnyH_take (i := 1) (oi := ?o1) (v := ?v1) ?hi1 (by kernel_rfl) (by kernel_rfl) (by kernel_rfl) (fun _ _ _ h => h) ?hy1 (by assumption) ?r1
  case hi1 => simp only [List.getElem?_toArray, List.getElem?_cons_succ, List.getElem?_cons_zero]; rfl
  case hy1 => exact Or.inl ⟨by rfl, by (intro w hSw; (try dsimp only at hSw); obtain ⟨⟨q0, q1, q2⟩, q3, q4, q5⟩ := hSw.cells; go_simp) <;> with_reducible rfl⟩
  try simp only [Act.put, List.setIfInBounds_toArray, List.set_cons_zero, List.set_cons_succ]
  refine wpAnyH_take (i := 3) (oi := ?o3) (v := ?v3) ?hi3 (by kernel_rfl) (by kernel_rfl) (by kernel_rfl) (fun _ _ _ h => h) ?hy3 (by assumption) ?r3
  case hi3 => simp only [List.getElem?_toArray, List.getElem?_cons_succ, List.getElem?_cons_zero]; rfl
  case hy3 => exact Or.inl ⟨by rfl, by (intro w hSw; (try dsimp only at hSw); obtain ⟨⟨q0, q1, q2⟩, q3, q4, q5⟩ := hSw.cells; go_simp) <;> with_reducible rfl⟩
  try simp only [Act.put, List.setIfInBounds_toArray, List.set_cons_zero, List.set_cons_succ]
  refine wpAnyH_take (i := 5) (oi := ?o5) (v := ?v5) ?hi5 (by kernel_rfl) (by kernel_rfl) (by kernel_rfl) (fun _ _ _ h => h) ?hy5 (by assumption) ?r5
  case hi5 => simp only [List.getElem?_toArray, List.getElem?_cons_succ, List.getElem?_cons_zero]; rfl
  case hy5 => exact Or.inl ⟨by rfl, by (intro w hSw; (try dsimp only at hSw); obtain ⟨⟨q0, q1, q2⟩, q3, q4, q5⟩ := hSw.cells; go_simp) <;> with_reducible rfl⟩
  try simp only [Act.put, List.setIfInBounds_toArray, List.set_cons_zero, List.set_cons_succ]
  refine wpAnyH_ready (rs := [2]) (by kernel_rfl) (by simp) ?_
  refine AllReadyH.cons (o := ?o2) ?hi2 (fun K hK => ?st2) AllReadyH.nil
  case hi2 => simp only [List.getElem?_toArray, List.getElem?_cons_succ, List.getElem?_cons_zero]; rfl
  go_simp
  (go_at_call 20; refine (HA.out _ hHeld.2.2).mono ?_; rintro e w' ⟨rfl, hbl⟩)
  refine hK.out _ _ ?_ (fun hHeld => ?_)
  · (try dsimp only); (exact Lh.below hHeld hbl)
  clear hK K
  try simp only [Act.put, List.setIfInBounds_toArray, List.set_cons_zero, List.set_cons_succ]
  refine wpAnyH_ready (rs := [4]) (by kernel_rfl) (by simp) ?_
  refine AllReadyH.cons (o := ?o4) ?hi4 (fun K hK => ?st4) AllReadyH.nil
  case hi4 => simp only [List.getElem?_toArray, List.getElem?_cons_succ, List.getElem?_cons_zero]; rfl
  go_simp
  (go_at_call 22; refine (its_any ⟨k, n, m⟩ _).mono ?_; rintro e w' ⟨rfl, hbl⟩)
  refine hK.out _ _ ?_ (fun hHeld => ?_)
  · (try dsimp only); (exact Lh.below hHeld hbl)
  clear hK K
  try simp only [Act.put, List.setIfInBounds_toArray, List.set_cons_zero, List.set_cons_succ]
  refine wpAnyH_ready (rs := [6]) (by kernel_rfl) (by simp) ?_
  refine AllReadyH.cons (o := ?o6) ?hi6 (fun K hK => ?st6) AllReadyH.nil
  case hi6 => simp only [List.getElem?_toArray, List.getElem?_cons_succ, List.getElem?_cons_zero]; rfl
  go_simp
  (go_at_call 23; refine (line_any N last ao hs.length c _).mono ?_; rintro e w' ⟨rfl, hbl⟩)
  refine hK.out _ _ ?_ (fun hHeld => ?_)
  · (try dsimp only); (exact Lh.below hHeld hbl)
  clear hK K
  try simp only [Act.put, List.setIfInBounds_toArray, List.set_cons_zero, List.set_cons_succ]
  refine wpAnyH_ready (rs := [7]) (by kernel_rfl) (by simp) ?_
  refine AllReadyH.cons (o := ?o7) ?hi7 (fun K hK => ?st7) AllReadyH.nil
  case hi7 => simp only [List.getElem?_toArray, List.getElem?_cons_succ, List.getElem?_cons_zero]; rfl
  go_simp
  (go_at_call 21; refine (HB.out _ hHeld.2.2).mono ?_; rintro e w' ⟨rfl, hbl⟩)
  refine hK.out _ _ ?_ (fun hHeld => ?_)
  · (try dsimp only); (exact Lh.below hHeld hbl)
  clear hK K
  try simp only [Act.put, List.setIfInBounds_toArray, List.set_cons_zero, List.set_cons_succ]
  refine wpAnyH_take (i := 8) (oi := ?o8) (v := ?v8) ?hi8 (by kernel_rfl) (by kernel_rfl) (by kernel_rfl) (fun _ _ _ h => h) ?hy8 (by assumption) ?r8
  case hi8 => simp only [List.getElem?_toArray, List.getElem?_cons_succ, List.getElem?_cons_zero]; rfl
  case hy8 => exact Or.inl ⟨by rfl, by (intro w hSw; (try dsimp only at hSw); obtain ⟨⟨q0, q1, q2⟩, q3, q4, q5⟩ := hSw.cells; go_simp) <;> with_reducible rfl⟩
  try simp only [Act.put, List.setIfInBounds_toArray, List.set_cons_zero, List.set_cons_succ]
  refine wpAnyH_take (i := 9) (oi := ?o9) (v := ?v9) ?hi9 (by kernel_rfl) (by kernel_rfl) (by kernel_rfl) (fun _ _ _ h => h) ?hy9 (by assumption) ?r9
  case hi9 => simp only [List.getElem?_toArray, List.getElem?_cons_succ, List.getElem?_cons_zero]; rfl
  case hy9 => exact Or.inl ⟨by rfl, by (intro w hSw; (try dsimp only at hSw); obtain ⟨⟨q0, q1, q2⟩, q3, q4, q5⟩ := hSw.cells; go_simp) <;> with_reducible rfl⟩
  try simp only [Act.put, List.setIfInBounds_toArray, List.set_cons_zero, List.set_cons_succ]
  refine wpAnyH_done (by kernel_rfl) ?_ _
  refine NoPanic.normal ?_
  go_wp2
  go_ret
  exact ⟨ret1 (by simp), hHeld.2.2⟩
set_option maxRecDepth 100000 in
set_option maxHeartbeats 3200000 in
theorem hits_plus (n m N : Int) (last : Bool) (ao : Option Addr) (c : Nat) (hs : List Bool) (w : World) (hL : Lay w) (hb : Bs w (.slice ao hs.length c) hs) (h0 : ¬ (100 : Int) < (hs.length : Int)) (h1 : ¬ N < 0) (h2 : ¬ 999999999 < N) (hm : ¬ May ⟨5, n, m⟩ ⟨0, 0, 0⟩) (hk : Ok ⟨5, n, m⟩ ⟨N, last, hs⟩) :
    Calls Tryd.prog 4 #[AV ⟨5, n, m⟩, LV N last (.slice ao hs.length c)] w fun e w' => e = .returned (.bool true) ∧ Below w.heap.size w w' := by
  have HSH := Lib.hid (fun w1 (h : Below w.heap.size w w1) => shown_at w w1 hL h)
  have HM := Lib.hid (fun w' => may_any ⟨5, n, m⟩ ⟨0, 0, 0⟩ false w')
  have HF := Lib.hid (lh0 w ⟨5, n, m⟩ N last (.slice ao hs.length c))
  rw [decide_eq_false hm] at HM
  have HA : Hid (∀ w', Below w.heap.size w w' → Calls Tryd.prog 20 #[AV ⟨5, n, m⟩, LV N last (.slice ao hs.length c)] w' fun e w2 => e = .returned (.bool (hits ⟨5, n, m⟩ ⟨N, last, hs⟩)) ∧ Below w'.heap.size w' w2) := Lib.hid (fun w' h => hits_any ⟨5, n, m⟩ ⟨N, last, hs⟩ ao c w' hk (hb.below h))
  have HB : Hid (∀ w', Below w.heap.size w w' → Calls Tryd.prog 21 #[AV ⟨5, n, m⟩, LV N last (.slice ao hs.length c)] w' fun e w2 => e = .returned (.bool (hits ⟨5, n, m⟩ ⟨N, last, hs⟩)) ∧ Below w'.heap.size w' w2) := Lib.hid (fun w' h => rhits_any ⟨5, n, m⟩ ⟨N, last, hs⟩ ao c w' hk (hb.below h))
  clear hk
  go_enter Tryd.func4, Tryd.ntmps4
  go_wp2_with (first
    | (go_at_call 18; refine (HM.out _).mono ?_; rintro e w1 ⟨rfl, hb⟩; have HF1 := Lib.hid (HF.out.below hb); clear hb; obtain ⟨⟨q0, q1, q2⟩, q3, q4, q5⟩ := HF1.out.cells)
    | (go_at_call 12; refine (HSH.out _ HF1.out.2.2).mono ?_; rintro e w2 ⟨rfl, hb⟩; have HF2 := Lib.hid (Lh.below HF1.out hb); clear hb))
  generalize hits ⟨5, n, m⟩ ⟨N, last, hs⟩ = x at *
  refine wp_region_noPanic ?_
  refine wp_region_held_drew (S := fun w' => Lh w ⟨5, n, m⟩ N last (.slice ao hs.length c) w') (by kernel_rfl) ?_ (fun hHeld => ?_)
  · (try dsimp only); exact HF2.out.below (Below.refl _ _).drew
  refine wpAnyH_take (i := 0) (oi := ?o0) (v := ?v0) ?hi0 (by kernel_rfl) (by kernel_rfl) (by kernel_rfl) (fun _ _ _ h => h) ?hy0 (by assumption) ?r0
  case hi0 => simp only [List.getElem?_toArray, List.getElem?_cons_succ, List.getElem?_cons_zero]; rfl
  case hy0 => exact Or.inl ⟨by rfl, by (intro w hSw; (try dsimp only at hSw); obtain ⟨⟨q0, q1, q2⟩, q3, q4, q5⟩ := hSw.cells; go_simp) <;> with_reducible rfl⟩
  try simp only [Act.put, List.setIfInBounds_toArray, List.set_cons_zero, List.set_cons_succ]
  refine wpAnyH_take (i := 1) (oi := ?o1) (v := ?v1) ?hi1 (by kernel_rfl) (by kernel_rfl) (by kernel_rfl) (fun _ _ _ h => h) ?hy1 (by assumption) ?r1
  case hi1 => simp only [List.getElem?_toArray, List.getElem?_cons_succ, List.getElem?_cons_zero]; rfl
  case hy1 => exact Or.inl ⟨by rfl, by (intro w hSw; (try dsimp only at hSw); obtain ⟨⟨q0, q1, q2⟩, q3, q4, q5⟩ := hSw.cells; go_simp) <;> with_reducible rfl⟩
  try simp only [Act.put, List.setIfInBounds_toArray, List.set_cons_zero, List.set_cons_succ]
  refine wpAnyH_take (i := 3) (oi := ?o3) (v := ?v3) ?hi3 (by kernel_rfl) (by kernel_rfl) (by kernel_rfl) (fun _ _ _ h => h) ?hy3 (by assumption) ?r3
  case hi3 => simp only [List.getElem?_toArray, List.getElem?_cons_succ, List.getElem?_cons_zero]; rfl
  case hy3 => exact Or.inl ⟨by rfl, by (intro w hSw; (try dsimp only at hSw); obtain ⟨⟨q0, q1, q2⟩, q3, q4, q5⟩ := hSw.cells; go_simp) <;> with_reducible rfl⟩
  try simp only [Act.put, List.setIfInBounds_toArray, List.set_cons_zero, List.set_cons_succ]
  refine wpAnyH_take (i := 5) (oi := ?o5) (v := ?v5) ?hi5 (by kernel_rfl) (by kernel_rfl) (by kernel_rfl) (fun _ _ _ h => h) ?hy5 (by assumption) ?r5
  case hi5 => simp only [List.getElem?_toArray, List.getElem?_cons_succ, List.getElem?_cons_zero]; rfl
  case hy5 => exact Or.inl ⟨by rfl, by (intro w hSw; (try dsimp only at hSw); obtain ⟨⟨q0, q1, q2⟩, q3, q4, q5⟩ := hSw.cells; go_simp) <;> with_reducible rfl⟩
  try simp only [Act.put, List.setIfInBounds_toArray, List.set_cons_zero, List.set_cons_succ]
  refine wpAnyH_ready (rs := [2]) (by kernel_rfl) (by simp) ?_
  refine AllReadyH.cons (o := ?o2) ?hi2 (fun K hK => ?st2) AllReadyH.nil
  case hi2 => simp only [List.getElem?_toArray, List.getElem?_cons_succ, List.getElem?_cons_zero]; rfl
  go_simp
  (go_at_call 20; refine (HA.out _ hHeld.2.2).mono ?_; rintro e w' ⟨rfl, hbl⟩)
  refine hK.out _ _ ?_ (fun hHeld => ?_)
  · (try dsimp only); (exact Lh.below hHeld hbl)
  clear hK K
  try simp only [Act.put, List.setIfInBounds_toArray, List.set_cons_zero, List.set_cons_succ]
  refine wpAnyH_ready (rs := [4]) (by kernel_rfl) (by simp) ?_
  refine AllReadyH.cons (o := ?o4) ?hi4 (fun K hK => ?st4) AllReadyH.nil
  case hi4 => simp only [List.getElem?_toArray, List.getElem?_cons_succ, List.getElem?_cons_zero]; rfl
  go_simp
  (go_at_call 22; refine (its_any ⟨5, n, m⟩ _).mono ?_; rintro e w' ⟨rfl, hbl⟩)
  refine hK.out _ _ ?_ (fun hHeld => ?_)
  · (try dsimp only); (exact Lh.below hHeld hbl)
  clear hK K
  try simp only [Act.put, List.setIfInBounds_toArray, List.set_cons_zero, List.set_cons_succ]
  refine wpAnyH_ready (rs := [6]) (by kernel_rfl) (by simp) ?_
  refine AllReadyH.cons (o := ?o6) ?hi6 (fun K hK => ?st6) AllReadyH.nil
  case hi6 => simp only [List.getElem?_toArray, List.getElem?_cons_succ, List.getElem?_cons_zero]; rfl
  go_simp
  (go_at_call 23; refine (line_any N last ao hs.length c _).mono ?_; rintro e w' ⟨rfl, hbl⟩)
  refine hK.out _ _ ?_ (fun hHeld => ?_)
  · (try dsimp only); (exact Lh.below hHeld hbl)
  clear hK K
  try simp only [Act.put, List.setIfInBounds_toArray, List.set_cons_zero, List.set_cons_succ]
  refine wpAnyH_ready (rs := [7]) (by kernel_rfl) (by simp) ?_
  refine AllReadyH.cons (o := ?o7) ?hi7 (fun K hK => ?st7) AllReadyH.nil
  case hi7 => simp only [List.getElem?_toArray, List.getElem?_cons_succ, List.getElem?_cons_zero]; rfl
  go_simp
  (go_at_call 21; refine (HB.out _ hHeld.2.2).mono ?_; rintro e w' ⟨rfl, hbl⟩)
  refine hK.out _ _ ?_ (fun hHeld => ?_)
  · (try dsimp only); (exact Lh.below hHeld hbl)
  clear hK K
  try simp only [Act.put, List.setIfInBounds_toArray, List.set_cons_zero, List.set_cons_succ]
  refine wpAnyH_take (i := 8) (oi := ?o8) (v := ?v8) ?hi8 (by kernel_rfl) (by kernel_rfl) (by kernel_rfl) (fun _ _ _ h => h) ?hy8 (by assumption) ?r8
  case hi8 => simp only [List.getElem?_toArray, List.getElem?_cons_succ, List.getElem?_cons_zero]; rfl
  case hy8 => exact Or.inl ⟨by rfl, by (intro w hSw; (try dsimp only at hSw); obtain ⟨⟨q0, q1, q2⟩, q3, q4, q5⟩ := hSw.cells; go_simp) <;> with_reducible rfl⟩
  try simp only [Act.put, List.setIfInBounds_toArray, List.set_cons_zero, List.set_cons_succ]
  refine wpAnyH_take (i := 9) (oi := ?o9) (v := ?v9) ?hi9 (by kernel_rfl) (by kernel_rfl) (by kernel_rfl) (fun _ _ _ h => h) ?hy9 (by assumption) ?r9
  case hi9 => simp only [List.getElem?_toArray, List.getElem?_cons_succ, List.getElem?_cons_zero]; rfl
  case hy9 => exact Or.inl ⟨by rfl, by (intro w hSw; (try dsimp only at hSw); obtain ⟨⟨q0, q1, q2⟩, q3, q4, q5⟩ := hSw.cells; go_simp) <;> with_reducible rfl⟩
  try simp only [Act.put, List.setIfInBounds_toArray, List.set_cons_zero, List.set_cons_succ]
  refine wpAnyH_done (by kernel_rfl) ?_ _
  refine NoPanic.normal ?_
  go_wp2
  go_ret
  exact ⟨ret1 (by simp), hHeld.2.2⟩
set_option maxRecDepth 100000 in
set_option maxHeartbeats 3200000 in
theorem hits_round (n m N : Int) (last : Bool) (ao : Option Addr) (c : Nat) (hs : List Bool) (w : World) (hL : Lay w) (hb : Bs w (.slice ao hs.length c) hs) (h0 : ¬ (100 : Int) < (hs.length : Int)) (h1 : ¬ N < 0) (h2 : ¬ 999999999 < N) (hm : ¬ May ⟨6, n, m⟩ ⟨0, 0, 0⟩) (hk : Ok ⟨6, n, m⟩ ⟨N, last, hs⟩) :
    Calls Tryd.prog 4 #[AV ⟨6, n, m⟩, LV N last (.slice ao hs.length c)] w fun e w' => e = .returned (.bool true) ∧ Below w.heap.size w w' := by
  have HSH := Lib.hid (fun w1 (h : Below w.heap.size w w1) => shown_at w w1 hL h)
  have HM := Lib.hid (fun w' => may_any ⟨6, n, m⟩ ⟨0, 0, 0⟩ false w')
  have HF := Lib.hid (lh0 w ⟨6, n, m⟩ N last (.slice ao hs.length c))
  rw [decide_eq_false hm] at HM
  have HA : Hid (∀ w', Below w.heap.size w w' → Calls Tryd.prog 20 #[AV ⟨6, n, m⟩, LV N last (.slice ao hs.length c)] w' fun e w2 => e = .returned (.bool (hits ⟨6, n, m⟩ ⟨N, last, hs⟩)) ∧ Below w'.heap.size w' w2) := Lib.hid (fun w' h => hits_any ⟨6, n, m⟩ ⟨N, last, hs⟩ ao c w' hk (hb.below h))
  have HB : Hid (∀ w', Below w.heap.size w w' → Calls Tryd.prog 21 #[AV ⟨6, n, m⟩, LV N last (.slice ao hs.length c)] w' fun e w2 => e = .returned (.bool (hits ⟨6, n, m⟩ ⟨N, last, hs⟩)) ∧ Below w'.heap.size w' w2) := Lib.hid (fun w' h => rhits_any ⟨6, n, m⟩ ⟨N, last, hs⟩ ao c w' hk (hb.below h))
  clear hk
  go_enter Tryd.func4, Tryd.ntmps4
  go_wp2_with (first
    | (go_at_call 18; refine (HM.out _).mono ?_; rintro e w1 ⟨rfl, hb⟩; have HF1 := Lib.hid (HF.out.below hb); clear hb; obtain ⟨⟨q0, q1, q2⟩, q3, q4, q5⟩ := HF1.out.cells)
    | (go_at_call 12; refine (HSH.out _ HF1.out.2.2).mono ?_; rintro e w2 ⟨rfl, hb⟩; have HF2 := Lib.hid (Lh.below HF1.out hb); clear hb))
  generalize hits ⟨6, n, m⟩ ⟨N, last, hs⟩ = x at *
  refine wp_region_noPanic ?_
  refine wp_region_held_drew (S := fun w' => Lh w ⟨6, n, m⟩ N last (.slice ao hs.length c) w') (by kernel_rfl) ?_ (fun hHeld => ?_)
  · (try dsimp only); exact HF2.out.below (Below.refl _ _).drew
  refine wpAnyH_take (i := 0) (oi := ?o0) (v := ?v0) ?hi0 (by kernel_rfl) (by kernel_rfl) (by kernel_rfl) (fun _ _ _ h => h) ?hy0 (by assumption) ?r0
  case hi0 => simp only [List.getElem?_toArray, List.getElem?_cons_succ, List.getElem?_cons_zero]; rfl
  case hy0 => exact Or.inl ⟨by rfl, by (intro w hSw; (try dsimp only at hSw); obtain ⟨⟨q0, q1, q2⟩, q3, q4, q5⟩ := hSw.cells; go_simp) <;> with_reducible rfl⟩
  try simp only [Act.put, List.setIfInBounds_toArray, List.set_cons_zero, List.set_cons_succ]
  refine wpAnyH_take (i := 1) (oi := ?o1) (v := ?v1) ?hi1 (by kernel_rfl) (by kernel_rfl) (by kernel_rfl) (fun _ _ _ h => h) ?hy1 (by assumption) ?r1
  case hi1 => simp only [List.getElem?_toArray, List.getElem?_cons_succ, List.getElem?_cons_zero]; rfl
  case hy1 => exact Or.inl ⟨by rfl, by (intro w hSw; (try dsimp only at hSw); obtain ⟨⟨q0, q1, q2⟩, q3, q4, q5⟩ := hSw.cells; go_simp) <;> with_reducible rfl⟩
  try simp only [Act.put, List.setIfInBounds_toArray, List.set_cons_zero, List.set_cons_succ]
  refine wpAnyH_take (i := 3) (oi := ?o3) (v := ?v3) ?hi3 (by kernel_rfl) (by kernel_rfl) (by kernel_rfl) (fun _ _ _ h => h) ?hy3 (by assumption) ?r3
  case hi3 => simp only [List.getElem?_toArray, List.getElem?_cons_succ, List.getElem?_cons_zero]; rfl
  case hy3 => exact Or.inl ⟨by rfl, by (intro w hSw; (try dsimp only at hSw); obtain ⟨⟨q0, q1, q2⟩, q3, q4, q5⟩ := hSw.cells; go_simp) <;> with_reducible rfl⟩
  try simp only [Act.put, List.setIfInBounds_toArray, List.set_cons_zero, List.set_cons_succ]
  refine wpAnyH_take (i := 5) (oi := ?o5) (v := ?v5) ?hi5 (by kernel_rfl) (by kernel_rfl) (by kernel_rfl) (fun _ _ _ h => h) ?hy5 (by assumption) ?r5
  case hi5 => simp only [List.getElem?_toArray, List.getElem?_cons_succ, List.getElem?_cons_zero]; rfl
  case hy5 => exact Or.inl ⟨by rfl, by (intro w hSw; (try dsimp only at hSw); obtain ⟨⟨q0, q1, q2⟩, q3, q4, q5⟩ := hSw.cells; go_simp) <;> with_reducible rfl⟩
  try simp only [Act.put, List.setIfInBounds_toArray, List.set_cons_zero, List.set_cons_succ]
  refine wpAnyH_ready (rs := [2]) (by kernel_rfl) (by simp) ?_
  refine AllReadyH.cons (o := ?o2) ?hi2 (fun K hK => ?st2) AllReadyH.nil
  case hi2 => simp only [List.getElem?_toArray, List.getElem?_cons_succ, List.getElem?_cons_zero]; rfl
  go_simp
  (go_at_call 20; refine (HA.out _ hHeld.2.2).mono ?_; rintro e w' ⟨rfl, hbl⟩)
  refine hK.out _ _ ?_ (fun hHeld => ?_)
  · (try dsimp only); (exact Lh.below hHeld hbl)
  clear hK K
  try simp only [Act.put, List.setIfInBounds_toArray, List.set_cons_zero, List.set_cons_succ]
  refine wpAnyH_ready (rs := [4]) (by kernel_rfl) (by simp) ?_
  refine AllReadyH.cons (o := ?o4) ?hi4 (fun K hK => ?st4) AllReadyH.nil
  case hi4 => simp only [List.getElem?_toArray, List.getElem?_cons_succ, List.getElem?_cons_zero]; rfl
  go_simp
  (go_at_call 22; refine (its_any ⟨6, n, m⟩ _).mono ?_; rintro e w' ⟨rfl, hbl⟩)
  refine hK.out _ _ ?_ (fun hHeld => ?_)
  · (try dsimp only); (exact Lh.below hHeld hbl)
  clear hK K
  try simp only [Act.put, List.setIfInBounds_toArray, List.set_cons_zero, List.set_cons_succ]
  refine wpAnyH_ready (rs := [6]) (by kernel_rfl) (by simp) ?_
  refine AllReadyH.cons (o := ?o6) ?hi6 (fun K hK => ?st6) AllReadyH.nil
  case hi6 => simp only [List.getElem?_toArray, List.getElem?_cons_succ, List.getElem?_cons_zero]; rfl
  go_simp
  (go_at_call 23; refine (line_any N last ao hs.length c _).mono ?_; rintro e w' ⟨rfl, hbl⟩)
  refine hK.out _ _ ?_ (fun hHeld => ?_)
  · (try dsimp only); (exact Lh.below hHeld hbl)
  clear hK K
  try simp only [Act.put, List.setIfInBounds_toArray, List.set_cons_zero, List.set_cons_succ]
  refine wpAnyH_ready (rs := [7]) (by kernel_rfl) (by simp) ?_
  refine AllReadyH.cons (o := ?o7) ?hi7 (fun K hK => ?st7) AllReadyH.nil
  case hi7 => simp only [List.getElem?_toArray, List.getElem?_cons_succ, List.getElem?_cons_zero]; rfl
  go_simp
  (go_at_call 21; refine (HB.out _ hHeld.2.2).mono ?_; rintro e w' ⟨rfl, hbl⟩)
  refine hK.out _ _ ?_ (fun hHeld => ?_)
  · (try dsimp only); (exact Lh.below hHeld hbl)
  clear hK K
  try simp only [Act.put, List.setIfInBounds_toArray, List.set_cons_zero, List.set_cons_succ]
  refine wpAnyH_take (i := 8) (oi := ?o8) (v := ?v8) ?hi8 (by kernel_rfl) (by kernel_rfl) (by kernel_rfl) (fun _ _ _ h => h) ?hy8 (by assumption) ?r8
  case hi8 => simp only [List.getElem?_toArray, List.getElem?_cons_succ, List.getElem?_cons_zero]; rfl
  case hy8 => exact Or.inl ⟨by rfl, by (intro w hSw; (try dsimp only at hSw); obtain ⟨⟨q0, q1, q2⟩, q3, q4, q5⟩ := hSw.cells; go_simp) <;> with_reducible rfl⟩
  try simp only [Act.put, List.setIfInBounds_toArray, List.set_cons_zero, List.set_cons_succ]
  refine wpAnyH_take (i := 9) (oi := ?o9) (v := ?v9) ?hi9 (by kernel_rfl) (by kernel_rfl) (by kernel_rfl) (fun _ _ _ h => h) ?hy9 (by assumption) ?r9
  case hi9 => simp only [List.getElem?_toArray, List.getElem?_cons_succ, List.getElem?_cons_zero]; rfl
  case hy9 => exact Or.inl ⟨by rfl, by (intro w hSw; (try dsimp only at hSw); obtain ⟨⟨q0, q1, q2⟩, q3, q4, q5⟩ := hSw.cells; go_simp) <;> with_reducible rfl⟩
  try simp only [Act.put, List.setIfInBounds_toArray, List.set_cons_zero, List.set_cons_succ]
  refine wpAnyH_done (by kernel_rfl) ?_ _
  refine NoPanic.normal ?_
  go_wp2
  go_ret
  exact ⟨ret1 (by simp), hHeld.2.2⟩
theorem addrHits_walk (W : World) (hL : Lay W) (a : A3) (N : Int) (last : Bool) (ao : Option Addr) (c : Nat) (hs : List Bool) (w1 : wfI N) (m1 : hs.length ≤ maxLen) (hb : Bs W (.slice ao hs.length c) hs) :
    Calls Tryd.prog 4 #[AV a, LV N last (.slice ao hs.length c)] W fun e w' => e = .returned (.bool true) ∧ Below W.heap.size W w' := by
  obtain ⟨k, n, m⟩ := a
  by_cases h0 : (100 : Int) < (hs.length : Int)
  · exact hits_big k n m N last ao c hs W hL hb h0
  by_cases h1 : N < 0
  · exact hits_neg k n m N last ao c hs W hL hb h0 h1
  by_cases h2 : 999999999 < N
  · exact hits_far k n m N last ao c hs W hL hb h0 h1 h2
  by_cases hm : May ⟨k, n, m⟩ ⟨0, 0, 0⟩
  · exact hits_may k n m N last ao c hs W hL hb h0 h1 h2 hm ⟨fun q => by have h := hm.1; unfold One at h; dsimp only at h q ⊢; omega, by dsimp only; omega, by dsimp only; omega⟩
  by_cases h5 : k = 5
  · subst h5; exact hits_plus n m N last ao c hs W hL hb h0 h1 h2 hm ⟨fun q => by simp at q, by dsimp only; omega, by dsimp only; omega⟩
  by_cases h6 : k = 6
  · subst h6; exact hits_round n m N last ao c hs W hL hb h0 h1 h2 hm ⟨fun q => by simp at q, by dsimp only; omega, by dsimp only; omega⟩
  · exact hits_bad k n m N last ao c hs W hL hb h0 h1 h2 hm h5 h6
end Go.Proofs.YtcijhfdccbgcpaaDoor.Ad
