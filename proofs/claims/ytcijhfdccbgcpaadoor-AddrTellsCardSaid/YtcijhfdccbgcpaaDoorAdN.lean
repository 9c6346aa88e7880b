/- The reference's natural, Digits, number, one, May: the walks. -/
import Derived.Test.YtcijhfdccbgcpaaDoorAdK3
namespace Go.Proofs.YtcijhfdccbgcpaaDoor.Ad
open Go.RowKit Go.Shelf
set_option linter.unusedVariables false
set_option linter.unusedSimpArgs false
theorem digit_cut : ∀ d : Nat, d < 10 → ((⟨#[48, 49, 50, 51, 52, 53, 54, 55, 56, 57]⟩ : ByteArray).extract d (d + 1)) = ⟨#[UInt8.ofNat (48 + d)]⟩ := by decide
theorem dec_small {u : Nat} (h : u < 10) : Lib.decDigits u = [UInt8.ofNat (48 + u)] := by rw [Lib.decDigits, dif_pos h]
theorem dec_more {u : Nat} (h : ¬ u < 10) : Lib.decDigits u = Lib.decDigits (u / 10) ++ [UInt8.ofNat (48 + u % 10)] := by rw [Lib.decDigits, dif_neg h]
theorem dec_len2 (u : Nat) (h : u ≤ 99999999999) : (Lib.decDigits u).length ≤ 12 := by
  have k : ∀ (n : Nat) (u : Nat), u < 10 ^ (n + 1) → (Lib.decDigits u).length ≤ n + 1 := by
    intro n
    induction n with
    | zero => intro u hu; rw [Lib.decDigits, dif_pos (by simpa using hu)]; simp
    | succ n ih =>
      intro u hu
      rw [Lib.decDigits]
      by_cases h2 : u < 10
      · rw [dif_pos h2]; simp
      · rw [dif_neg h2]
        have := ih (u / 10) (by rw [Nat.pow_succ] at hu; omega)
        simp; omega
  exact k 11 u (by omega)
abbrev U (n : Nat) : Value := .int .u64 (n : Int)
set_option maxRecDepth 100000 in
set_option maxHeartbeats 1600000 in
theorem nat_any (u : Nat) : ∀ (w : World), u ≤ 99999999999 → Calls Tryd.prog 52 #[U u] w fun e w' => e = .returned (S (Lib.decDigits u)) ∧ Below w.heap.size w w' := by
  induction u using Nat.strongRecOn with
  | ind u ih =>
  intro w hu
  by_cases h : u < 10
  · have hO := dec_small h
    have e1 := digit_cut u h
    generalize UInt8.ofNat (48 + u) = b at *
    have HO := Lib.hid hO
    clear hO
    have h1 : (u : Int) < 10 := by omega
    have h2 : (0 : Int) ≤ (u : Int) := by omega
    have h3 : (u : Int) + 1 ≤ 10 := by omega
    have h4 : ((u : Int) + 1).toNat = u + 1 := by omega
    have h5 : IntKind.u64.wrap ((u : Int) + 1) = (u : Int) + 1 := by rw [IntKind.wrap_u64]; omega
    go_enter Tryd.func52, Tryd.ntmps52
    go_wp2
    go_ret
    exact ⟨by rw [HO.out]; exact ret1 rfl, Below.refl _ _⟩
  · have HO := Lib.hid (dec_more h)
    have HI := Lib.hid (fun w' => ih (u / 10) (by omega) w' (by omega))
    have hlq := dec_len2 (u / 10) (by omega)
    have hq2 : (u : Int).tdiv 10 = ((u / 10 : Nat) : Int) := by rw [Int.tdiv_eq_ediv_of_nonneg (by omega)]; omega
    have hr2 : (u : Int).tmod 10 = ((u % 10 : Nat) : Int) := by rw [Int.tmod_eq_emod_of_nonneg (by omega)]; omega
    have hq : (u : Int) / 10 = ((u / 10 : Nat) : Int) := by omega
    have hr : (u : Int) % 10 = ((u % 10 : Nat) : Int) := by omega
    have hd : u % 10 < 10 := Nat.mod_lt _ (by omega)
    have h1 : ¬ (u : Int) < 10 := by omega
    have e1 := digit_cut (u % 10) hd
    clear ih
    generalize u / 10 = q at *
    generalize u % 10 = d at *
    have h3 : (d : Int) + 1 ≤ 10 := by omega
    have h4 : ((d : Int) + 1).toNat = d + 1 := by omega
    have h5 : IntKind.u64.wrap ((d : Int) + 1) = (d : Int) + 1 := by rw [IntKind.wrap_u64]; omega
    have h6 : IntKind.u64.wrap ((q : Nat) : Int) = (q : Int) := by rw [IntKind.wrap_u64]; omega
    have h7 : IntKind.u64.wrap ((d : Nat) : Int) = (d : Int) := by rw [IntKind.wrap_u64]; omega
    have h8 : (0 : Int) ≤ (d : Int) + 1 := by omega
    have h9 : (d : Int) ≤ (d : Int) + 1 := by omega
    have c1 := fun w => run_string_add_lists (P := Tryd.prog) w (Lib.decDigits q) [UInt8.ofNat (48 + d)] (by omega) (by simp)
    generalize Lib.decDigits q = x at *
    generalize UInt8.ofNat (48 + d) = b at *
    go_enter Tryd.func52, Tryd.ntmps52
    go_wp2
    refine wp_region_noPanic ?_
    refine wp_region_held_drew (S := fun w' => Below w.heap.size w w') (by kernel_rfl) ?_ (fun hHeld => ?_)
    · (try dsimp only); exact (Below.refl _ _).drew
    refine wpAnyH_take (i := 0) (oi := ?o0) (v := ?v0) ?hi0 (by kernel_rfl) (by kernel_rfl) (by kernel_rfl) (fun _ _ _ h => h) ?hy0 (by assumption) ?r0
    case hi0 => simp only [List.getElem?_toArray, List.getElem?_cons_succ, List.getElem?_cons_zero]; rfl
    case hy0 => exact Or.inl ⟨by rfl, by (intro w hSw; (try dsimp only at hSw); go_simp) <;> with_reducible rfl⟩
    try simp only [Act.put, List.setIfInBounds_toArray, List.set_cons_zero, List.set_cons_succ]
    refine wpAnyH_take (i := 1) (oi := ?o1) (v := ?v1) ?hi1 (by kernel_rfl) (by kernel_rfl) (by kernel_rfl) (fun _ _ _ h => h) ?hy1 (by assumption) ?r1
    case hi1 => simp only [List.getElem?_toArray, List.getElem?_cons_succ, List.getElem?_cons_zero]; rfl
    case hy1 => exact Or.inl ⟨by rfl, by (intro w hSw; (try dsimp only at hSw); go_simp) <;> with_reducible rfl⟩
    try simp only [Act.put, List.setIfInBounds_toArray, List.set_cons_zero, List.set_cons_succ]
    refine wpAnyH_take (i := 3) (oi := ?o3) (v := ?v3) ?hi3 (by kernel_rfl) (by kernel_rfl) (by kernel_rfl) (fun _ _ _ h => h) ?hy3 (by assumption) ?r3
    case hi3 => simp only [List.getElem?_toArray, List.getElem?_cons_succ, List.getElem?_cons_zero]; rfl
    case hy3 => exact Or.inl ⟨by rfl, by (intro w hSw; (try dsimp only at hSw); go_simp) <;> with_reducible rfl⟩
    try simp only [Act.put, List.setIfInBounds_toArray, List.set_cons_zero, List.set_cons_succ]
    refine wpAnyH_take (i := 4) (oi := ?o4) (v := ?v4) ?hi4 (by kernel_rfl) (by kernel_rfl) (by kernel_rfl) (fun _ _ _ h => h) ?hy4 (by assumption) ?r4
    case hi4 => simp only [List.getElem?_toArray, List.getElem?_cons_succ, List.getElem?_cons_zero]; rfl
    case hy4 => exact Or.inl ⟨by rfl, by (intro w hSw; (try dsimp only at hSw); go_simp) <;> with_reducible rfl⟩
    try simp only [Act.put, List.setIfInBounds_toArray, List.set_cons_zero, List.set_cons_succ]
    refine wpAnyH_take (i := 5) (oi := ?o5) (v := ?v5) ?hi5 (by kernel_rfl) (by kernel_rfl) (by kernel_rfl) (fun _ _ _ h => h) ?hy5 (by assumption) ?r5
    case hi5 => simp only [List.getElem?_toArray, List.getElem?_cons_succ, List.getElem?_cons_zero]; rfl
    case hy5 => exact Or.inl ⟨by rfl, by (intro w hSw; (try dsimp only at hSw); go_simp) <;> with_reducible rfl⟩
    try simp only [Act.put, List.setIfInBounds_toArray, List.set_cons_zero, List.set_cons_succ]
    refine wpAnyH_take (i := 6) (oi := ?o6) (v := ?v6) ?hi6 (by kernel_rfl) (by kernel_rfl) (by kernel_rfl) (fun _ _ _ h => h) ?hy6 (by assumption) ?r6
    case hi6 => simp only [List.getElem?_toArray, List.getElem?_cons_succ, List.getElem?_cons_zero]; rfl
    case hy6 => exact Or.inl ⟨by rfl, by (intro w hSw; (try dsimp only at hSw); go_simp) <;> with_reducible rfl⟩
    try simp only [Act.put, List.setIfInBounds_toArray, List.set_cons_zero, List.set_cons_succ]
    refine wpAnyH_take (i := 7) (oi := ?o7) (v := ?v7) ?hi7 (by kernel_rfl) (by kernel_rfl) (by kernel_rfl) (fun _ _ _ h => h) ?hy7 (by assumption) ?r7
    case hi7 => simp only [List.getElem?_toArray, List.getElem?_cons_succ, List.getElem?_cons_zero]; rfl
    case hy7 => exact Or.inl ⟨by rfl, by (intro w hSw; (try dsimp only at hSw); go_simp) <;> with_reducible rfl⟩
    try simp only [Act.put, List.setIfInBounds_toArray, List.set_cons_zero, List.set_cons_succ]
    refine wpAnyH_take (i := 8) (oi := ?o8) (v := ?v8) ?hi8 (by kernel_rfl) (by kernel_rfl) (by kernel_rfl) (fun _ _ _ h => h) ?hy8 (by assumption) ?r8
    case hi8 => simp only [List.getElem?_toArray, List.getElem?_cons_succ, List.getElem?_cons_zero]; rfl
    case hy8 => exact Or.inl ⟨by rfl, by (intro w hSw; (try dsimp only at hSw); go_simp) <;> with_reducible rfl⟩
    try simp only [Act.put, List.setIfInBounds_toArray, List.set_cons_zero, List.set_cons_succ]
    refine wpAnyH_ready (rs := [2]) (by kernel_rfl) (by simp) ?_
    refine AllReadyH.cons (o := ?o2) ?hi2 (fun K hK => ?st2) AllReadyH.nil
    case hi2 => simp only [List.getElem?_toArray, List.getElem?_cons_succ, List.getElem?_cons_zero]; rfl
    go_simp
    (go_at_call 52; refine (HI.out _).mono ?_; rintro e w' ⟨rfl, hbl⟩)
    refine hK.out _ _ ?_ (fun hHeld => ?_)
    · (try dsimp only); (exact hHeld.trans (hbl.mono hHeld.size))
    clear hK K
    try simp only [Act.put, List.setIfInBounds_toArray, List.set_cons_zero, List.set_cons_succ]
    refine wpAnyH_take (i := 9) (oi := ?o9) (v := ?v9) ?hi9 (by kernel_rfl) (by kernel_rfl) (by kernel_rfl) (fun _ _ _ h => h) ?hy9 (by assumption) ?r9
    case hi9 => simp only [List.getElem?_toArray, List.getElem?_cons_succ, List.getElem?_cons_zero]; rfl
    case hy9 => exact Or.inl ⟨by rfl, by (intro w hSw; (try dsimp only at hSw); go_simp) <;> with_reducible rfl⟩
    try simp only [Act.put, List.setIfInBounds_toArray, List.set_cons_zero, List.set_cons_succ]
    refine wpAnyH_take (i := 10) (oi := ?o10) (v := ?v10) ?hi10 (by kernel_rfl) (by kernel_rfl) (by kernel_rfl) (fun _ _ _ h => h) ?hy10 (by assumption) ?r10
    case hi10 => simp only [List.getElem?_toArray, List.getElem?_cons_succ, List.getElem?_cons_zero]; rfl
    case hy10 => exact Or.inl ⟨by rfl, by (intro w hSw; (try dsimp only at hSw); go_simp) <;> with_reducible rfl⟩
    try simp only [Act.put, List.setIfInBounds_toArray, List.set_cons_zero, List.set_cons_succ]
    refine wpAnyH_done (by kernel_rfl) ?_ _
    refine NoPanic.normal ?_
    go_wp2
    go_ret
    exact ⟨by rw [HO.out]; exact ret1 rfl, hHeld⟩
set_option maxRecDepth 100000 in
set_option maxHeartbeats 1600000 in
theorem digits_any (u : Nat) (w : World) (h : u ≤ 99999999999) : Calls Tryd.prog 42 #[E u] w fun e w' => e = .returned (S (Lib.decDigits u)) ∧ Below w.heap.size w w' := by
  have HI := Lib.hid (fun w' => nat_any u w' h)
  have h1 : ¬ (u : Int) < 0 := by omega
  have h2 : IntKind.u64.wrap ((u : Nat) : Int) = (u : Int) := by rw [IntKind.wrap_u64]; omega
  go_enter Tryd.func42, Tryd.ntmps42
  go_wp2_with (go_at_call 52; refine (HI.out _).mono ?_; rintro e w' ⟨rfl, hb⟩)
  go_ret
  exact ⟨rfl, hb⟩
theorem number_any (n : Int) (w : World) : Calls Tryd.prog 48 #[E n] w fun e w' => e = .returned (.bool (decide (0 ≤ n ∧ n ≤ 999999999))) ∧ w' = w := by
  by_cases h1 : 0 ≤ n
  · by_cases h2 : n ≤ 999999999
    · rw [decide_eq_true ⟨h1, h2⟩]
      go_enter Tryd.func48, Tryd.ntmps48
      go_wp2
      go_ret
      exact ⟨rfl, rfl⟩
    · rw [decide_eq_false (fun q => h2 q.2)]
      go_enter Tryd.func48, Tryd.ntmps48
      go_wp2
      go_ret
      exact ⟨rfl, rfl⟩
  · rw [decide_eq_false (fun q => h1 q.1)]
    go_enter Tryd.func48, Tryd.ntmps48
    go_wp2
    go_ret
    exact ⟨rfl, rfl⟩
set_option maxRecDepth 100000 in
set_option maxHeartbeats 1600000 in
theorem one_0t (n m : Int) (w : World) (hn : n = 0) (hm : m = 0) : Calls Tryd.prog 33 #[AV ⟨0, n, m⟩] w fun e w' => e = .returned (.bool (decide (One ⟨0, n, m⟩))) ∧ Below w.heap.size w w' := by
  have HO := Lib.hid (show decide (One ⟨0, n, m⟩) = true from by rw [decide_eq_true_eq]; unfold One; dsimp only; omega)
  subst hn hm
  go_enter Tryd.func33, Tryd.ntmps33
  go_wp2
  all_goals go_ret
  all_goals exact ⟨by rw [HO.out]; exact ret1 rfl, (Below.refl w.heap.size w).alloc (Nat.le_refl _) _⟩
set_option maxRecDepth 100000 in
set_option maxHeartbeats 1600000 in
theorem one_0n (n m : Int) (w : World) (hn : n ≠ 0) : Calls Tryd.prog 33 #[AV ⟨0, n, m⟩] w fun e w' => e = .returned (.bool (decide (One ⟨0, n, m⟩))) ∧ Below w.heap.size w w' := by
  have HO := Lib.hid (show decide (One ⟨0, n, m⟩) = false from by rw [decide_eq_false_iff_not]; unfold One; dsimp only; omega)
  have e0 := nEq hn
  go_enter Tryd.func33, Tryd.ntmps33
  go_wp2
  all_goals go_ret
  all_goals exact ⟨by rw [HO.out]; exact ret1 rfl, (Below.refl w.heap.size w).alloc (Nat.le_refl _) _⟩
set_option maxRecDepth 100000 in
set_option maxHeartbeats 1600000 in
theorem one_0m (n m : Int) (w : World) (hn : n = 0) (hm : m ≠ 0) : Calls Tryd.prog 33 #[AV ⟨0, n, m⟩] w fun e w' => e = .returned (.bool (decide (One ⟨0, n, m⟩))) ∧ Below w.heap.size w w' := by
  have HO := Lib.hid (show decide (One ⟨0, n, m⟩) = false from by rw [decide_eq_false_iff_not]; unfold One; dsimp only; omega)
  subst hn
  have e0 := nEq hm
  go_enter Tryd.func33, Tryd.ntmps33
  go_wp2
  all_goals go_ret
  all_goals exact ⟨by rw [HO.out]; exact ret1 rfl, (Below.refl w.heap.size w).alloc (Nat.le_refl _) _⟩
set_option maxRecDepth 100000 in
set_option maxHeartbeats 1600000 in
theorem one_2t (n m : Int) (w : World) (hn : n = 0) (hm : m = 0) : Calls Tryd.prog 33 #[AV ⟨2, n, m⟩] w fun e w' => e = .returned (.bool (decide (One ⟨2, n, m⟩))) ∧ Below w.heap.size w w' := by
  have HO := Lib.hid (show decide (One ⟨2, n, m⟩) = true from by rw [decide_eq_true_eq]; unfold One; dsimp only; omega)
  subst hn hm
  go_enter Tryd.func33, Tryd.ntmps33
  go_wp2
  all_goals go_ret
  all_goals exact ⟨by rw [HO.out]; exact ret1 rfl, (Below.refl w.heap.size w).alloc (Nat.le_refl _) _⟩
set_option maxRecDepth 100000 in
set_option maxHeartbeats 1600000 in
theorem one_2n (n m : Int) (w : World) (hn : n ≠ 0) : Calls Tryd.prog 33 #[AV ⟨2, n, m⟩] w fun e w' => e = .returned (.bool (decide (One ⟨2, n, m⟩))) ∧ Below w.heap.size w w' := by
  have HO := Lib.hid (show decide (One ⟨2, n, m⟩) = false from by rw [decide_eq_false_iff_not]; unfold One; dsimp only; omega)
  have e0 := nEq hn
  go_enter Tryd.func33, Tryd.ntmps33
  go_wp2
  all_goals go_ret
  all_goals exact ⟨by rw [HO.out]; exact ret1 rfl, (Below.refl w.heap.size w).alloc (Nat.le_refl _) _⟩
set_option maxRecDepth 100000 in
set_option maxHeartbeats 1600000 in
theorem one_2m (n m : Int) (w : World) (hn : n = 0) (hm : m ≠ 0) : Calls Tryd.prog 33 #[AV ⟨2, n, m⟩] w fun e w' => e = .returned (.bool (decide (One ⟨2, n, m⟩))) ∧ Below w.heap.size w w' := by
  have HO := Lib.hid (show decide (One ⟨2, n, m⟩) = false from by rw [decide_eq_false_iff_not]; unfold One; dsimp only; omega)
  subst hn
  have e0 := nEq hm
  go_enter Tryd.func33, Tryd.ntmps33
  go_wp2
  all_goals go_ret
  all_goals exact ⟨by rw [HO.out]; exact ret1 rfl, (Below.refl w.heap.size w).alloc (Nat.le_refl _) _⟩
set_option maxRecDepth 100000 in
set_option maxHeartbeats 1600000 in
theorem one_1n (n m : Int) (w : World) (hn : ¬ (0 ≤ n ∧ n ≤ 999999999)) : Calls Tryd.prog 33 #[AV ⟨1, n, m⟩] w fun e w' => e = .returned (.bool (decide (One ⟨1, n, m⟩))) ∧ Below w.heap.size w w' := by
  have HO := Lib.hid (show decide (One ⟨1, n, m⟩) = false from by rw [decide_eq_false_iff_not]; unfold One; dsimp only; omega)
  have HN := Lib.hid (fun w' => number_any n w')
  rw [decide_eq_false hn] at HN
  go_enter Tryd.func33, Tryd.ntmps33
  go_wp2_with (go_at_call 48; refine (HN.out _).mono ?_; rintro e w' ⟨rfl, hw⟩; have hw2 := hw.symm; clear hw; subst hw2; clear HN)
  all_goals go_ret
  all_goals exact ⟨by rw [HO.out]; exact ret1 rfl, (Below.refl w.heap.size w).alloc (Nat.le_refl _) _⟩
set_option maxRecDepth 100000 in
set_option maxHeartbeats 1600000 in
theorem one_1m (n m : Int) (w : World) (hn : 0 ≤ n ∧ n ≤ 999999999) (hm : m ≠ 0) : Calls Tryd.prog 33 #[AV ⟨1, n, m⟩] w fun e w' => e = .returned (.bool (decide (One ⟨1, n, m⟩))) ∧ Below w.heap.size w w' := by
  have HO := Lib.hid (show decide (One ⟨1, n, m⟩) = false from by rw [decide_eq_false_iff_not]; unfold One; dsimp only; omega)
  have HN := Lib.hid (fun w' => number_any n w')
  rw [decide_eq_true hn] at HN
  have e0 := nEq hm
  go_enter Tryd.func33, Tryd.ntmps33
  go_wp2_with (go_at_call 48; refine (HN.out _).mono ?_; rintro e w' ⟨rfl, hw⟩; have hw2 := hw.symm; clear hw; subst hw2; clear HN)
  all_goals go_ret
  all_goals exact ⟨by rw [HO.out]; exact ret1 rfl, (Below.refl w.heap.size w).alloc (Nat.le_refl _) _⟩
set_option maxRecDepth 100000 in
set_option maxHeartbeats 1600000 in
theorem one_1t (n m : Int) (w : World) (hn : 0 ≤ n ∧ n ≤ 999999999) (hm : m = 0) : Calls Tryd.prog 33 #[AV ⟨1, n, m⟩] w fun e w' => e = .returned (.bool (decide (One ⟨1, n, m⟩))) ∧ Below w.heap.size w w' := by
  have HO := Lib.hid (show decide (One ⟨1, n, m⟩) = true from by rw [decide_eq_true_eq]; unfold One; dsimp only; omega)
  have HN := Lib.hid (fun w' => number_any n w')
  rw [decide_eq_true hn] at HN
  subst hm
  go_enter Tryd.func33, Tryd.ntmps33
  go_wp2_with (go_at_call 48; refine (HN.out _).mono ?_; rintro e w' ⟨rfl, hw⟩; have hw2 := hw.symm; clear hw; subst hw2; clear HN)
  all_goals go_ret
  all_goals exact ⟨by rw [HO.out]; exact ret1 rfl, (Below.refl w.heap.size w).alloc (Nat.le_refl _) _⟩
set_option maxRecDepth 100000 in
set_option maxHeartbeats 1600000 in
theorem one_5n (n m : Int) (w : World) (hn : ¬ (0 ≤ n ∧ n ≤ 999999999)) : Calls Tryd.prog 33 #[AV ⟨5, n, m⟩] w fun e w' => e = .returned (.bool (decide (One ⟨5, n, m⟩))) ∧ Below w.heap.size w w' := by
  have HO := Lib.hid (show decide (One ⟨5, n, m⟩) = false from by rw [decide_eq_false_iff_not]; unfold One; dsimp only; omega)
  have HN := Lib.hid (fun w' => number_any n w')
  rw [decide_eq_false hn] at HN
  go_enter Tryd.func33, Tryd.ntmps33
  go_wp2_with (go_at_call 48; refine (HN.out _).mono ?_; rintro e w' ⟨rfl, hw⟩; have hw2 := hw.symm; clear hw; subst hw2; clear HN)
  all_goals go_ret
  all_goals exact ⟨by rw [HO.out]; exact ret1 rfl, (Below.refl w.heap.size w).alloc (Nat.le_refl _) _⟩
set_option maxRecDepth 100000 in
set_option maxHeartbeats 1600000 in
theorem one_5m (n m : Int) (w : World) (hn : 0 ≤ n ∧ n ≤ 999999999) (hm : m ≠ 0) : Calls Tryd.prog 33 #[AV ⟨5, n, m⟩] w fun e w' => e = .returned (.bool (decide (One ⟨5, n, m⟩))) ∧ Below w.heap.size w w' := by
  have HO := Lib.hid (show decide (One ⟨5, n, m⟩) = false from by rw [decide_eq_false_iff_not]; unfold One; dsimp only; omega)
  have HN := Lib.hid (fun w' => number_any n w')
  rw [decide_eq_true hn] at HN
  have e0 := nEq hm
  go_enter Tryd.func33, Tryd.ntmps33
  go_wp2_with (go_at_call 48; refine (HN.out _).mono ?_; rintro e w' ⟨rfl, hw⟩; have hw2 := hw.symm; clear hw; subst hw2; clear HN)
  all_goals go_ret
  all_goals exact ⟨by rw [HO.out]; exact ret1 rfl, (Below.refl w.heap.size w).alloc (Nat.le_refl _) _⟩
set_option maxRecDepth 100000 in
set_option maxHeartbeats 1600000 in
theorem one_5t (n m : Int) (w : World) (hn : 0 ≤ n ∧ n ≤ 999999999) (hm : m = 0) : Calls Tryd.prog 33 #[AV ⟨5, n, m⟩] w fun e w' => e = .returned (.bool (decide (One ⟨5, n, m⟩))) ∧ Below w.heap.size w w' := by
  have HO := Lib.hid (show decide (One ⟨5, n, m⟩) = true from by rw [decide_eq_true_eq]; unfold One; dsimp only; omega)
  have HN := Lib.hid (fun w' => number_any n w')
  rw [decide_eq_true hn] at HN
  subst hm
  go_enter Tryd.func33, Tryd.ntmps33
  go_wp2_with (go_at_call 48; refine (HN.out _).mono ?_; rintro e w' ⟨rfl, hw⟩; have hw2 := hw.symm; clear hw; subst hw2; clear HN)
  all_goals go_ret
  all_goals exact ⟨by rw [HO.out]; exact ret1 rfl, (Below.refl w.heap.size w).alloc (Nat.le_refl _) _⟩
set_option maxRecDepth 100000 in
set_option maxHeartbeats 1600000 in
theorem one_6n (n m : Int) (w : World) (hn : ¬ (0 ≤ n ∧ n ≤ 999999999)) : Calls Tryd.prog 33 #[AV ⟨6, n, m⟩] w fun e w' => e = .returned (.bool (decide (One ⟨6, n, m⟩))) ∧ Below w.heap.size w w' := by
  have HO := Lib.hid (show decide (One ⟨6, n, m⟩) = false from by rw [decide_eq_false_iff_not]; unfold One; dsimp only; omega)
  have HN := Lib.hid (fun w' => number_any n w')
  rw [decide_eq_false hn] at HN
  go_enter Tryd.func33, Tryd.ntmps33
  go_wp2_with (go_at_call 48; refine (HN.out _).mono ?_; rintro e w' ⟨rfl, hw⟩; have hw2 := hw.symm; clear hw; subst hw2; clear HN)
  all_goals go_ret
  all_goals exact ⟨by rw [HO.out]; exact ret1 rfl, (Below.refl w.heap.size w).alloc (Nat.le_refl _) _⟩
set_option maxRecDepth 100000 in
set_option maxHeartbeats 1600000 in
theorem one_6m (n m : Int) (w : World) (hn : 0 ≤ n ∧ n ≤ 999999999) (hm : m ≠ 0) : Calls Tryd.prog 33 #[AV ⟨6, n, m⟩] w fun e w' => e = .returned (.bool (decide (One ⟨6, n, m⟩))) ∧ Below w.heap.size w w' := by
  have HO := Lib.hid (show decide (One ⟨6, n, m⟩) = false from by rw [decide_eq_false_iff_not]; unfold One; dsimp only; omega)
  have HN := Lib.hid (fun w' => number_any n w')
  rw [decide_eq_true hn] at HN
  have e0 := nEq hm
  go_enter Tryd.func33, Tryd.ntmps33
  go_wp2_with (go_at_call 48; refine (HN.out _).mono ?_; rintro e w' ⟨rfl, hw⟩; have hw2 := hw.symm; clear hw; subst hw2; clear HN)
  all_goals go_ret
  all_goals exact ⟨by rw [HO.out]; exact ret1 rfl, (Below.refl w.heap.size w).alloc (Nat.le_refl _) _⟩
set_option maxRecDepth 100000 in
set_option maxHeartbeats 1600000 in
theorem one_6t (n m : Int) (w : World) (hn : 0 ≤ n ∧ n ≤ 999999999) (hm : m = 0) : Calls Tryd.prog 33 #[AV ⟨6, n, m⟩] w fun e w' => e = .returned (.bool (decide (One ⟨6, n, m⟩))) ∧ Below w.heap.size w w' := by
  have HO := Lib.hid (show decide (One ⟨6, n, m⟩) = true from by rw [decide_eq_true_eq]; unfold One; dsimp only; omega)
  have HN := Lib.hid (fun w' => number_any n w')
  rw [decide_eq_true hn] at HN
  subst hm
  go_enter Tryd.func33, Tryd.ntmps33
  go_wp2_with (go_at_call 48; refine (HN.out _).mono ?_; rintro e w' ⟨rfl, hw⟩; have hw2 := hw.symm; clear hw; subst hw2; clear HN)
  all_goals go_ret
  all_goals exact ⟨by rw [HO.out]; exact ret1 rfl, (Below.refl w.heap.size w).alloc (Nat.le_refl _) _⟩
set_option maxRecDepth 100000 in
set_option maxHeartbeats 1600000 in
theorem one_3n (n m : Int) (w : World) (hn : ¬ (0 ≤ n ∧ n ≤ 999999999)) : Calls Tryd.prog 33 #[AV ⟨3, n, m⟩] w fun e w' => e = .returned (.bool (decide (One ⟨3, n, m⟩))) ∧ Below w.heap.size w w' := by
  have HO := Lib.hid (show decide (One ⟨3, n, m⟩) = false from by rw [decide_eq_false_iff_not]; unfold One; dsimp only; omega)
  have HN := Lib.hid (fun w' => number_any n w')
  rw [decide_eq_false hn] at HN
  go_enter Tryd.func33, Tryd.ntmps33
  go_wp2_with (go_at_call 48; refine (HN.out _).mono ?_; rintro e w' ⟨rfl, hw⟩; have hw2 := hw.symm; clear hw; subst hw2; clear HN)
  all_goals go_ret
  all_goals exact ⟨by rw [HO.out]; exact ret1 rfl, (Below.refl w.heap.size w).alloc (Nat.le_refl _) _⟩
set_option maxRecDepth 100000 in
set_option maxHeartbeats 1600000 in
theorem one_3m (n m : Int) (w : World) (hn : 0 ≤ n ∧ n ≤ 999999999) (hm : ¬ (0 ≤ m ∧ m ≤ 999999999)) : Calls Tryd.prog 33 #[AV ⟨3, n, m⟩] w fun e w' => e = .returned (.bool (decide (One ⟨3, n, m⟩))) ∧ Below w.heap.size w w' := by
  have HO := Lib.hid (show decide (One ⟨3, n, m⟩) = false from by rw [decide_eq_false_iff_not]; unfold One; dsimp only; omega)
  have HN := Lib.hid (fun w' => number_any n w')
  have HM := Lib.hid (fun w' => number_any m w')
  rw [decide_eq_true hn] at HN
  rw [decide_eq_false hm] at HM
  go_enter Tryd.func33, Tryd.ntmps33
  go_wp2_with (first
    | (go_at_call 48; refine (HN.out _).mono ?_; rintro e w' ⟨rfl, hw⟩; have hw2 := hw.symm; clear hw; subst hw2; clear HN)
    | (go_at_call 48; refine (HM.out _).mono ?_; rintro e w' ⟨rfl, hw⟩; have hw2 := hw.symm; clear hw; subst hw2; clear HM))
  all_goals go_ret
  all_goals exact ⟨by rw [HO.out]; exact ret1 rfl, (Below.refl w.heap.size w).alloc (Nat.le_refl _) _⟩
set_option maxRecDepth 100000 in
set_option maxHeartbeats 1600000 in
theorem one_3t (n m : Int) (w : World) (hn : 0 ≤ n ∧ n ≤ 999999999) (hm : 0 ≤ m ∧ m ≤ 999999999) : Calls Tryd.prog 33 #[AV ⟨3, n, m⟩] w fun e w' => e = .returned (.bool (decide (One ⟨3, n, m⟩))) ∧ Below w.heap.size w w' := by
  have HO := Lib.hid (show decide (One ⟨3, n, m⟩) = true from by rw [decide_eq_true_eq]; unfold One; dsimp only; omega)
  have HN := Lib.hid (fun w' => number_any n w')
  have HM := Lib.hid (fun w' => number_any m w')
  rw [decide_eq_true hn] at HN
  rw [decide_eq_true hm] at HM
  go_enter Tryd.func33, Tryd.ntmps33
  go_wp2_with (first
    | (go_at_call 48; refine (HN.out _).mono ?_; rintro e w' ⟨rfl, hw⟩; have hw2 := hw.symm; clear hw; subst hw2; clear HN)
    | (go_at_call 48; refine (HM.out _).mono ?_; rintro e w' ⟨rfl, hw⟩; have hw2 := hw.symm; clear hw; subst hw2; clear HM))
  all_goals go_ret
  all_goals exact ⟨by rw [HO.out]; exact ret1 rfl, (Below.refl w.heap.size w).alloc (Nat.le_refl _) _⟩
set_option maxRecDepth 100000 in
set_option maxHeartbeats 1600000 in
theorem one_4a (n m : Int) (w : World) (hn : n < 0) : Calls Tryd.prog 33 #[AV ⟨4, n, m⟩] w fun e w' => e = .returned (.bool (decide (One ⟨4, n, m⟩))) ∧ Below w.heap.size w w' := by
  have HO := Lib.hid (show decide (One ⟨4, n, m⟩) = false from by rw [decide_eq_false_iff_not]; unfold One; dsimp only; omega)
  have e0 : ¬ 0 ≤ n := by omega
  go_enter Tryd.func33, Tryd.ntmps33
  go_wp2
  all_goals go_ret
  all_goals exact ⟨by rw [HO.out]; exact ret1 rfl, (Below.refl w.heap.size w).alloc (Nat.le_refl _) _⟩
set_option maxRecDepth 100000 in
set_option maxHeartbeats 1600000 in
theorem one_4b (n m : Int) (w : World) (hn : 0 ≤ n) (h2 : 999 < n) : Calls Tryd.prog 33 #[AV ⟨4, n, m⟩] w fun e w' => e = .returned (.bool (decide (One ⟨4, n, m⟩))) ∧ Below w.heap.size w w' := by
  have HO := Lib.hid (show decide (One ⟨4, n, m⟩) = false from by rw [decide_eq_false_iff_not]; unfold One; dsimp only; omega)
  have e0 : ¬ n ≤ 999 := by omega
  go_enter Tryd.func33, Tryd.ntmps33
  go_wp2
  all_goals go_ret
  all_goals exact ⟨by rw [HO.out]; exact ret1 rfl, (Below.refl w.heap.size w).alloc (Nat.le_refl _) _⟩
set_option maxRecDepth 100000 in
set_option maxHeartbeats 1600000 in
theorem one_4m (n m : Int) (w : World) (hn : 0 ≤ n) (h2 : n ≤ 999) (hm : m ≠ 0) : Calls Tryd.prog 33 #[AV ⟨4, n, m⟩] w fun e w' => e = .returned (.bool (decide (One ⟨4, n, m⟩))) ∧ Below w.heap.size w w' := by
  have HO := Lib.hid (show decide (One ⟨4, n, m⟩) = false from by rw [decide_eq_false_iff_not]; unfold One; dsimp only; omega)
  have e0 := nEq hm
  go_enter Tryd.func33, Tryd.ntmps33
  go_wp2
  all_goals go_ret
  all_goals exact ⟨by rw [HO.out]; exact ret1 rfl, (Below.refl w.heap.size w).alloc (Nat.le_refl _) _⟩
set_option maxRecDepth 100000 in
set_option maxHeartbeats 1600000 in
theorem one_4t (n m : Int) (w : World) (hn : 0 ≤ n) (h2 : n ≤ 999) (hm : m = 0) : Calls Tryd.prog 33 #[AV ⟨4, n, m⟩] w fun e w' => e = .returned (.bool (decide (One ⟨4, n, m⟩))) ∧ Below w.heap.size w w' := by
  have HO := Lib.hid (show decide (One ⟨4, n, m⟩) = true from by rw [decide_eq_true_eq]; unfold One; dsimp only; omega)
  subst hm
  go_enter Tryd.func33, Tryd.ntmps33
  go_wp2
  all_goals go_ret
  all_goals exact ⟨by rw [HO.out]; exact ret1 rfl, (Below.refl w.heap.size w).alloc (Nat.le_refl _) _⟩
set_option maxRecDepth 100000 in
set_option maxHeartbeats 1600000 in
theorem one_no (k : Int) (n m : Int) (w : World) (h0 : k ≠ 0) (h1 : k ≠ 1) (h2 : k ≠ 2) (h3 : k ≠ 3) (h4 : k ≠ 4) (h5 : k ≠ 5) (h6 : k ≠ 6) : Calls Tryd.prog 33 #[AV ⟨k, n, m⟩] w fun e w' => e = .returned (.bool (decide (One ⟨k, n, m⟩))) ∧ Below w.heap.size w w' := by
  have HO := Lib.hid (show decide (One ⟨k, n, m⟩) = false from by rw [decide_eq_false_iff_not]; unfold One; dsimp only; omega)
  have e0 := nEq h0
  have e1 := nEq h1
  have e2 := nEq h2
  have e3 := nEq h3
  have e4 := nEq h4
  have e5 := nEq h5
  have e6 := nEq h6
  clear h0 h1 h2 h3 h4 h5 h6
  go_enter Tryd.func33, Tryd.ntmps33
  go_wp2
  all_goals go_ret
  all_goals exact ⟨by rw [HO.out]; exact ret1 rfl, (Below.refl w.heap.size w).alloc (Nat.le_refl _) _⟩
theorem one_any (a : A3) (w : World) : Calls Tryd.prog 33 #[AV a] w fun e w' => e = .returned (.bool (decide (One a))) ∧ Below w.heap.size w w' := by
  obtain ⟨k, n, m⟩ := a
  by_cases h0 : k = 0
  · subst h0
    by_cases hn : n = 0
    · by_cases hm : m = 0
      · exact one_0t n m w hn hm
      · exact one_0m n m w hn hm
    · exact one_0n n m w hn
  by_cases h2 : k = 2
  · subst h2
    by_cases hn : n = 0
    · by_cases hm : m = 0
      · exact one_2t n m w hn hm
      · exact one_2m n m w hn hm
    · exact one_2n n m w hn
  by_cases h1 : k = 1
  · subst h1
    by_cases hn : 0 ≤ n ∧ n ≤ 999999999
    · by_cases hm : m = 0
      · exact one_1t n m w hn hm
      · exact one_1m n m w hn hm
    · exact one_1n n m w hn
  by_cases h5 : k = 5
  · subst h5
    by_cases hn : 0 ≤ n ∧ n ≤ 999999999
    · by_cases hm : m = 0
      · exact one_5t n m w hn hm
      · exact one_5m n m w hn hm
    · exact one_5n n m w hn
  by_cases h6 : k = 6
  · subst h6
    by_cases hn : 0 ≤ n ∧ n ≤ 999999999
    · by_cases hm : m = 0
      · exact one_6t n m w hn hm
      · exact one_6m n m w hn hm
    · exact one_6n n m w hn
  by_cases h3 : k = 3
  · subst h3
    by_cases hn : 0 ≤ n ∧ n ≤ 999999999
    · by_cases hm : 0 ≤ m ∧ m ≤ 999999999
      · exact one_3t n m w hn hm
      · exact one_3m n m w hn hm
    · exact one_3n n m w hn
  by_cases h4 : k = 4
  · subst h4
    by_cases hn : n < 0
    · exact one_4a n m w hn
    by_cases h9 : 999 < n
    · exact one_4b n m w (by omega) h9
    by_cases hm : m = 0
    · exact one_4t n m w (by omega) (by omega) hm
    · exact one_4m n m w (by omega) (by omega) hm
  exact one_no k n m w h0 h1 h2 h3 h4 h5 h6
set_option maxRecDepth 100000 in
set_option maxHeartbeats 1600000 in
theorem rmay_any (a b : A3) (n : Bool) (w : World) : Calls Tryd.prog 19 #[RV a b n] w fun e w' => e = .returned (.bool (decide (May a b))) ∧ Below w.heap.size w w' := by
  have HA := Lib.hid (fun w => one_any a w)
  have HB := Lib.hid (fun w => one_any b w)
  have hm : decide (May a b) = (decide (One a) && decide (One b) && decide (a.k ≤ 4) && !decide (b.k = 3) && (!decide (a.k = 0) || decide (b.k = 0)) && (!decide (a.k = 1) || !decide (a.n = 0) || decide (b.k = 4))) := by
    unfold May
    by_cases c1 : a.k = 0 <;> by_cases c2 : a.k = 1 <;> by_cases c3 : a.n = 0 <;> by_cases c4 : b.k = 4 <;> by_cases c5 : b.k = 0 <;> simp [c1, c2, c3, c4, c5, Bool.and_assoc]
  have HG0 : Hid (RCt 33 (w.alloc (Obj.cells #[E a.k, E a.n, E a.m, E b.k, E b.n, E b.m, .bool n] 33)) w.heap.size a b n) := Lib.hid (heap_alloc_new _ _)
  have HB0 := Lib.hid ((Below.refl w.heap.size w).alloc (Nat.le_refl _) (Obj.cells #[E a.k, E a.n, E a.m, E b.k, E b.n, E b.m, .bool n] 33))
  obtain ⟨ak, an, am⟩ := a
  obtain ⟨bk, bn, bm⟩ := b
  generalize decide (One ⟨ak, an, am⟩) = x at *
  generalize decide (One ⟨bk, bn, bm⟩) = y at *
  generalize decide (May ⟨ak, an, am⟩ ⟨bk, bn, bm⟩) = r at *
  dsimp only at hm
  cases x
  · -- not one
    have HR := Lib.hid (show r = false from by rw [hm]; simp)
    clear hm
    go_enter Tryd.func19, Tryd.ntmps19
    go_wp2_with (go_at_call 33; have hb0 := HB0.out; clear HB0; refine (HA.out _).mono ?_; rintro e w1 ⟨rfl, hb1⟩; have HG1 := Lib.hid (HG0.out.below hb1); have HB1 := Lib.hid (hb0.trans (hb1.mono hb0.size)); clear hb0 hb1; obtain ⟨q0, q1, q2, q3, q4, q5, q6⟩ := HG1.out.cells)
    all_goals go_ret
    all_goals exact ⟨by rw [HR.out]; exact ret1 rfl, HB1.out⟩
  cases y
  · -- nor the other
    have HR := Lib.hid (show r = false from by rw [hm]; simp)
    clear hm
    go_enter Tryd.func19, Tryd.ntmps19
    go_wp2_with (first
      | (go_at_call 33; have hb0 := HB0.out; clear HB0; refine (HA.out _).mono ?_; rintro e w1 ⟨rfl, hb1⟩; have HG1 := Lib.hid (HG0.out.below hb1); have HB1 := Lib.hid (hb0.trans (hb1.mono hb0.size)); clear hb0 hb1; obtain ⟨q0, q1, q2, q3, q4, q5, q6⟩ := HG1.out.cells)
      | (go_at_call 33; have hb0 := HB1.out; clear HB1; refine (HB.out _).mono ?_; rintro e w2 ⟨rfl, hb1⟩; have HG2 := Lib.hid (HG1.out.below hb1); have HB2 := Lib.hid (hb0.trans (hb1.mono hb0.size)); clear hb0 hb1; obtain ⟨p0, p1, p2, p3, p4, p5, p6⟩ := HG2.out.cells))
    all_goals go_ret
    all_goals exact ⟨by rw [HR.out]; exact ret1 rfl, HB2.out⟩
  simp only [Bool.true_and] at hm
  by_cases h5 : ak ≤ 4
  · have h5N : ¬ 5 ≤ ak := by omega
    by_cases h3 : bk = 3
    · subst h3
      have HR := Lib.hid (show r = false from by rw [hm]; simp)
      clear hm
      go_enter Tryd.func19, Tryd.ntmps19
      go_wp2_with (first
        | (go_at_call 33; have hb0 := HB0.out; clear HB0; refine (HA.out _).mono ?_; rintro e w1 ⟨rfl, hb1⟩; have HG1 := Lib.hid (HG0.out.below hb1); have HB1 := Lib.hid (hb0.trans (hb1.mono hb0.size)); clear hb0 hb1; obtain ⟨q0, q1, q2, q3, q4, q5, q6⟩ := HG1.out.cells)
        | (go_at_call 33; have hb0 := HB1.out; clear HB1; refine (HB.out _).mono ?_; rintro e w2 ⟨rfl, hb1⟩; have HG2 := Lib.hid (HG1.out.below hb1); have HB2 := Lib.hid (hb0.trans (hb1.mono hb0.size)); clear hb0 hb1; obtain ⟨p0, p1, p2, p3, p4, p5, p6⟩ := HG2.out.cells))
      all_goals go_ret
      all_goals exact ⟨by rw [HR.out]; exact ret1 rfl, HB2.out⟩
    have h3B := nEq h3
    by_cases k0 : ak = 0
    · subst k0
      by_cases c0 : bk = 0
      · subst c0
        have HR := Lib.hid (show r = true from by rw [hm]; simp)
        clear hm
        go_enter Tryd.func19, Tryd.ntmps19
        go_wp2_with (first
          | (go_at_call 33; have hb0 := HB0.out; clear HB0; refine (HA.out _).mono ?_; rintro e w1 ⟨rfl, hb1⟩; have HG1 := Lib.hid (HG0.out.below hb1); have HB1 := Lib.hid (hb0.trans (hb1.mono hb0.size)); clear hb0 hb1; obtain ⟨q0, q1, q2, q3, q4, q5, q6⟩ := HG1.out.cells)
          | (go_at_call 33; have hb0 := HB1.out; clear HB1; refine (HB.out _).mono ?_; rintro e w2 ⟨rfl, hb1⟩; have HG2 := Lib.hid (HG1.out.below hb1); have HB2 := Lib.hid (hb0.trans (hb1.mono hb0.size)); clear hb0 hb1; obtain ⟨p0, p1, p2, p3, p4, p5, p6⟩ := HG2.out.cells))
        all_goals go_ret
        all_goals exact ⟨by rw [HR.out]; exact ret1 rfl, HB2.out⟩
      · have c0B : (bk != 0) = true := by rw [bne_iff_ne]; exact c0
        have HR := Lib.hid (show r = false from by rw [hm]; simp [c0])
        clear hm
        go_enter Tryd.func19, Tryd.ntmps19
        go_wp2_with (first
          | (go_at_call 33; have hb0 := HB0.out; clear HB0; refine (HA.out _).mono ?_; rintro e w1 ⟨rfl, hb1⟩; have HG1 := Lib.hid (HG0.out.below hb1); have HB1 := Lib.hid (hb0.trans (hb1.mono hb0.size)); clear hb0 hb1; obtain ⟨q0, q1, q2, q3, q4, q5, q6⟩ := HG1.out.cells)
          | (go_at_call 33; have hb0 := HB1.out; clear HB1; refine (HB.out _).mono ?_; rintro e w2 ⟨rfl, hb1⟩; have HG2 := Lib.hid (HG1.out.below hb1); have HB2 := Lib.hid (hb0.trans (hb1.mono hb0.size)); clear hb0 hb1; obtain ⟨p0, p1, p2, p3, p4, p5, p6⟩ := HG2.out.cells))
        all_goals go_ret
        all_goals exact ⟨by rw [HR.out]; exact ret1 rfl, HB2.out⟩
    have k0B := nEq k0
    by_cases k1 : ak = 1
    · subst k1
      by_cases n0 : an = 0
      · subst n0
        have HR := Lib.hid (show r = (bk == 4) from by rw [hm]; simp [h3]; rfl)
        clear hm
        go_enter Tryd.func19, Tryd.ntmps19
        go_wp2_with (first
          | (go_at_call 33; have hb0 := HB0.out; clear HB0; refine (HA.out _).mono ?_; rintro e w1 ⟨rfl, hb1⟩; have HG1 := Lib.hid (HG0.out.below hb1); have HB1 := Lib.hid (hb0.trans (hb1.mono hb0.size)); clear hb0 hb1; obtain ⟨q0, q1, q2, q3, q4, q5, q6⟩ := HG1.out.cells)
          | (go_at_call 33; have hb0 := HB1.out; clear HB1; refine (HB.out _).mono ?_; rintro e w2 ⟨rfl, hb1⟩; have HG2 := Lib.hid (HG1.out.below hb1); have HB2 := Lib.hid (hb0.trans (hb1.mono hb0.size)); clear hb0 hb1; obtain ⟨p0, p1, p2, p3, p4, p5, p6⟩ := HG2.out.cells))
        all_goals go_ret
        all_goals exact ⟨by rw [HR.out]; exact ret1 rfl, HB2.out⟩
      · have n0B : (an != 0) = true := by rw [bne_iff_ne]; exact n0
        have HR := Lib.hid (show r = true from by rw [hm]; simp [h3, n0])
        clear hm
        go_enter Tryd.func19, Tryd.ntmps19
        go_wp2_with (first
          | (go_at_call 33; have hb0 := HB0.out; clear HB0; refine (HA.out _).mono ?_; rintro e w1 ⟨rfl, hb1⟩; have HG1 := Lib.hid (HG0.out.below hb1); have HB1 := Lib.hid (hb0.trans (hb1.mono hb0.size)); clear hb0 hb1; obtain ⟨q0, q1, q2, q3, q4, q5, q6⟩ := HG1.out.cells)
          | (go_at_call 33; have hb0 := HB1.out; clear HB1; refine (HB.out _).mono ?_; rintro e w2 ⟨rfl, hb1⟩; have HG2 := Lib.hid (HG1.out.below hb1); have HB2 := Lib.hid (hb0.trans (hb1.mono hb0.size)); clear hb0 hb1; obtain ⟨p0, p1, p2, p3, p4, p5, p6⟩ := HG2.out.cells))
        all_goals go_ret
        all_goals exact ⟨by rw [HR.out]; exact ret1 rfl, HB2.out⟩
    · have k1B : (ak != 1) = true := by rw [bne_iff_ne]; exact k1
      have HR := Lib.hid (show r = true from by rw [hm]; simp [h3, k0, k1, h5])
      clear hm
      go_enter Tryd.func19, Tryd.ntmps19
      go_wp2_with (first
        | (go_at_call 33; have hb0 := HB0.out; clear HB0; refine (HA.out _).mono ?_; rintro e w1 ⟨rfl, hb1⟩; have HG1 := Lib.hid (HG0.out.below hb1); have HB1 := Lib.hid (hb0.trans (hb1.mono hb0.size)); clear hb0 hb1; obtain ⟨q0, q1, q2, q3, q4, q5, q6⟩ := HG1.out.cells)
        | (go_at_call 33; have hb0 := HB1.out; clear HB1; refine (HB.out _).mono ?_; rintro e w2 ⟨rfl, hb1⟩; have HG2 := Lib.hid (HG1.out.below hb1); have HB2 := Lib.hid (hb0.trans (hb1.mono hb0.size)); clear hb0 hb1; obtain ⟨p0, p1, p2, p3, p4, p5, p6⟩ := HG2.out.cells))
      all_goals go_ret
      all_goals exact ⟨by rw [HR.out]; exact ret1 rfl, HB2.out⟩
  · have h5Y : 5 ≤ ak := by omega
    have HR := Lib.hid (show r = false from by rw [hm]; simp [h5])
    clear hm
    go_enter Tryd.func19, Tryd.ntmps19
    go_wp2_with (first
      | (go_at_call 33; have hb0 := HB0.out; clear HB0; refine (HA.out _).mono ?_; rintro e w1 ⟨rfl, hb1⟩; have HG1 := Lib.hid (HG0.out.below hb1); have HB1 := Lib.hid (hb0.trans (hb1.mono hb0.size)); clear hb0 hb1; obtain ⟨q0, q1, q2, q3, q4, q5, q6⟩ := HG1.out.cells)
      | (go_at_call 33; have hb0 := HB1.out; clear HB1; refine (HB.out _).mono ?_; rintro e w2 ⟨rfl, hb1⟩; have HG2 := Lib.hid (HG1.out.below hb1); have HB2 := Lib.hid (hb0.trans (hb1.mono hb0.size)); clear hb0 hb1; obtain ⟨p0, p1, p2, p3, p4, p5, p6⟩ := HG2.out.cells))
    all_goals go_ret
    all_goals exact ⟨by rw [HR.out]; exact ret1 rfl, HB2.out⟩
end Go.Proofs.YtcijhfdccbgcpaaDoor.Ad
