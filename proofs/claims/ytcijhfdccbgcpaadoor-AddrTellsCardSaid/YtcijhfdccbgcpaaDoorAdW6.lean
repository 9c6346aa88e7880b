/- Addresses: ask: the walks of an open range. -/
import Derived.Test.YtcijhfdccbgcpaaDoorAdW5
namespace Go.Proofs.YtcijhfdccbgcpaaDoor.Ad
open Go.RowKit Go.Shelf
set_option linter.unusedVariables false
set_option linter.unusedSimpArgs false
set_option maxRecDepth 100000 in
set_option maxHeartbeats 1600000 in
theorem ask_b1 (ak an am : Int) (bn bm : Int) (nt : Bool) (to N : Int) (last : Bool) (ao : Option Addr) (c : Nat) (hs : List Bool) (w : World) (hN : 0 ≤ N ∧ N ≤ 999999999) (hb : Bs w (.slice ao hs.length c) hs)
    (ha : ak = 3 → 0 ≤ an) (h : to < N) : AskP ⟨ak, an, am⟩ ⟨1, bn, bm⟩ nt ⟨true, to⟩ N last (.slice ao hs.length c) hs w := by
  have HA : Hid (∀ w', Below w.heap.size w w' → Calls Tryd.prog 20 #[AV ⟨ak, an, am⟩, LV N last (.slice ao hs.length c)] w' fun e w2 => e = .returned (.bool (hits ⟨ak, an, am⟩ ⟨N, last, hs⟩)) ∧ Below w'.heap.size w' w2) := Lib.hid (fun w' h => by
    have q := hits_any ⟨ak, an, am⟩ ⟨N, last, hs⟩ ao c w' ⟨ha, hN⟩ (hb.below h)
    exact q)
  have HF := Lib.hid (fr0 w ⟨ak, an, am⟩ ⟨1, bn, bm⟩ nt ⟨true, to⟩ N last (.slice ao hs.length c))
  have HO := Lib.hid (show askL ⟨ak, an, am⟩ ⟨1, bn, bm⟩ ⟨true, to⟩ ⟨N, last, hs⟩ = (hits ⟨ak, an, am⟩ ⟨N, last, hs⟩, ⟨false, 0⟩) from by rw [askL_open (by simp), if_pos ⟨rfl, h⟩])
  clear hb
  generalize Value.slice ao hs.length c = v at *
  generalize hits ⟨ak, an, am⟩ ⟨N, last, hs⟩ = x at *
  go_enter Tryd.func39, Tryd.ntmps39
  go_wp2_with (go_at_call 20; refine (HA.out _ HF.out.2.2.2.2).mono ?_; rintro e w1 ⟨rfl, hb1⟩; have HF1 := Lib.hid (HF.out.below hb1); clear hb1; obtain ⟨⟨q0, q1, q2, q3, q4, q5, q6⟩, ⟨q7, q8⟩, ⟨q9, qa, qb⟩, qc, qd⟩ := HF1.out.cells; obtain ⟨u0, u1, u2, u3⟩ := HF1.out.unfrozen)
  exact bodyPost_ret (v := .tuple #[.bool x, SV2 ⟨false, 0⟩]) ((HF1.out.set ⟨false, 0⟩).ans _ rfl rfl) rfl ⟨by rw [HO.out], (HF1.out.set ⟨false, 0⟩).2.2.2.2⟩
set_option maxRecDepth 100000 in
set_option maxHeartbeats 1600000 in
theorem ask_b2 (ak an am : Int) (bn bm : Int) (nt : Bool) (to N : Int) (last : Bool) (ao : Option Addr) (c : Nat) (hs : List Bool) (w : World) (hN : 0 ≤ N ∧ N ≤ 999999999) (hb : Bs w (.slice ao hs.length c) hs)
     : AskP ⟨ak, an, am⟩ ⟨1, bn, bm⟩ nt ⟨true, N⟩ N last (.slice ao hs.length c) hs w := by
  have HF := Lib.hid (fr0 w ⟨ak, an, am⟩ ⟨1, bn, bm⟩ nt ⟨true, N⟩ N last (.slice ao hs.length c))
  have HO := Lib.hid (show askL ⟨ak, an, am⟩ ⟨1, bn, bm⟩ ⟨true, N⟩ ⟨N, last, hs⟩ = (true, ⟨false, 0⟩) from by rw [askL_open (by simp), if_neg (by simp), over_1 rfl, if_pos (by simp)])
  clear hb
  generalize Value.slice ao hs.length c = v at *
  go_enter Tryd.func39, Tryd.ntmps39
  go_wp2
  exact bodyPost_ret (v := .tuple #[.bool true, SV2 ⟨false, 0⟩]) ((HF.out).ans _ rfl rfl) rfl ⟨by rw [HO.out], (HF.out).2.2.2.2⟩
set_option maxRecDepth 100000 in
set_option maxHeartbeats 1600000 in
theorem ask_b3 (ak an am : Int) (bn bm : Int) (nt : Bool) (to N : Int) (last : Bool) (ao : Option Addr) (c : Nat) (hs : List Bool) (w : World) (hN : 0 ≤ N ∧ N ≤ 999999999) (hb : Bs w (.slice ao hs.length c) hs)
    (h : N < to) : AskP ⟨ak, an, am⟩ ⟨1, bn, bm⟩ nt ⟨true, to⟩ N last (.slice ao hs.length c) hs w := by
  have HF := Lib.hid (fr0 w ⟨ak, an, am⟩ ⟨1, bn, bm⟩ nt ⟨true, to⟩ N last (.slice ao hs.length c))
  have HO := Lib.hid (show askL ⟨ak, an, am⟩ ⟨1, bn, bm⟩ ⟨true, to⟩ ⟨N, last, hs⟩ = (true, ⟨true, to⟩) from by rw [askL_open (by simp), if_neg (by simp; omega), over_1 rfl, if_neg (by simp; omega)])
  have h2 : ¬ to < N := by omega
  have h3 : ¬ to ≤ N := by omega
  clear hb
  generalize Value.slice ao hs.length c = v at *
  go_enter Tryd.func39, Tryd.ntmps39
  go_wp2
  have HFr := Lib.hid ((fr0r w ⟨ak, an, am⟩ ⟨1, bn, bm⟩ nt ⟨true, to⟩ ⟨true, to⟩ N last v).below (Below.refl _ _).drew)
  refine wp_region_noPanic ?_
  refine wp_region_held_drew (S := fun w' => ∃ r, Fr w ⟨ak, an, am⟩ ⟨1, bn, bm⟩ nt ⟨true, to⟩ r N last v w') (by kernel_rfl) ?_ (fun hHeld => ?_)
  · (try dsimp only); exact ⟨_, HF.out.below (Below.refl _ _).drew⟩
  refine wpAnyH_take (i := 0) (oi := ?o0) (v := ?v0) ?hi0 (by kernel_rfl) (by kernel_rfl) (by kernel_rfl) (fun _ _ _ h => h) ?hy0 (by assumption) ?r0
  case hi0 => simp only [List.getElem?_toArray, List.getElem?_cons_succ, List.getElem?_cons_zero]; rfl
  case hy0 => exact Or.inl ⟨by rfl, by (intro w hSw; (try dsimp only at hSw); obtain ⟨r0, hSw⟩ := hSw; obtain ⟨⟨q0, q1, q2, q3, q4, q5, q6⟩, ⟨q7, q8⟩, ⟨q9, qa, qb⟩, qc, qd⟩ := hSw.cells; obtain ⟨u0, u1, u2, u3⟩ := hSw.unfrozen; go_simp) <;> with_reducible rfl⟩
  try simp only [Act.put, List.setIfInBounds_toArray, List.set_cons_zero, List.set_cons_succ]
  refine wpAnyH_take (i := 1) (oi := ?o1) (v := ?v1) ?hi1 (by kernel_rfl) (by kernel_rfl) (by kernel_rfl) (fun _ _ _ h => h) ?hy1 (by assumption) ?r1
  case hi1 => simp only [List.getElem?_toArray, List.getElem?_cons_succ, List.getElem?_cons_zero]; rfl
  case hy1 => exact Or.inl ⟨by rfl, by (intro w hSw; (try dsimp only at hSw); obtain ⟨r0, hSw⟩ := hSw; obtain ⟨⟨q0, q1, q2, q3, q4, q5, q6⟩, ⟨q7, q8⟩, ⟨q9, qa, qb⟩, qc, qd⟩ := hSw.cells; obtain ⟨u0, u1, u2, u3⟩ := hSw.unfrozen; go_simp) <;> with_reducible rfl⟩
  try simp only [Act.put, List.setIfInBounds_toArray, List.set_cons_zero, List.set_cons_succ]
  refine wpAnyH_ready (rs := [2]) (by kernel_rfl) (by simp) ?_
  refine AllReadyH.cons (o := ?o2) ?hi2 (fun K hK => ?st2) AllReadyH.nil
  case hi2 => simp only [List.getElem?_toArray, List.getElem?_cons_succ, List.getElem?_cons_zero]; rfl
  (try dsimp only at hHeld); obtain ⟨r0, hF⟩ := hHeld; obtain ⟨⟨q0, q1, q2, q3, q4, q5, q6⟩, ⟨q7, q8⟩, ⟨q9, qa, qb⟩, qc, qd⟩ := hF.cells; obtain ⟨u0, u1, u2, u3⟩ := hF.unfrozen
  go_simp
  refine hK.out _ _ ?_ (fun hHeld => ?_)
  · (try dsimp only); (exact ⟨_, HFr.out⟩)
  clear hK K
  try simp only [Act.put, List.setIfInBounds_toArray, List.set_cons_zero, List.set_cons_succ]
  refine wpAnyH_done (by kernel_rfl) ?_ _
  refine NoPanic.normal ?_
  clear hHeld
  go_wp2
  exact bodyPost_ret (v := .tuple #[.bool true, SV2 ⟨true, to⟩]) ((HFr.out).ans _ rfl rfl) rfl ⟨by rw [HO.out], (HFr.out).2.2.2.2⟩
set_option maxRecDepth 100000 in
set_option maxHeartbeats 1600000 in
theorem ask_b4 (ak an am : Int) (bk bn bm : Int) (nt : Bool) (to N : Int) (last : Bool) (ao : Option Addr) (c : Nat) (hs : List Bool) (w : World) (hN : 0 ≤ N ∧ N ≤ 999999999) (hb : Bs w (.slice ao hs.length c) hs)
    (h5 : 5 ≤ bk) (h : to ≤ N) : AskP ⟨ak, an, am⟩ ⟨bk, bn, bm⟩ nt ⟨true, to⟩ N last (.slice ao hs.length c) hs w := by
  have HF := Lib.hid (fr0 w ⟨ak, an, am⟩ ⟨bk, bn, bm⟩ nt ⟨true, to⟩ N last (.slice ao hs.length c))
  have HO := Lib.hid (show askL ⟨ak, an, am⟩ ⟨bk, bn, bm⟩ ⟨true, to⟩ ⟨N, last, hs⟩ = (true, ⟨false, 0⟩) from by rw [askL_open (by simp; omega), if_neg (by simp; omega), over_5 h5, if_pos (by simpa using h)])
  have k0B := neB (show bk ≠ 0 by omega)
  have k1B := neB (show bk ≠ 1 by omega)
  clear hb
  generalize Value.slice ao hs.length c = v at *
  go_enter Tryd.func39, Tryd.ntmps39
  go_wp2
  exact bodyPost_ret (v := .tuple #[.bool true, SV2 ⟨false, 0⟩]) ((HF.out).ans _ rfl rfl) rfl ⟨by rw [HO.out], (HF.out).2.2.2.2⟩
set_option maxRecDepth 100000 in
set_option maxHeartbeats 1600000 in
theorem ask_b5 (ak an am : Int) (bk bn bm : Int) (nt : Bool) (to N : Int) (last : Bool) (ao : Option Addr) (c : Nat) (hs : List Bool) (w : World) (hN : 0 ≤ N ∧ N ≤ 999999999) (hb : Bs w (.slice ao hs.length c) hs)
    (h5 : 5 ≤ bk) (h : N < to) : AskP ⟨ak, an, am⟩ ⟨bk, bn, bm⟩ nt ⟨true, to⟩ N last (.slice ao hs.length c) hs w := by
  have HF := Lib.hid (fr0 w ⟨ak, an, am⟩ ⟨bk, bn, bm⟩ nt ⟨true, to⟩ N last (.slice ao hs.length c))
  have HO := Lib.hid (show askL ⟨ak, an, am⟩ ⟨bk, bn, bm⟩ ⟨true, to⟩ ⟨N, last, hs⟩ = (true, ⟨true, to⟩) from by rw [askL_open (by simp; omega), if_neg (by simp; omega), over_5 h5, if_neg (by simp; omega)])
  have k0B := neB (show bk ≠ 0 by omega)
  have k1B := neB (show bk ≠ 1 by omega)
  have h3 : ¬ to ≤ N := by omega
  clear hb
  generalize Value.slice ao hs.length c = v at *
  go_enter Tryd.func39, Tryd.ntmps39
  go_wp2
  have HFr := Lib.hid ((fr0r w ⟨ak, an, am⟩ ⟨bk, bn, bm⟩ nt ⟨true, to⟩ ⟨true, to⟩ N last v).below (Below.refl _ _).drew)
  refine wp_region_noPanic ?_
  refine wp_region_held_drew (S := fun w' => ∃ r, Fr w ⟨ak, an, am⟩ ⟨bk, bn, bm⟩ nt ⟨true, to⟩ r N last v w') (by kernel_rfl) ?_ (fun hHeld => ?_)
  · (try dsimp only); exact ⟨_, HF.out.below (Below.refl _ _).drew⟩
  refine wpAnyH_take (i := 0) (oi := ?o0) (v := ?v0) ?hi0 (by kernel_rfl) (by kernel_rfl) (by kernel_rfl) (fun _ _ _ h => h) ?hy0 (by assumption) ?r0
  case hi0 => simp only [List.getElem?_toArray, List.getElem?_cons_succ, List.getElem?_cons_zero]; rfl
  case hy0 => exact Or.inl ⟨by rfl, by (intro w hSw; (try dsimp only at hSw); obtain ⟨r0, hSw⟩ := hSw; obtain ⟨⟨q0, q1, q2, q3, q4, q5, q6⟩, ⟨q7, q8⟩, ⟨q9, qa, qb⟩, qc, qd⟩ := hSw.cells; obtain ⟨u0, u1, u2, u3⟩ := hSw.unfrozen; go_simp) <;> with_reducible rfl⟩
  try simp only [Act.put, List.setIfInBounds_toArray, List.set_cons_zero, List.set_cons_succ]
  refine wpAnyH_take (i := 1) (oi := ?o1) (v := ?v1) ?hi1 (by kernel_rfl) (by kernel_rfl) (by kernel_rfl) (fun _ _ _ h => h) ?hy1 (by assumption) ?r1
  case hi1 => simp only [List.getElem?_toArray, List.getElem?_cons_succ, List.getElem?_cons_zero]; rfl
  case hy1 => exact Or.inl ⟨by rfl, by (intro w hSw; (try dsimp only at hSw); obtain ⟨r0, hSw⟩ := hSw; obtain ⟨⟨q0, q1, q2, q3, q4, q5, q6⟩, ⟨q7, q8⟩, ⟨q9, qa, qb⟩, qc, qd⟩ := hSw.cells; obtain ⟨u0, u1, u2, u3⟩ := hSw.unfrozen; go_simp) <;> with_reducible rfl⟩
  try simp only [Act.put, List.setIfInBounds_toArray, List.set_cons_zero, List.set_cons_succ]
  refine wpAnyH_ready (rs := [2]) (by kernel_rfl) (by simp) ?_
  refine AllReadyH.cons (o := ?o2) ?hi2 (fun K hK => ?st2) AllReadyH.nil
  case hi2 => simp only [List.getElem?_toArray, List.getElem?_cons_succ, List.getElem?_cons_zero]; rfl
  (try dsimp only at hHeld); obtain ⟨r0, hF⟩ := hHeld; obtain ⟨⟨q0, q1, q2, q3, q4, q5, q6⟩, ⟨q7, q8⟩, ⟨q9, qa, qb⟩, qc, qd⟩ := hF.cells; obtain ⟨u0, u1, u2, u3⟩ := hF.unfrozen
  go_simp
  refine hK.out _ _ ?_ (fun hHeld => ?_)
  · (try dsimp only); (exact ⟨_, HFr.out⟩)
  clear hK K
  try simp only [Act.put, List.setIfInBounds_toArray, List.set_cons_zero, List.set_cons_succ]
  refine wpAnyH_done (by kernel_rfl) ?_ _
  refine NoPanic.normal ?_
  clear hHeld
  go_wp2
  exact bodyPost_ret (v := .tuple #[.bool true, SV2 ⟨true, to⟩]) ((HFr.out).ans _ rfl rfl) rfl ⟨by rw [HO.out], (HFr.out).2.2.2.2⟩
set_option maxRecDepth 100000 in
set_option maxHeartbeats 1600000 in
theorem ask_b6 (ak an am : Int) (bk bn bm : Int) (nt : Bool) (to N : Int) (last : Bool) (ao : Option Addr) (c : Nat) (hs : List Bool) (w : World) (hN : 0 ≤ N ∧ N ≤ 999999999) (hb : Bs w (.slice ao hs.length c) hs)
    (h24 : bk = 2 ∨ bk = 4) (hbn : bk = 3 → 0 ≤ bn) (hx : hits ⟨bk, bn, bm⟩ ⟨N, last, hs⟩ = true) : AskP ⟨ak, an, am⟩ ⟨bk, bn, bm⟩ nt ⟨true, to⟩ N last (.slice ao hs.length c) hs w := by
  have HB : Hid (∀ w', Below w.heap.size w w' → Calls Tryd.prog 20 #[AV ⟨bk, bn, bm⟩, LV N last (.slice ao hs.length c)] w' fun e w2 => e = .returned (.bool true) ∧ Below w'.heap.size w' w2) := Lib.hid (fun w' h => by
    have q := hits_any ⟨bk, bn, bm⟩ ⟨N, last, hs⟩ ao c w' ⟨hbn, hN⟩ (hb.below h)
    rw [hx] at q
    exact q)
  have HF := Lib.hid (fr0 w ⟨ak, an, am⟩ ⟨bk, bn, bm⟩ nt ⟨true, to⟩ N last (.slice ao hs.length c))
  have HO := Lib.hid (show askL ⟨ak, an, am⟩ ⟨bk, bn, bm⟩ ⟨true, to⟩ ⟨N, last, hs⟩ = (true, ⟨false, 0⟩) from by rw [askL_open (by simp; omega), if_neg (by simp; omega), (show over ⟨bk, bn, bm⟩ ⟨true, to⟩ ⟨N, last, hs⟩ = hits ⟨bk, bn, bm⟩ ⟨N, last, hs⟩ from by rcases h24 with h | h <;> first | exact over_2 h | exact over_4 h), hx, if_pos rfl])
  have k0B := neB (show bk ≠ 0 by omega)
  have k1B := neB (show bk ≠ 1 by omega)
  have k5N : ¬ 5 ≤ bk := by omega
  clear hb
  generalize Value.slice ao hs.length c = v at *
  go_enter Tryd.func39, Tryd.ntmps39
  go_wp2_with (go_at_call 20; refine (HB.out _ HF.out.2.2.2.2).mono ?_; rintro e w1 ⟨rfl, hb1⟩; have HF1 := Lib.hid (HF.out.below hb1); clear hb1; obtain ⟨⟨q0, q1, q2, q3, q4, q5, q6⟩, ⟨q7, q8⟩, ⟨q9, qa, qb⟩, qc, qd⟩ := HF1.out.cells; obtain ⟨u0, u1, u2, u3⟩ := HF1.out.unfrozen)
  exact bodyPost_ret (v := .tuple #[.bool true, SV2 ⟨false, 0⟩]) ((HF1.out.set ⟨false, 0⟩).ans _ rfl rfl) rfl ⟨by rw [HO.out], (HF1.out.set ⟨false, 0⟩).2.2.2.2⟩
set_option maxRecDepth 100000 in
set_option maxHeartbeats 1600000 in
theorem ask_b7 (ak an am : Int) (bk bn bm : Int) (nt : Bool) (to N : Int) (last : Bool) (ao : Option Addr) (c : Nat) (hs : List Bool) (w : World) (hN : 0 ≤ N ∧ N ≤ 999999999) (hb : Bs w (.slice ao hs.length c) hs)
    (h24 : bk = 2 ∨ bk = 4) (hbn : bk = 3 → 0 ≤ bn) (hx : hits ⟨bk, bn, bm⟩ ⟨N, last, hs⟩ = false) : AskP ⟨ak, an, am⟩ ⟨bk, bn, bm⟩ nt ⟨true, to⟩ N last (.slice ao hs.length c) hs w := by
  have HB : Hid (∀ w', Below w.heap.size w w' → Calls Tryd.prog 20 #[AV ⟨bk, bn, bm⟩, LV N last (.slice ao hs.length c)] w' fun e w2 => e = .returned (.bool false) ∧ Below w'.heap.size w' w2) := Lib.hid (fun w' h => by
    have q := hits_any ⟨bk, bn, bm⟩ ⟨N, last, hs⟩ ao c w' ⟨hbn, hN⟩ (hb.below h)
    rw [hx] at q
    exact q)
  have HF := Lib.hid (fr0 w ⟨ak, an, am⟩ ⟨bk, bn, bm⟩ nt ⟨true, to⟩ N last (.slice ao hs.length c))
  have HO := Lib.hid (show askL ⟨ak, an, am⟩ ⟨bk, bn, bm⟩ ⟨true, to⟩ ⟨N, last, hs⟩ = (true, ⟨true, to⟩) from by rw [askL_open (by simp; omega), if_neg (by simp; omega), (show over ⟨bk, bn, bm⟩ ⟨true, to⟩ ⟨N, last, hs⟩ = hits ⟨bk, bn, bm⟩ ⟨N, last, hs⟩ from by rcases h24 with h | h <;> first | exact over_2 h | exact over_4 h), hx, if_neg (by simp)])
  have k0B := neB (show bk ≠ 0 by omega)
  have k1B := neB (show bk ≠ 1 by omega)
  have k5N : ¬ 5 ≤ bk := by omega
  clear hb
  generalize Value.slice ao hs.length c = v at *
  go_enter Tryd.func39, Tryd.ntmps39
  go_wp2_with (go_at_call 20; refine (HB.out _ HF.out.2.2.2.2).mono ?_; rintro e w1 ⟨rfl, hb1⟩; have HF1 := Lib.hid (HF.out.below hb1); clear hb1; obtain ⟨⟨q0, q1, q2, q3, q4, q5, q6⟩, ⟨q7, q8⟩, ⟨q9, qa, qb⟩, qc, qd⟩ := HF1.out.cells; obtain ⟨u0, u1, u2, u3⟩ := HF1.out.unfrozen)
  refine wp_region_noPanic ?_
  refine wp_region_held_drew (S := fun w' => ∃ r, Fr w ⟨ak, an, am⟩ ⟨bk, bn, bm⟩ nt ⟨true, to⟩ r N last v w') (by kernel_rfl) ?_ (fun hHeld => ?_)
  · (try dsimp only); exact ⟨_, HF1.out.below (Below.refl _ _).drew⟩
  refine wpAnyH_take (i := 0) (oi := ?o0) (v := ?v0) ?hi0 (by kernel_rfl) (by kernel_rfl) (by kernel_rfl) (fun _ _ _ h => h) ?hy0 (by assumption) ?r0
  case hi0 => simp only [List.getElem?_toArray, List.getElem?_cons_succ, List.getElem?_cons_zero]; rfl
  case hy0 => exact Or.inl ⟨by rfl, by (intro w hSw; (try dsimp only at hSw); obtain ⟨r0, hSw⟩ := hSw; obtain ⟨⟨q0, q1, q2, q3, q4, q5, q6⟩, ⟨q7, q8⟩, ⟨q9, qa, qb⟩, qc, qd⟩ := hSw.cells; obtain ⟨u0, u1, u2, u3⟩ := hSw.unfrozen; go_simp) <;> with_reducible rfl⟩
  try simp only [Act.put, List.setIfInBounds_toArray, List.set_cons_zero, List.set_cons_succ]
  refine wpAnyH_take (i := 1) (oi := ?o1) (v := ?v1) ?hi1 (by kernel_rfl) (by kernel_rfl) (by kernel_rfl) (fun _ _ _ h => h) ?hy1 (by assumption) ?r1
  case hi1 => simp only [List.getElem?_toArray, List.getElem?_cons_succ, List.getElem?_cons_zero]; rfl
  case hy1 => exact Or.inl ⟨by rfl, by (intro w hSw; (try dsimp only at hSw); obtain ⟨r0, hSw⟩ := hSw; obtain ⟨⟨q0, q1, q2, q3, q4, q5, q6⟩, ⟨q7, q8⟩, ⟨q9, qa, qb⟩, qc, qd⟩ := hSw.cells; obtain ⟨u0, u1, u2, u3⟩ := hSw.unfrozen; go_simp) <;> with_reducible rfl⟩
  try simp only [Act.put, List.setIfInBounds_toArray, List.set_cons_zero, List.set_cons_succ]
  refine wpAnyH_ready (rs := [2]) (by kernel_rfl) (by simp) ?_
  refine AllReadyH.cons (o := ?o2) ?hi2 (fun K hK => ?st2) AllReadyH.nil
  case hi2 => simp only [List.getElem?_toArray, List.getElem?_cons_succ, List.getElem?_cons_zero]; rfl
  (try dsimp only at hHeld); obtain ⟨r0, hF⟩ := hHeld; obtain ⟨⟨q0, q1, q2, q3, q4, q5, q6⟩, ⟨q7, q8⟩, ⟨q9, qa, qb⟩, qc, qd⟩ := hF.cells; obtain ⟨u0, u1, u2, u3⟩ := hF.unfrozen
  go_simp
  refine hK.out _ _ ?_ (fun hHeld => ?_)
  · (try dsimp only); (first | exact ⟨_, hF.below hbl⟩ | exact ⟨_, hF.set ⟨true, to⟩⟩)
  clear hK K
  try simp only [Act.put, List.setIfInBounds_toArray, List.set_cons_zero, List.set_cons_succ]
  refine wpAnyH_done (by kernel_rfl) ?_ _
  refine NoPanic.normal ?_
  clear hHeld
  go_wp2
  exact bodyPost_ret (v := .tuple #[.bool true, SV2 ⟨true, to⟩]) ((hF.set ⟨true, to⟩).ans _ rfl rfl) rfl ⟨by rw [HO.out], (hF.set ⟨true, to⟩).2.2.2.2⟩
end Go.Proofs.YtcijhfdccbgcpaaDoor.Ad
