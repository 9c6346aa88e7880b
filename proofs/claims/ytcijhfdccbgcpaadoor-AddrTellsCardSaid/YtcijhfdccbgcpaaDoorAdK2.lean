/- The reference's ask: the walks. -/
import Derived.Test.YtcijhfdccbgcpaaDoorAdK1
namespace Go.Proofs.YtcijhfdccbgcpaaDoor.Ad
open Go.RowKit Go.Shelf
set_option linter.unusedVariables false
set_option linter.unusedSimpArgs false
set_option maxRecDepth 100000 in
set_option maxHeartbeats 1600000 in
theorem rask_p0 (ak an am bn bm : Int) (op : Bool) (nt : Bool) (to N : Int) (last : Bool) (ao : Option Addr) (c : Nat) (hs : List Bool) (w : World) (hN : 0 ≤ N ∧ N ≤ 999999999) (hb : Bs w (.slice ao hs.length c) hs)
    (ha : ak = 3 → 0 ≤ an) : AskRP ⟨ak, an, am⟩ ⟨0, bn, bm⟩ nt ⟨op, to⟩ N last (.slice ao hs.length c) hs w := by
  have HA : Hid (∀ w', Below w.heap.size w w' → Calls Tryd.prog 21 #[AV ⟨ak, an, am⟩, LV N last (.slice ao hs.length c)] w' fun e w2 => e = .returned (.bool (hits ⟨ak, an, am⟩ ⟨N, last, hs⟩)) ∧ Below w'.heap.size w' w2) := Lib.hid (fun w' h => by
    have q := rhits_any ⟨ak, an, am⟩ ⟨N, last, hs⟩ ao c w' ⟨ha, hN⟩ (hb.below h)
    exact q)
  have HF := Lib.hid (fr0R w ⟨ak, an, am⟩ ⟨0, bn, bm⟩ nt ⟨op, to⟩ N last (.slice ao hs.length c))
  have HO := Lib.hid (show askL ⟨ak, an, am⟩ ⟨0, bn, bm⟩ ⟨op, to⟩ ⟨N, last, hs⟩ = (hits ⟨ak, an, am⟩ ⟨N, last, hs⟩, ⟨op, to⟩) from by rw [askL_0 rfl])
  clear hb
  generalize Value.slice ao hs.length c = v at *
  go_enter Tryd.func40, Tryd.ntmps40
  generalize hits ⟨ak, an, am⟩ ⟨N, last, hs⟩ = x at *
  go_wp2
  refine wp_region_noPanic ?_
  refine wp_region_held_drew (S := fun w' => ∃ r, FrR w ⟨ak, an, am⟩ ⟨0, bn, bm⟩ nt ⟨op, to⟩ r N last v w') (by kernel_rfl) ?_ (fun hHeld => ?_)
  · (try dsimp only); exact ⟨_, HF.out.below (Below.refl _ _).drew⟩
  refine wpAnyH_take (i := 0) (oi := ?o0) (v := ?v0) ?hi0 (by kernel_rfl) (by kernel_rfl) (by kernel_rfl) (fun _ _ _ h => h) ?hy0 (by assumption) ?r0
  case hi0 => simp only [List.getElem?_toArray, List.getElem?_cons_succ, List.getElem?_cons_zero]; rfl
  case hy0 => exact Or.inl ⟨by rfl, by (intro w hSw; (try dsimp only at hSw); obtain ⟨r0, hSw⟩ := hSw; obtain ⟨⟨q0, q1, q2, q3, q4, q5, q6⟩, ⟨q7, q8⟩, ⟨q9, qa, qb⟩, qc, qd⟩ := hSw.cells; obtain ⟨u0, u1, u2, u3⟩ := hSw.unfrozen; go_simp) <;> with_reducible rfl⟩
  try simp only [Act.put, List.setIfInBounds_toArray, List.set_cons_zero, List.set_cons_succ]
  refine wpAnyH_take (i := 1) (oi := ?o1) (v := ?v1) ?hi1 (by kernel_rfl) (by kernel_rfl) (by kernel_rfl) (fun _ _ _ h => h) ?hy1 (by assumption) ?r1
  case hi1 => simp only [List.getElem?_toArray, List.getElem?_cons_succ, List.getElem?_cons_zero]; rfl
  case hy1 => exact Or.inl ⟨by rfl, by (intro w hSw; (try dsimp only at hSw); obtain ⟨r0, hSw⟩ := hSw; obtain ⟨⟨q0, q1, q2, q3, q4, q5, q6⟩, ⟨q7, q8⟩, ⟨q9, qa, qb⟩, qc, qd⟩ := hSw.cells; obtain ⟨u0, u1, u2, u3⟩ := hSw.unfrozen; go_simp) <;> with_reducible rfl⟩
  try simp only [Act.put, List.setIfInBounds_toArray, List.set_cons_zero, List.set_cons_succ]
  refine wpAnyH_take (i := 2) (oi := ?o2) (v := ?v2) ?hi2 (by kernel_rfl) (by kernel_rfl) (by kernel_rfl) (fun _ _ _ h => h) ?hy2 (by assumption) ?r2
  case hi2 => simp only [List.getElem?_toArray, List.getElem?_cons_succ, List.getElem?_cons_zero]; rfl
  case hy2 => exact Or.inl ⟨by rfl, by (intro w hSw; (try dsimp only at hSw); obtain ⟨r0, hSw⟩ := hSw; obtain ⟨⟨q0, q1, q2, q3, q4, q5, q6⟩, ⟨q7, q8⟩, ⟨q9, qa, qb⟩, qc, qd⟩ := hSw.cells; obtain ⟨u0, u1, u2, u3⟩ := hSw.unfrozen; go_simp) <;> with_reducible rfl⟩
  try simp only [Act.put, List.setIfInBounds_toArray, List.set_cons_zero, List.set_cons_succ]
  refine wpAnyH_take (i := 4) (oi := ?o4) (v := ?v4) ?hi4 (by kernel_rfl) (by kernel_rfl) (by kernel_rfl) (fun _ _ _ h => h) ?hy4 (by assumption) ?r4
  case hi4 => simp only [List.getElem?_toArray, List.getElem?_cons_succ, List.getElem?_cons_zero]; rfl
  case hy4 => exact Or.inl ⟨by rfl, by (intro w hSw; (try dsimp only at hSw); obtain ⟨r0, hSw⟩ := hSw; obtain ⟨⟨q0, q1, q2, q3, q4, q5, q6⟩, ⟨q7, q8⟩, ⟨q9, qa, qb⟩, qc, qd⟩ := hSw.cells; obtain ⟨u0, u1, u2, u3⟩ := hSw.unfrozen; go_simp) <;> with_reducible rfl⟩
  try simp only [Act.put, List.setIfInBounds_toArray, List.set_cons_zero, List.set_cons_succ]
  refine wpAnyH_ready (rs := [3]) (by kernel_rfl) (by simp) ?_
  refine AllReadyH.cons (o := ?o3) ?hi3 (fun K hK => ?st3) AllReadyH.nil
  case hi3 => simp only [List.getElem?_toArray, List.getElem?_cons_succ, List.getElem?_cons_zero]; rfl
  (try dsimp only at hHeld); obtain ⟨r0, hF⟩ := hHeld; obtain ⟨⟨q0, q1, q2, q3, q4, q5, q6⟩, ⟨q7, q8⟩, ⟨q9, qa, qb⟩, qc, qd⟩ := hF.cells; obtain ⟨u0, u1, u2, u3⟩ := hF.unfrozen
  go_simp
  (go_at_call 21; refine (HA.out _ hF.2.2.2.2).mono ?_; rintro e w' ⟨rfl, hbl⟩)
  refine hK.out _ _ ?_ (fun hHeld => ?_)
  · (try dsimp only); (first | exact ⟨_, hF.below hbl⟩ | exact ⟨_, hF.set ⟨op, to⟩⟩)
  clear hK K
  try simp only [Act.put, List.setIfInBounds_toArray, List.set_cons_zero, List.set_cons_succ]
  refine wpAnyH_take (i := 5) (oi := ?o5) (v := ?v5) ?hi5 (by kernel_rfl) (by kernel_rfl) (by kernel_rfl) (fun _ _ _ h => h) ?hy5 (by assumption) ?r5
  case hi5 => simp only [List.getElem?_toArray, List.getElem?_cons_succ, List.getElem?_cons_zero]; rfl
  case hy5 => exact Or.inl ⟨by rfl, by (intro w hSw; (try dsimp only at hSw); obtain ⟨r0, hSw⟩ := hSw; obtain ⟨⟨q0, q1, q2, q3, q4, q5, q6⟩, ⟨q7, q8⟩, ⟨q9, qa, qb⟩, qc, qd⟩ := hSw.cells; obtain ⟨u0, u1, u2, u3⟩ := hSw.unfrozen; go_simp) <;> with_reducible rfl⟩
  try simp only [Act.put, List.setIfInBounds_toArray, List.set_cons_zero, List.set_cons_succ]
  refine wpAnyH_ready (rs := [6]) (by kernel_rfl) (by simp) ?_
  refine AllReadyH.cons (o := ?o6) ?hi6 (fun K hK => ?st6) AllReadyH.nil
  case hi6 => simp only [List.getElem?_toArray, List.getElem?_cons_succ, List.getElem?_cons_zero]; rfl
  (try dsimp only at hHeld); obtain ⟨r0, hF⟩ := hHeld; obtain ⟨⟨q0, q1, q2, q3, q4, q5, q6⟩, ⟨q7, q8⟩, ⟨q9, qa, qb⟩, qc, qd⟩ := hF.cells; obtain ⟨u0, u1, u2, u3⟩ := hF.unfrozen
  go_simp
  refine hK.out _ _ ?_ (fun hHeld => ?_)
  · (try dsimp only); (first | exact ⟨_, hF.below hbl⟩ | exact ⟨_, hF.set ⟨op, to⟩⟩)
  clear hK K
  try simp only [Act.put, List.setIfInBounds_toArray, List.set_cons_zero, List.set_cons_succ]
  refine wpAnyH_done (by kernel_rfl) ?_ _
  refine NoPanic.normal ?_
  clear hHeld
  go_wp2
  exact bodyPost_ret (v := .tuple #[.bool x, SV2 ⟨op, to⟩]) ((hF.set ⟨op, to⟩).ans _ rfl rfl) rfl ⟨by rw [HO.out], (hF.set ⟨op, to⟩).2.2.2.2⟩
set_option maxRecDepth 100000 in
set_option maxHeartbeats 1600000 in
theorem rask_b1 (ak an am : Int) (bn bm : Int) (nt : Bool) (to N : Int) (last : Bool) (ao : Option Addr) (c : Nat) (hs : List Bool) (w : World) (hN : 0 ≤ N ∧ N ≤ 999999999) (hb : Bs w (.slice ao hs.length c) hs)
    (ha : ak = 3 → 0 ≤ an) (h : to < N) : AskRP ⟨ak, an, am⟩ ⟨1, bn, bm⟩ nt ⟨true, to⟩ N last (.slice ao hs.length c) hs w := by
  have HA : Hid (∀ w', Below w.heap.size w w' → Calls Tryd.prog 21 #[AV ⟨ak, an, am⟩, LV N last (.slice ao hs.length c)] w' fun e w2 => e = .returned (.bool (hits ⟨ak, an, am⟩ ⟨N, last, hs⟩)) ∧ Below w'.heap.size w' w2) := Lib.hid (fun w' h => by
    have q := rhits_any ⟨ak, an, am⟩ ⟨N, last, hs⟩ ao c w' ⟨ha, hN⟩ (hb.below h)
    exact q)
  have HF := Lib.hid (fr0R w ⟨ak, an, am⟩ ⟨1, bn, bm⟩ nt ⟨true, to⟩ N last (.slice ao hs.length c))
  have HO := Lib.hid (show askL ⟨ak, an, am⟩ ⟨1, bn, bm⟩ ⟨true, to⟩ ⟨N, last, hs⟩ = (hits ⟨ak, an, am⟩ ⟨N, last, hs⟩, ⟨false, 0⟩) from by rw [askL_open (by simp), if_pos ⟨rfl, h⟩])
  clear hb
  generalize Value.slice ao hs.length c = v at *
  generalize hits ⟨ak, an, am⟩ ⟨N, last, hs⟩ = x at *
  go_enter Tryd.func40, Tryd.ntmps40
  go_wp2_with (go_at_call 21; refine (HA.out _ HF.out.2.2.2.2).mono ?_; rintro e w1 ⟨rfl, hb1⟩; have HF1 := Lib.hid (HF.out.below hb1); clear hb1; obtain ⟨⟨q0, q1, q2, q3, q4, q5, q6⟩, ⟨q7, q8⟩, ⟨q9, qa, qb⟩, qc, qd⟩ := HF1.out.cells; obtain ⟨u0, u1, u2, u3⟩ := HF1.out.unfrozen)
  exact bodyPost_ret (v := .tuple #[.bool x, SV2 ⟨false, 0⟩]) ((HF1.out.set ⟨false, 0⟩).ans _ rfl rfl) rfl ⟨by rw [HO.out], (HF1.out.set ⟨false, 0⟩).2.2.2.2⟩
set_option maxRecDepth 100000 in
set_option maxHeartbeats 1600000 in
theorem rask_b2 (ak an am : Int) (bn bm : Int) (nt : Bool) (to N : Int) (last : Bool) (ao : Option Addr) (c : Nat) (hs : List Bool) (w : World) (hN : 0 ≤ N ∧ N ≤ 999999999) (hb : Bs w (.slice ao hs.length c) hs)
     : AskRP ⟨ak, an, am⟩ ⟨1, bn, bm⟩ nt ⟨true, N⟩ N last (.slice ao hs.length c) hs w := by
  have HF := Lib.hid (fr0R w ⟨ak, an, am⟩ ⟨1, bn, bm⟩ nt ⟨true, N⟩ N last (.slice ao hs.length c))
  have HO := Lib.hid (show askL ⟨ak, an, am⟩ ⟨1, bn, bm⟩ ⟨true, N⟩ ⟨N, last, hs⟩ = (true, ⟨false, 0⟩) from by rw [askL_open (by simp), if_neg (by simp), over_1 rfl, if_pos (by simp)])
  clear hb
  generalize Value.slice ao hs.length c = v at *
  go_enter Tryd.func40, Tryd.ntmps40
  go_wp2
  have HF0 := Lib.hid (fr0R w ⟨ak, an, am⟩ ⟨1, bn, bm⟩ nt ⟨false, 0⟩ N last v)
  have HFr := Lib.hid ((fr0rR w ⟨ak, an, am⟩ ⟨1, bn, bm⟩ nt ⟨false, 0⟩ ⟨false, 0⟩ N last v).below (Below.refl _ _).drew)
  refine wp_region_noPanic ?_
  refine wp_region_held_drew (S := fun w' => ∃ r, FrR w ⟨ak, an, am⟩ ⟨1, bn, bm⟩ nt ⟨false, 0⟩ r N last v w') (by kernel_rfl) ?_ (fun hHeld => ?_)
  · (try dsimp only); exact ⟨_, HF0.out.below (Below.refl _ _).drew⟩
  refine wpAnyH_take (i := 0) (oi := ?o0) (v := ?v0) ?hi0 (by kernel_rfl) (by kernel_rfl) (by kernel_rfl) (fun _ _ _ h => h) ?hy0 (by assumption) ?r0
  case hi0 => simp only [List.getElem?_toArray, List.getElem?_cons_succ, List.getElem?_cons_zero]; rfl
  case hy0 => exact Or.inl ⟨by rfl, by (intro w hSw; (try dsimp only at hSw); obtain ⟨r0, hSw⟩ := hSw; obtain ⟨⟨q0, q1, q2, q3, q4, q5, q6⟩, ⟨q7, q8⟩, ⟨q9, qa, qb⟩, qc, qd⟩ := hSw.cells; obtain ⟨u0, u1, u2, u3⟩ := hSw.unfrozen; go_simp) <;> with_reducible rfl⟩
  try simp only [Act.put, List.setIfInBounds_toArray, List.set_cons_zero, List.set_cons_succ]
  refine wpAnyH_take (i := 1) (oi := ?o1) (v := ?v1) ?hi1 (by kernel_rfl) (by kernel_rfl) (by kernel_rfl) (fun _ _ _ h => h) ?hy1 (by assumption) ?r1
  case hi1 => simp only [List.getElem?_toArray, List.getElem?_cons_succ, List.getElem?_cons_zero]; rfl
  case hy1 => exact Or.inl ⟨by rfl, by (intro w hSw; (try dsimp only at hSw); obtain ⟨r0, hSw⟩ := hSw; obtain ⟨⟨q0, q1, q2, q3, q4, q5, q6⟩, ⟨q7, q8⟩, ⟨q9, qa, qb⟩, qc, qd⟩ := hSw.cells; obtain ⟨u0, u1, u2, u3⟩ := hSw.unfrozen; go_simp) <;> with_reducible rfl⟩
  try simp only [Act.put, List.setIfInBounds_toArray, List.set_cons_zero, List.set_cons_succ]
  refine wpAnyH_ready (rs := [2]) (by kernel_rfl) (by simp) ?_
  refine AllReadyH.cons (o := ?o2) ?hi2 (fun K hK => ?st2) AllReadyH.nil
  case hi2 => simp only [List.getElem?_toArray, List.getElem?_cons_succ, List.getElem?_cons_zero]; rfl
  (try dsimp only at hHeld); obtain ⟨r0, hF⟩ := hHeld; obtain ⟨⟨q0, q1, q2, q3, q4, q5, q6⟩, ⟨q7, q8⟩, ⟨q9, qa, qb⟩, qc, qd⟩ := hF.cells; obtain ⟨u0, u1, u2, u3⟩ := hF.unfrozen
  go_simp
  refine hK.out _ _ ?_ (fun hHeld => ?_)
  · (try dsimp only); (exact ⟨_, HFr.out⟩)
  clear hK K
  try simp only [Act.put, List.setIfInBounds_toArray, List.set_cons_zero, List.set_cons_succ]
  refine wpAnyH_done (by kernel_rfl) ?_ _
  refine NoPanic.normal ?_
  clear hHeld
  go_wp2
  exact bodyPost_ret (v := .tuple #[.bool true, SV2 ⟨false, 0⟩]) ((HFr.out).ans _ rfl rfl) rfl ⟨by rw [HO.out], (HFr.out).2.2.2.2⟩
set_option maxRecDepth 100000 in
set_option maxHeartbeats 1600000 in
theorem rask_b3 (ak an am : Int) (bn bm : Int) (nt : Bool) (to N : Int) (last : Bool) (ao : Option Addr) (c : Nat) (hs : List Bool) (w : World) (hN : 0 ≤ N ∧ N ≤ 999999999) (hb : Bs w (.slice ao hs.length c) hs)
    (h : N < to) : AskRP ⟨ak, an, am⟩ ⟨1, bn, bm⟩ nt ⟨true, to⟩ N last (.slice ao hs.length c) hs w := by
  have HF := Lib.hid (fr0R w ⟨ak, an, am⟩ ⟨1, bn, bm⟩ nt ⟨true, to⟩ N last (.slice ao hs.length c))
  have HO := Lib.hid (show askL ⟨ak, an, am⟩ ⟨1, bn, bm⟩ ⟨true, to⟩ ⟨N, last, hs⟩ = (true, ⟨true, to⟩) from by rw [askL_open (by simp), if_neg (by simp; omega), over_1 rfl, if_neg (by simp; omega)])
  have h2 : ¬ to < N := by omega
  have h3 := nEq (show N ≠ to by omega)
  clear hb
  generalize Value.slice ao hs.length c = v at *
  go_enter Tryd.func40, Tryd.ntmps40
  go_wp2
  have HFr := Lib.hid ((fr0rR w ⟨ak, an, am⟩ ⟨1, bn, bm⟩ nt ⟨true, to⟩ ⟨true, to⟩ N last v).below (Below.refl _ _).drew)
  refine wp_region_noPanic ?_
  refine wp_region_held_drew (S := fun w' => ∃ r, FrR w ⟨ak, an, am⟩ ⟨1, bn, bm⟩ nt ⟨true, to⟩ r N last v w') (by kernel_rfl) ?_ (fun hHeld => ?_)
  · (try dsimp only); exact ⟨_, HF.out.below (Below.refl _ _).drew⟩
  refine wpAnyH_take (i := 0) (oi := ?o0) (v := ?v0) ?hi0 (by kernel_rfl) (by kernel_rfl) (by kernel_rfl) (fun _ _ _ h => h) ?hy0 (by assumption) ?r0
  case hi0 => simp only [List.getElem?_toArray, List.getElem?_cons_succ, List.getElem?_cons_zero]; rfl
  case hy0 => exact Or.inl ⟨by rfl, by (intro w hSw; (try dsimp only at hSw); obtain ⟨r0, hSw⟩ := hSw; obtain ⟨⟨q0, q1, q2, q3, q4, q5, q6⟩, ⟨q7, q8⟩, ⟨q9, qa, qb⟩, qc, qd⟩ := hSw.cells; obtain ⟨u0, u1, u2, u3⟩ := hSw.unfrozen; go_simp) <;> with_reducible rfl⟩
  try simp only [Act.put, List.setIfInBounds_toArray, List.set_cons_zero, List.set_cons_succ]
  refine wpAnyH_take (i := 1) (oi := ?o1) (v := ?v1) ?hi1 (by kernel_rfl) (by kernel_rfl) (by kernel_rfl) (fun _ _ _ h => h) ?hy1 (by assumption) ?r1
  case hi1 => simp only [List.getElem?_toArray, List.getElem?_cons_succ, List.getElem?_cons_zero]; rfl
  case hy1 => exact Or.inl ⟨by rfl, by (intro w hSw; (try dsimp only at hSw); obtain ⟨r0, hSw⟩ := hSw; obtain ⟨⟨q0, q1, q2, q3, q4, q5, q6⟩, ⟨q7, q8⟩, ⟨q9, qa, qb⟩, qc, qd⟩ := hSw.cells; obtain ⟨u0, u1, u2, u3⟩ := hSw.unfrozen; go_simp) <;> with_reducible rfl⟩
  try simp only [Act.put, List.setIfInBounds_toArray, List.set_cons_zero, List.set_cons_succ]
  refine wpAnyH_ready (rs := [2]) (by kernel_rfl) (by simp) ?_
  refine AllReadyH.cons (o := ?o2) ?hi2 (fun K hK => ?st2) AllReadyH.nil
  case hi2 => simp only [List.getElem?_toArray, List.getElem?_cons_succ, List.getElem?_cons_zero]; rfl
  (try dsimp only at hHeld); obtain ⟨r0, hF⟩ := hHeld; obtain ⟨⟨q0, q1, q2, q3, q4, q5, q6⟩, ⟨q7, q8⟩, ⟨q9, qa, qb⟩, qc, qd⟩ := hF.cells; obtain ⟨u0, u1, u2, u3⟩ := hF.unfrozen
  go_simp
  refine hK.out _ _ ?_ (fun hHeld => ?_)
  · (try dsimp only); (exact ⟨_, HFr.out⟩)
  clear hK K
  try simp only [Act.put, List.setIfInBounds_toArray, List.set_cons_zero, List.set_cons_succ]
  refine wpAnyH_done (by kernel_rfl) ?_ _
  refine NoPanic.normal ?_
  clear hHeld
  go_wp2
  exact bodyPost_ret (v := .tuple #[.bool true, SV2 ⟨true, to⟩]) ((HFr.out).ans _ rfl rfl) rfl ⟨by rw [HO.out], (HFr.out).2.2.2.2⟩
set_option maxRecDepth 100000 in
set_option maxHeartbeats 1600000 in
theorem rask_b4 (ak an am : Int) (bk bn bm : Int) (nt : Bool) (to N : Int) (last : Bool) (ao : Option Addr) (c : Nat) (hs : List Bool) (w : World) (hN : 0 ≤ N ∧ N ≤ 999999999) (hb : Bs w (.slice ao hs.length c) hs)
    (h5 : 5 ≤ bk) (h : to ≤ N) : AskRP ⟨ak, an, am⟩ ⟨bk, bn, bm⟩ nt ⟨true, to⟩ N last (.slice ao hs.length c) hs w := by
  have HF := Lib.hid (fr0R w ⟨ak, an, am⟩ ⟨bk, bn, bm⟩ nt ⟨true, to⟩ N last (.slice ao hs.length c))
  have HO := Lib.hid (show askL ⟨ak, an, am⟩ ⟨bk, bn, bm⟩ ⟨true, to⟩ ⟨N, last, hs⟩ = (true, ⟨false, 0⟩) from by rw [askL_open (by simp; omega), if_neg (by simp; omega), over_5 h5, if_pos (by simpa using h)])
  have k0B := nEq (show bk ≠ 0 by omega)
  have k1B := nEq (show bk ≠ 1 by omega)
  have k2B := nEq (show bk ≠ 2 by omega)
  have k4B := nEq (show bk ≠ 4 by omega)
  clear hb
  generalize Value.slice ao hs.length c = v at *
  go_enter Tryd.func40, Tryd.ntmps40
  go_wp2
  have HF0 := Lib.hid (fr0R w ⟨ak, an, am⟩ ⟨bk, bn, bm⟩ nt ⟨false, 0⟩ N last v)
  have HFr := Lib.hid ((fr0rR w ⟨ak, an, am⟩ ⟨bk, bn, bm⟩ nt ⟨false, 0⟩ ⟨false, 0⟩ N last v).below (Below.refl _ _).drew)
  refine wp_region_noPanic ?_
  refine wp_region_held_drew (S := fun w' => ∃ r, FrR w ⟨ak, an, am⟩ ⟨bk, bn, bm⟩ nt ⟨false, 0⟩ r N last v w') (by kernel_rfl) ?_ (fun hHeld => ?_)
  · (try dsimp only); exact ⟨_, HF0.out.below (Below.refl _ _).drew⟩
  refine wpAnyH_take (i := 0) (oi := ?o0) (v := ?v0) ?hi0 (by kernel_rfl) (by kernel_rfl) (by kernel_rfl) (fun _ _ _ h => h) ?hy0 (by assumption) ?r0
  case hi0 => simp only [List.getElem?_toArray, List.getElem?_cons_succ, List.getElem?_cons_zero]; rfl
  case hy0 => exact Or.inl ⟨by rfl, by (intro w hSw; (try dsimp only at hSw); obtain ⟨r0, hSw⟩ := hSw; obtain ⟨⟨q0, q1, q2, q3, q4, q5, q6⟩, ⟨q7, q8⟩, ⟨q9, qa, qb⟩, qc, qd⟩ := hSw.cells; obtain ⟨u0, u1, u2, u3⟩ := hSw.unfrozen; go_simp) <;> with_reducible rfl⟩
  try simp only [Act.put, List.setIfInBounds_toArray, List.set_cons_zero, List.set_cons_succ]
  refine wpAnyH_take (i := 1) (oi := ?o1) (v := ?v1) ?hi1 (by kernel_rfl) (by kernel_rfl) (by kernel_rfl) (fun _ _ _ h => h) ?hy1 (by assumption) ?r1
  case hi1 => simp only [List.getElem?_toArray, List.getElem?_cons_succ, List.getElem?_cons_zero]; rfl
  case hy1 => exact Or.inl ⟨by rfl, by (intro w hSw; (try dsimp only at hSw); obtain ⟨r0, hSw⟩ := hSw; obtain ⟨⟨q0, q1, q2, q3, q4, q5, q6⟩, ⟨q7, q8⟩, ⟨q9, qa, qb⟩, qc, qd⟩ := hSw.cells; obtain ⟨u0, u1, u2, u3⟩ := hSw.unfrozen; go_simp) <;> with_reducible rfl⟩
  try simp only [Act.put, List.setIfInBounds_toArray, List.set_cons_zero, List.set_cons_succ]
  refine wpAnyH_ready (rs := [2]) (by kernel_rfl) (by simp) ?_
  refine AllReadyH.cons (o := ?o2) ?hi2 (fun K hK => ?st2) AllReadyH.nil
  case hi2 => simp only [List.getElem?_toArray, List.getElem?_cons_succ, List.getElem?_cons_zero]; rfl
  (try dsimp only at hHeld); obtain ⟨r0, hF⟩ := hHeld; obtain ⟨⟨q0, q1, q2, q3, q4, q5, q6⟩, ⟨q7, q8⟩, ⟨q9, qa, qb⟩, qc, qd⟩ := hF.cells; obtain ⟨u0, u1, u2, u3⟩ := hF.unfrozen
  go_simp
  refine hK.out _ _ ?_ (fun hHeld => ?_)
  · (try dsimp only); (exact ⟨_, HFr.out⟩)
  clear hK K
  try simp only [Act.put, List.setIfInBounds_toArray, List.set_cons_zero, List.set_cons_succ]
  refine wpAnyH_done (by kernel_rfl) ?_ _
  refine NoPanic.normal ?_
  clear hHeld
  go_wp2
  exact bodyPost_ret (v := .tuple #[.bool true, SV2 ⟨false, 0⟩]) ((HFr.out).ans _ rfl rfl) rfl ⟨by rw [HO.out], (HFr.out).2.2.2.2⟩
set_option maxRecDepth 100000 in
set_option maxHeartbeats 1600000 in
theorem rask_b5 (ak an am : Int) (bk bn bm : Int) (nt : Bool) (to N : Int) (last : Bool) (ao : Option Addr) (c : Nat) (hs : List Bool) (w : World) (hN : 0 ≤ N ∧ N ≤ 999999999) (hb : Bs w (.slice ao hs.length c) hs)
    (h5 : 5 ≤ bk) (h : N < to) : AskRP ⟨ak, an, am⟩ ⟨bk, bn, bm⟩ nt ⟨true, to⟩ N last (.slice ao hs.length c) hs w := by
  have HF := Lib.hid (fr0R w ⟨ak, an, am⟩ ⟨bk, bn, bm⟩ nt ⟨true, to⟩ N last (.slice ao hs.length c))
  have HO := Lib.hid (show askL ⟨ak, an, am⟩ ⟨bk, bn, bm⟩ ⟨true, to⟩ ⟨N, last, hs⟩ = (true, ⟨true, to⟩) from by rw [askL_open (by simp; omega), if_neg (by simp; omega), over_5 h5, if_neg (by simp; omega)])
  have k0B := nEq (show bk ≠ 0 by omega)
  have k1B := nEq (show bk ≠ 1 by omega)
  have k2B := nEq (show bk ≠ 2 by omega)
  have k4B := nEq (show bk ≠ 4 by omega)
  have h3 : ¬ to ≤ N := by omega
  clear hb
  generalize Value.slice ao hs.length c = v at *
  go_enter Tryd.func40, Tryd.ntmps40
  go_wp2
  have HFr := Lib.hid ((fr0rR w ⟨ak, an, am⟩ ⟨bk, bn, bm⟩ nt ⟨true, to⟩ ⟨true, to⟩ N last v).below (Below.refl _ _).drew)
  refine wp_region_noPanic ?_
  refine wp_region_held_drew (S := fun w' => ∃ r, FrR w ⟨ak, an, am⟩ ⟨bk, bn, bm⟩ nt ⟨true, to⟩ r N last v w') (by kernel_rfl) ?_ (fun hHeld => ?_)
  · (try dsimp only); exact ⟨_, HF.out.below (Below.refl _ _).drew⟩
  refine wpAnyH_take (i := 0) (oi := ?o0) (v := ?v0) ?hi0 (by kernel_rfl) (by kernel_rfl) (by kernel_rfl) (fun _ _ _ h => h) ?hy0 (by assumption) ?r0
  case hi0 => simp only [List.getElem?_toArray, List.getElem?_cons_succ, List.getElem?_cons_zero]; rfl
  case hy0 => exact Or.inl ⟨by rfl, by (intro w hSw; (try dsimp only at hSw); obtain ⟨r0, hSw⟩ := hSw; obtain ⟨⟨q0, q1, q2, q3, q4, q5, q6⟩, ⟨q7, q8⟩, ⟨q9, qa, qb⟩, qc, qd⟩ := hSw.cells; obtain ⟨u0, u1, u2, u3⟩ := hSw.unfrozen; go_simp) <;> with_reducible rfl⟩
  try simp only [Act.put, List.setIfInBounds_toArray, List.set_cons_zero, List.set_cons_succ]
  refine wpAnyH_take (i := 1) (oi := ?o1) (v := ?v1) ?hi1 (by kernel_rfl) (by kernel_rfl) (by kernel_rfl) (fun _ _ _ h => h) ?hy1 (by assumption) ?r1
  case hi1 => simp only [List.getElem?_toArray, List.getElem?_cons_succ, List.getElem?_cons_zero]; rfl
  case hy1 => exact Or.inl ⟨by rfl, by (intro w hSw; (try dsimp only at hSw); obtain ⟨r0, hSw⟩ := hSw; obtain ⟨⟨q0, q1, q2, q3, q4, q5, q6⟩, ⟨q7, q8⟩, ⟨q9, qa, qb⟩, qc, qd⟩ := hSw.cells; obtain ⟨u0, u1, u2, u3⟩ := hSw.unfrozen; go_simp) <;> with_reducible rfl⟩
  try simp only [Act.put, List.setIfInBounds_toArray, List.set_cons_zero, List.set_cons_succ]
  refine wpAnyH_ready (rs := [2]) (by kernel_rfl) (by simp) ?_
  refine AllReadyH.cons (o := ?o2) ?hi2 (fun K hK => ?st2) AllReadyH.nil
  case hi2 => simp only [List.getElem?_toArray, List.getElem?_cons_succ, List.getElem?_cons_zero]; rfl
  (try dsimp only at hHeld); obtain ⟨r0, hF⟩ := hHeld; obtain ⟨⟨q0, q1, q2, q3, q4, q5, q6⟩, ⟨q7, q8⟩, ⟨q9, qa, qb⟩, qc, qd⟩ := hF.cells; obtain ⟨u0, u1, u2, u3⟩ := hF.unfrozen
  go_simp
  refine hK.out _ _ ?_ (fun hHeld => ?_)
  · (try dsimp only); (exact ⟨_, HFr.out⟩)
  clear hK K
  try simp only [Act.put, List.setIfInBounds_toArray, List.set_cons_zero, List.set_cons_succ]
  refine wpAnyH_done (by kernel_rfl) ?_ _
  refine NoPanic.normal ?_
  clear hHeld
  go_wp2
  exact bodyPost_ret (v := .tuple #[.bool true, SV2 ⟨true, to⟩]) ((HFr.out).ans _ rfl rfl) rfl ⟨by rw [HO.out], (HFr.out).2.2.2.2⟩
set_option maxRecDepth 100000 in
set_option maxHeartbeats 1600000 in
theorem rask_b6 (ak an am : Int) (bn bm : Int) (nt : Bool) (to N : Int) (last : Bool) (ao : Option Addr) (c : Nat) (hs : List Bool) (w : World) (hN : 0 ≤ N ∧ N ≤ 999999999) (hb : Bs w (.slice ao hs.length c) hs)
    (hbn : (4 : Int) = 3 → 0 ≤ bn) (hx : hits ⟨4, bn, bm⟩ ⟨N, last, hs⟩ = true) : AskRP ⟨ak, an, am⟩ ⟨4, bn, bm⟩ nt ⟨true, to⟩ N last (.slice ao hs.length c) hs w := by
  have HB : Hid (∀ w', Below w.heap.size w w' → Calls Tryd.prog 21 #[AV ⟨4, bn, bm⟩, LV N last (.slice ao hs.length c)] w' fun e w2 => e = .returned (.bool true) ∧ Below w'.heap.size w' w2) := Lib.hid (fun w' h => by
    have q := rhits_any ⟨4, bn, bm⟩ ⟨N, last, hs⟩ ao c w' ⟨hbn, hN⟩ (hb.below h)
    rw [hx] at q
    exact q)
  have HF := Lib.hid (fr0R w ⟨ak, an, am⟩ ⟨4, bn, bm⟩ nt ⟨true, to⟩ N last (.slice ao hs.length c))
  have HO := Lib.hid (show askL ⟨ak, an, am⟩ ⟨4, bn, bm⟩ ⟨true, to⟩ ⟨N, last, hs⟩ = (true, ⟨false, 0⟩) from by rw [askL_open (by simp), if_neg (by simp), over_4 rfl, hx, if_pos rfl])
  clear hb
  generalize Value.slice ao hs.length c = v at *
  go_enter Tryd.func40, Tryd.ntmps40
  go_wp2_with (go_at_call 21; refine (HB.out _ HF.out.2.2.2.2).mono ?_; rintro e w1 ⟨rfl, hb1⟩; have HF1 := Lib.hid (HF.out.below hb1); clear hb1; obtain ⟨⟨q0, q1, q2, q3, q4, q5, q6⟩, ⟨q7, q8⟩, ⟨q9, qa, qb⟩, qc, qd⟩ := HF1.out.cells; obtain ⟨u0, u1, u2, u3⟩ := HF1.out.unfrozen)
  have HF2 := Lib.hid (HF1.out.setS ⟨false, 0⟩)
  revert HF2
  generalize World.setCell (World.setCell _ _ _) _ _ = W9
  intro HF2
  clear q7 q8
  obtain ⟨⟨q0, q1, q2, q3, q4, q5, q6⟩, ⟨q7, q8⟩, ⟨q9, qa, qb⟩, qc, qd⟩ := HF2.out.cells; obtain ⟨u0, u1, u2, u3⟩ := HF2.out.unfrozen
  refine wp_region_noPanic ?_
  refine wp_region_held_drew (S := fun w' => ∃ r, FrR w ⟨ak, an, am⟩ ⟨4, bn, bm⟩ nt ⟨false, 0⟩ r N last v w') (by kernel_rfl) ?_ (fun hHeld => ?_)
  · (try dsimp only); exact ⟨_, HF2.out.below (Below.refl _ _).drew⟩
  refine wpAnyH_take (i := 0) (oi := ?o0) (v := ?v0) ?hi0 (by kernel_rfl) (by kernel_rfl) (by kernel_rfl) (fun _ _ _ h => h) ?hy0 (by assumption) ?r0
  case hi0 => simp only [List.getElem?_toArray, List.getElem?_cons_succ, List.getElem?_cons_zero]; rfl
  case hy0 => exact Or.inl ⟨by rfl, by (intro w hSw; (try dsimp only at hSw); obtain ⟨r0, hSw⟩ := hSw; obtain ⟨⟨q0, q1, q2, q3, q4, q5, q6⟩, ⟨q7, q8⟩, ⟨q9, qa, qb⟩, qc, qd⟩ := hSw.cells; obtain ⟨u0, u1, u2, u3⟩ := hSw.unfrozen; go_simp) <;> with_reducible rfl⟩
  try simp only [Act.put, List.setIfInBounds_toArray, List.set_cons_zero, List.set_cons_succ]
  refine wpAnyH_take (i := 1) (oi := ?o1) (v := ?v1) ?hi1 (by kernel_rfl) (by kernel_rfl) (by kernel_rfl) (fun _ _ _ h => h) ?hy1 (by assumption) ?r1
  case hi1 => simp only [List.getElem?_toArray, List.getElem?_cons_succ, List.getElem?_cons_zero]; rfl
  case hy1 => exact Or.inl ⟨by rfl, by (intro w hSw; (try dsimp only at hSw); obtain ⟨r0, hSw⟩ := hSw; obtain ⟨⟨q0, q1, q2, q3, q4, q5, q6⟩, ⟨q7, q8⟩, ⟨q9, qa, qb⟩, qc, qd⟩ := hSw.cells; obtain ⟨u0, u1, u2, u3⟩ := hSw.unfrozen; go_simp) <;> with_reducible rfl⟩
  try simp only [Act.put, List.setIfInBounds_toArray, List.set_cons_zero, List.set_cons_succ]
  refine wpAnyH_ready (rs := [2]) (by kernel_rfl) (by simp) ?_
  refine AllReadyH.cons (o := ?o2) ?hi2 (fun K hK => ?st2) AllReadyH.nil
  case hi2 => simp only [List.getElem?_toArray, List.getElem?_cons_succ, List.getElem?_cons_zero]; rfl
  (try dsimp only at hHeld); obtain ⟨r0, hF⟩ := hHeld; obtain ⟨⟨q0, q1, q2, q3, q4, q5, q6⟩, ⟨q7, q8⟩, ⟨q9, qa, qb⟩, qc, qd⟩ := hF.cells; obtain ⟨u0, u1, u2, u3⟩ := hF.unfrozen
  go_simp
  refine hK.out _ _ ?_ (fun hHeld => ?_)
  · (try dsimp only); (first | exact ⟨_, hF.below hbl⟩ | exact ⟨_, hF.set ⟨false, 0⟩⟩)
  clear hK K
  try simp only [Act.put, List.setIfInBounds_toArray, List.set_cons_zero, List.set_cons_succ]
  refine wpAnyH_done (by kernel_rfl) ?_ _
  refine NoPanic.normal ?_
  clear hHeld
  go_wp2
  exact bodyPost_ret (v := .tuple #[.bool true, SV2 ⟨false, 0⟩]) ((hF.set ⟨false, 0⟩).ans _ rfl rfl) rfl ⟨by rw [HO.out], (hF.set ⟨false, 0⟩).2.2.2.2⟩
set_option maxRecDepth 100000 in
set_option maxHeartbeats 1600000 in
theorem rask_b7 (ak an am : Int) (bn bm : Int) (nt : Bool) (to N : Int) (last : Bool) (ao : Option Addr) (c : Nat) (hs : List Bool) (w : World) (hN : 0 ≤ N ∧ N ≤ 999999999) (hb : Bs w (.slice ao hs.length c) hs)
    (hbn : (4 : Int) = 3 → 0 ≤ bn) (hx : hits ⟨4, bn, bm⟩ ⟨N, last, hs⟩ = false) : AskRP ⟨ak, an, am⟩ ⟨4, bn, bm⟩ nt ⟨true, to⟩ N last (.slice ao hs.length c) hs w := by
  have HB : Hid (∀ w', Below w.heap.size w w' → Calls Tryd.prog 21 #[AV ⟨4, bn, bm⟩, LV N last (.slice ao hs.length c)] w' fun e w2 => e = .returned (.bool false) ∧ Below w'.heap.size w' w2) := Lib.hid (fun w' h => by
    have q := rhits_any ⟨4, bn, bm⟩ ⟨N, last, hs⟩ ao c w' ⟨hbn, hN⟩ (hb.below h)
    rw [hx] at q
    exact q)
  have HF := Lib.hid (fr0R w ⟨ak, an, am⟩ ⟨4, bn, bm⟩ nt ⟨true, to⟩ N last (.slice ao hs.length c))
  have HO := Lib.hid (show askL ⟨ak, an, am⟩ ⟨4, bn, bm⟩ ⟨true, to⟩ ⟨N, last, hs⟩ = (true, ⟨true, to⟩) from by rw [askL_open (by simp), if_neg (by simp), over_4 rfl, hx, if_neg (by simp)])
  clear hb
  generalize Value.slice ao hs.length c = v at *
  go_enter Tryd.func40, Tryd.ntmps40
  go_wp2_with (go_at_call 21; refine (HB.out _ HF.out.2.2.2.2).mono ?_; rintro e w1 ⟨rfl, hb1⟩; have HF1 := Lib.hid (HF.out.below hb1); clear hb1; obtain ⟨⟨q0, q1, q2, q3, q4, q5, q6⟩, ⟨q7, q8⟩, ⟨q9, qa, qb⟩, qc, qd⟩ := HF1.out.cells; obtain ⟨u0, u1, u2, u3⟩ := HF1.out.unfrozen)
  refine wp_region_noPanic ?_
  refine wp_region_held_drew (S := fun w' => ∃ r, FrR w ⟨ak, an, am⟩ ⟨4, bn, bm⟩ nt ⟨true, to⟩ r N last v w') (by kernel_rfl) ?_ (fun hHeld => ?_)
  · (try dsimp only); exact ⟨_, HF1.out.below (Below.refl _ _).drew⟩
  refine wpAnyH_take (i := 0) (oi := ?o0) (v := ?v0) ?hi0 (by kernel_rfl) (by kernel_rfl) (by kernel_rfl) (fun _ _ _ h => h) ?hy0 (by assumption) ?r0
  case hi0 => simp only [List.getElem?_toArray, List.getElem?_cons_succ, List.getElem?_cons_zero]; rfl
  case hy0 => exact Or.inl ⟨by rfl, by (intro w hSw; (try dsimp only at hSw); obtain ⟨r0, hSw⟩ := hSw; obtain ⟨⟨q0, q1, q2, q3, q4, q5, q6⟩, ⟨q7, q8⟩, ⟨q9, qa, qb⟩, qc, qd⟩ := hSw.cells; obtain ⟨u0, u1, u2, u3⟩ := hSw.unfrozen; go_simp) <;> with_reducible rfl⟩
  try simp only [Act.put, List.setIfInBounds_toArray, List.set_cons_zero, List.set_cons_succ]
  refine wpAnyH_take (i := 1) (oi := ?o1) (v := ?v1) ?hi1 (by kernel_rfl) (by kernel_rfl) (by kernel_rfl) (fun _ _ _ h => h) ?hy1 (by assumption) ?r1
  case hi1 => simp only [List.getElem?_toArray, List.getElem?_cons_succ, List.getElem?_cons_zero]; rfl
  case hy1 => exact Or.inl ⟨by rfl, by (intro w hSw; (try dsimp only at hSw); obtain ⟨r0, hSw⟩ := hSw; obtain ⟨⟨q0, q1, q2, q3, q4, q5, q6⟩, ⟨q7, q8⟩, ⟨q9, qa, qb⟩, qc, qd⟩ := hSw.cells; obtain ⟨u0, u1, u2, u3⟩ := hSw.unfrozen; go_simp) <;> with_reducible rfl⟩
  try simp only [Act.put, List.setIfInBounds_toArray, List.set_cons_zero, List.set_cons_succ]
  refine wpAnyH_ready (rs := [2]) (by kernel_rfl) (by simp) ?_
  refine AllReadyH.cons (o := ?o2) ?hi2 (fun K hK => ?st2) AllReadyH.nil
  case hi2 => simp only [List.getElem?_toArray, List.getElem?_cons_succ, List.getElem?_cons_zero]; rfl
  (try dsimp only at hHeld); obtain ⟨r0, hF⟩ := hHeld; obtain ⟨⟨q0, q1, q2, q3, q4, q5, q6⟩, ⟨q7, q8⟩, ⟨q9, qa, qb⟩, qc, qd⟩ := hF.cells; obtain ⟨u0, u1, u2, u3⟩ := hF.unfrozen
  go_simp
  refine hK.out _ _ ?_ (fun hHeld => ?_)
  · (try dsimp only); (first | exact ⟨_, hF.below hbl⟩ | exact ⟨_, hF.set ⟨true, to⟩⟩)
  clear hK K
  try simp only [Act.put, List.setIfInBounds_toArray, List.set_cons_zero, List.set_cons_succ]
  refine wpAnyH_done (by kernel_rfl) ?_ _
  refine NoPanic.normal ?_
  clear hHeld
  go_wp2
  exact bodyPost_ret (v := .tuple #[.bool true, SV2 ⟨true, to⟩]) ((hF.set ⟨true, to⟩).ans _ rfl rfl) rfl ⟨by rw [HO.out], (hF.set ⟨true, to⟩).2.2.2.2⟩
set_option maxRecDepth 100000 in
set_option maxHeartbeats 1600000 in
theorem rask_b8 (ak an am : Int) (bn bm : Int) (nt : Bool) (to N : Int) (ao : Option Addr) (c : Nat) (hs : List Bool) (w : World) (hN : 0 ≤ N ∧ N ≤ 999999999) (hb : Bs w (.slice ao hs.length c) hs)
     : AskRP ⟨ak, an, am⟩ ⟨2, bn, bm⟩ nt ⟨true, to⟩ N true (.slice ao hs.length c) hs w := by
  have HF := Lib.hid (fr0R w ⟨ak, an, am⟩ ⟨2, bn, bm⟩ nt ⟨true, to⟩ N true (.slice ao hs.length c))
  have HO := Lib.hid (show askL ⟨ak, an, am⟩ ⟨2, bn, bm⟩ ⟨true, to⟩ ⟨N, true, hs⟩ = (true, ⟨false, 0⟩) from by rw [askL_open (by simp), if_neg (by simp), over_2 rfl, hits_2e rfl]; rfl)
  clear hb
  generalize Value.slice ao hs.length c = v at *
  go_enter Tryd.func40, Tryd.ntmps40
  go_wp2
  have HF0 := Lib.hid (fr0R w ⟨ak, an, am⟩ ⟨2, bn, bm⟩ nt ⟨false, 0⟩ N true v)
  have HFr := Lib.hid ((fr0rR w ⟨ak, an, am⟩ ⟨2, bn, bm⟩ nt ⟨false, 0⟩ ⟨false, 0⟩ N true v).below (Below.refl _ _).drew)
  refine wp_region_noPanic ?_
  refine wp_region_held_drew (S := fun w' => ∃ r, FrR w ⟨ak, an, am⟩ ⟨2, bn, bm⟩ nt ⟨false, 0⟩ r N true v w') (by kernel_rfl) ?_ (fun hHeld => ?_)
  · (try dsimp only); exact ⟨_, HF0.out.below (Below.refl _ _).drew⟩
  refine wpAnyH_take (i := 0) (oi := ?o0) (v := ?v0) ?hi0 (by kernel_rfl) (by kernel_rfl) (by kernel_rfl) (fun _ _ _ h => h) ?hy0 (by assumption) ?r0
  case hi0 => simp only [List.getElem?_toArray, List.getElem?_cons_succ, List.getElem?_cons_zero]; rfl
  case hy0 => exact Or.inl ⟨by rfl, by (intro w hSw; (try dsimp only at hSw); obtain ⟨r0, hSw⟩ := hSw; obtain ⟨⟨q0, q1, q2, q3, q4, q5, q6⟩, ⟨q7, q8⟩, ⟨q9, qa, qb⟩, qc, qd⟩ := hSw.cells; obtain ⟨u0, u1, u2, u3⟩ := hSw.unfrozen; go_simp) <;> with_reducible rfl⟩
  try simp only [Act.put, List.setIfInBounds_toArray, List.set_cons_zero, List.set_cons_succ]
  refine wpAnyH_take (i := 1) (oi := ?o1) (v := ?v1) ?hi1 (by kernel_rfl) (by kernel_rfl) (by kernel_rfl) (fun _ _ _ h => h) ?hy1 (by assumption) ?r1
  case hi1 => simp only [List.getElem?_toArray, List.getElem?_cons_succ, List.getElem?_cons_zero]; rfl
  case hy1 => exact Or.inl ⟨by rfl, by (intro w hSw; (try dsimp only at hSw); obtain ⟨r0, hSw⟩ := hSw; obtain ⟨⟨q0, q1, q2, q3, q4, q5, q6⟩, ⟨q7, q8⟩, ⟨q9, qa, qb⟩, qc, qd⟩ := hSw.cells; obtain ⟨u0, u1, u2, u3⟩ := hSw.unfrozen; go_simp) <;> with_reducible rfl⟩
  try simp only [Act.put, List.setIfInBounds_toArray, List.set_cons_zero, List.set_cons_succ]
  refine wpAnyH_ready (rs := [2]) (by kernel_rfl) (by simp) ?_
  refine AllReadyH.cons (o := ?o2) ?hi2 (fun K hK => ?st2) AllReadyH.nil
  case hi2 => simp only [List.getElem?_toArray, List.getElem?_cons_succ, List.getElem?_cons_zero]; rfl
  (try dsimp only at hHeld); obtain ⟨r0, hF⟩ := hHeld; obtain ⟨⟨q0, q1, q2, q3, q4, q5, q6⟩, ⟨q7, q8⟩, ⟨q9, qa, qb⟩, qc, qd⟩ := hF.cells; obtain ⟨u0, u1, u2, u3⟩ := hF.unfrozen
  go_simp
  refine hK.out _ _ ?_ (fun hHeld => ?_)
  · (try dsimp only); (exact ⟨_, HFr.out⟩)
  clear hK K
  try simp only [Act.put, List.setIfInBounds_toArray, List.set_cons_zero, List.set_cons_succ]
  refine wpAnyH_done (by kernel_rfl) ?_ _
  refine NoPanic.normal ?_
  clear hHeld
  go_wp2
  exact bodyPost_ret (v := .tuple #[.bool true, SV2 ⟨false, 0⟩]) ((HFr.out).ans _ rfl rfl) rfl ⟨by rw [HO.out], (HFr.out).2.2.2.2⟩
set_option maxRecDepth 100000 in
set_option maxHeartbeats 1600000 in
theorem rask_b9 (ak an am : Int) (bn bm : Int) (nt : Bool) (to N : Int) (ao : Option Addr) (c : Nat) (hs : List Bool) (w : World) (hN : 0 ≤ N ∧ N ≤ 999999999) (hb : Bs w (.slice ao hs.length c) hs)
     : AskRP ⟨ak, an, am⟩ ⟨2, bn, bm⟩ nt ⟨true, to⟩ N false (.slice ao hs.length c) hs w := by
  have HF := Lib.hid (fr0R w ⟨ak, an, am⟩ ⟨2, bn, bm⟩ nt ⟨true, to⟩ N false (.slice ao hs.length c))
  have HO := Lib.hid (show askL ⟨ak, an, am⟩ ⟨2, bn, bm⟩ ⟨true, to⟩ ⟨N, false, hs⟩ = (true, ⟨true, to⟩) from by rw [askL_open (by simp), if_neg (by simp), over_2 rfl, hits_2e rfl]; rfl)
  clear hb
  generalize Value.slice ao hs.length c = v at *
  go_enter Tryd.func40, Tryd.ntmps40
  go_wp2
  have HFr := Lib.hid ((fr0rR w ⟨ak, an, am⟩ ⟨2, bn, bm⟩ nt ⟨true, to⟩ ⟨true, to⟩ N false v).below (Below.refl _ _).drew)
  refine wp_region_noPanic ?_
  refine wp_region_held_drew (S := fun w' => ∃ r, FrR w ⟨ak, an, am⟩ ⟨2, bn, bm⟩ nt ⟨true, to⟩ r N false v w') (by kernel_rfl) ?_ (fun hHeld => ?_)
  · (try dsimp only); exact ⟨_, HF.out.below (Below.refl _ _).drew⟩
  refine wpAnyH_take (i := 0) (oi := ?o0) (v := ?v0) ?hi0 (by kernel_rfl) (by kernel_rfl) (by kernel_rfl) (fun _ _ _ h => h) ?hy0 (by assumption) ?r0
  case hi0 => simp only [List.getElem?_toArray, List.getElem?_cons_succ, List.getElem?_cons_zero]; rfl
  case hy0 => exact Or.inl ⟨by rfl, by (intro w hSw; (try dsimp only at hSw); obtain ⟨r0, hSw⟩ := hSw; obtain ⟨⟨q0, q1, q2, q3, q4, q5, q6⟩, ⟨q7, q8⟩, ⟨q9, qa, qb⟩, qc, qd⟩ := hSw.cells; obtain ⟨u0, u1, u2, u3⟩ := hSw.unfrozen; go_simp) <;> with_reducible rfl⟩
  try simp only [Act.put, List.setIfInBounds_toArray, List.set_cons_zero, List.set_cons_succ]
  refine wpAnyH_take (i := 1) (oi := ?o1) (v := ?v1) ?hi1 (by kernel_rfl) (by kernel_rfl) (by kernel_rfl) (fun _ _ _ h => h) ?hy1 (by assumption) ?r1
  case hi1 => simp only [List.getElem?_toArray, List.getElem?_cons_succ, List.getElem?_cons_zero]; rfl
  case hy1 => exact Or.inl ⟨by rfl, by (intro w hSw; (try dsimp only at hSw); obtain ⟨r0, hSw⟩ := hSw; obtain ⟨⟨q0, q1, q2, q3, q4, q5, q6⟩, ⟨q7, q8⟩, ⟨q9, qa, qb⟩, qc, qd⟩ := hSw.cells; obtain ⟨u0, u1, u2, u3⟩ := hSw.unfrozen; go_simp) <;> with_reducible rfl⟩
  try simp only [Act.put, List.setIfInBounds_toArray, List.set_cons_zero, List.set_cons_succ]
  refine wpAnyH_ready (rs := [2]) (by kernel_rfl) (by simp) ?_
  refine AllReadyH.cons (o := ?o2) ?hi2 (fun K hK => ?st2) AllReadyH.nil
  case hi2 => simp only [List.getElem?_toArray, List.getElem?_cons_succ, List.getElem?_cons_zero]; rfl
  (try dsimp only at hHeld); obtain ⟨r0, hF⟩ := hHeld; obtain ⟨⟨q0, q1, q2, q3, q4, q5, q6⟩, ⟨q7, q8⟩, ⟨q9, qa, qb⟩, qc, qd⟩ := hF.cells; obtain ⟨u0, u1, u2, u3⟩ := hF.unfrozen
  go_simp
  refine hK.out _ _ ?_ (fun hHeld => ?_)
  · (try dsimp only); (exact ⟨_, HFr.out⟩)
  clear hK K
  try simp only [Act.put, List.setIfInBounds_toArray, List.set_cons_zero, List.set_cons_succ]
  refine wpAnyH_done (by kernel_rfl) ?_ _
  refine NoPanic.normal ?_
  clear hHeld
  go_wp2
  exact bodyPost_ret (v := .tuple #[.bool true, SV2 ⟨true, to⟩]) ((HFr.out).ans _ rfl rfl) rfl ⟨by rw [HO.out], (HFr.out).2.2.2.2⟩
set_option maxRecDepth 100000 in
set_option maxHeartbeats 1600000 in
theorem rask_c1f (ak an am : Int) (bk bn bm : Int) (nt : Bool) (to N : Int) (last : Bool) (ao : Option Addr) (c : Nat) (hs : List Bool) (w : World) (hN : 0 ≤ N ∧ N ≤ 999999999) (hb : Bs w (.slice ao hs.length c) hs)
    (ha : ak = 3 → 0 ≤ an) (hak : ak ≠ 1) (hx : hits ⟨ak, an, am⟩ ⟨N, last, hs⟩ = false) (k0 : bk ≠ 0) : AskRP ⟨ak, an, am⟩ ⟨bk, bn, bm⟩ nt ⟨false, to⟩ N last (.slice ao hs.length c) hs w := by
  have HA : Hid (∀ w', Below w.heap.size w w' → Calls Tryd.prog 21 #[AV ⟨ak, an, am⟩, LV N last (.slice ao hs.length c)] w' fun e w2 => e = .returned (.bool false) ∧ Below w'.heap.size w' w2) := Lib.hid (fun w' h => by
    have q := rhits_any ⟨ak, an, am⟩ ⟨N, last, hs⟩ ao c w' ⟨ha, hN⟩ (hb.below h)
    rw [hx] at q
    exact q)
  have HF := Lib.hid (fr0R w ⟨ak, an, am⟩ ⟨bk, bn, bm⟩ nt ⟨false, to⟩ N last (.slice ao hs.length c))
  have HO := Lib.hid (show askL ⟨ak, an, am⟩ ⟨bk, bn, bm⟩ ⟨false, to⟩ ⟨N, last, hs⟩ = (false, ⟨false, to⟩) from by rw [askL_shut k0 (fun q => hak q.1), hx]; rfl)
  have k0B := nEq k0
  have hakB := nEq hak
  clear hx k0
  clear hb
  generalize Value.slice ao hs.length c = v at *
  go_enter Tryd.func40, Tryd.ntmps40
  go_wp2_with (go_at_call 21; refine (HA.out _ HF.out.2.2.2.2).mono ?_; rintro e w1 ⟨rfl, hb1⟩; have HF1 := Lib.hid (HF.out.below hb1); clear hb1; obtain ⟨⟨q0, q1, q2, q3, q4, q5, q6⟩, ⟨q7, q8⟩, ⟨q9, qa, qb⟩, qc, qd⟩ := HF1.out.cells; obtain ⟨u0, u1, u2, u3⟩ := HF1.out.unfrozen)
  refine wp_region_noPanic ?_
  refine wp_region_held_drew (S := fun w' => ∃ r, FrR w ⟨ak, an, am⟩ ⟨bk, bn, bm⟩ nt ⟨false, to⟩ r N last v w') (by kernel_rfl) ?_ (fun hHeld => ?_)
  · (try dsimp only); exact ⟨_, HF1.out.below (Below.refl _ _).drew⟩
  refine wpAnyH_take (i := 0) (oi := ?o0) (v := ?v0) ?hi0 (by kernel_rfl) (by kernel_rfl) (by kernel_rfl) (fun _ _ _ h => h) ?hy0 (by assumption) ?r0
  case hi0 => simp only [List.getElem?_toArray, List.getElem?_cons_succ, List.getElem?_cons_zero]; rfl
  case hy0 => exact Or.inl ⟨by rfl, by (intro w hSw; (try dsimp only at hSw); obtain ⟨r0, hSw⟩ := hSw; obtain ⟨⟨q0, q1, q2, q3, q4, q5, q6⟩, ⟨q7, q8⟩, ⟨q9, qa, qb⟩, qc, qd⟩ := hSw.cells; obtain ⟨u0, u1, u2, u3⟩ := hSw.unfrozen; go_simp) <;> with_reducible rfl⟩
  try simp only [Act.put, List.setIfInBounds_toArray, List.set_cons_zero, List.set_cons_succ]
  refine wpAnyH_take (i := 1) (oi := ?o1) (v := ?v1) ?hi1 (by kernel_rfl) (by kernel_rfl) (by kernel_rfl) (fun _ _ _ h => h) ?hy1 (by assumption) ?r1
  case hi1 => simp only [List.getElem?_toArray, List.getElem?_cons_succ, List.getElem?_cons_zero]; rfl
  case hy1 => exact Or.inl ⟨by rfl, by (intro w hSw; (try dsimp only at hSw); obtain ⟨r0, hSw⟩ := hSw; obtain ⟨⟨q0, q1, q2, q3, q4, q5, q6⟩, ⟨q7, q8⟩, ⟨q9, qa, qb⟩, qc, qd⟩ := hSw.cells; obtain ⟨u0, u1, u2, u3⟩ := hSw.unfrozen; go_simp) <;> with_reducible rfl⟩
  try simp only [Act.put, List.setIfInBounds_toArray, List.set_cons_zero, List.set_cons_succ]
  refine wpAnyH_ready (rs := [2]) (by kernel_rfl) (by simp) ?_
  refine AllReadyH.cons (o := ?o2) ?hi2 (fun K hK => ?st2) AllReadyH.nil
  case hi2 => simp only [List.getElem?_toArray, List.getElem?_cons_succ, List.getElem?_cons_zero]; rfl
  (try dsimp only at hHeld); obtain ⟨r0, hF⟩ := hHeld; obtain ⟨⟨q0, q1, q2, q3, q4, q5, q6⟩, ⟨q7, q8⟩, ⟨q9, qa, qb⟩, qc, qd⟩ := hF.cells; obtain ⟨u0, u1, u2, u3⟩ := hF.unfrozen
  go_simp
  refine hK.out _ _ ?_ (fun hHeld => ?_)
  · (try dsimp only); (first | exact ⟨_, hF.below hbl⟩ | exact ⟨_, hF.set ⟨false, to⟩⟩)
  clear hK K
  try simp only [Act.put, List.setIfInBounds_toArray, List.set_cons_zero, List.set_cons_succ]
  refine wpAnyH_done (by kernel_rfl) ?_ _
  refine NoPanic.normal ?_
  clear hHeld
  go_wp2
  exact bodyPost_ret (v := .tuple #[.bool false, SV2 ⟨false, to⟩]) ((hF.set ⟨false, to⟩).ans _ rfl rfl) rfl ⟨by rw [HO.out], (hF.set ⟨false, to⟩).2.2.2.2⟩
set_option maxRecDepth 100000 in
set_option maxHeartbeats 1600000 in
theorem rask_c2f (ak an am : Int) (bk bn bm : Int) (nt : Bool) (to N : Int) (last : Bool) (ao : Option Addr) (c : Nat) (hs : List Bool) (w : World) (hN : 0 ≤ N ∧ N ≤ 999999999) (hb : Bs w (.slice ao hs.length c) hs)
    (ha : ak = 3 → 0 ≤ an) (hak : ak ≠ 1) (hx : hits ⟨ak, an, am⟩ ⟨N, last, hs⟩ = true) (k0 : bk ≠ 0) (hone : One ⟨bk, bn, bm⟩) (k3 : bk ≠ 3) : AskRP ⟨ak, an, am⟩ ⟨bk, bn, bm⟩ nt ⟨false, to⟩ N last (.slice ao hs.length c) hs w := by
  have HA : Hid (∀ w', Below w.heap.size w w' → Calls Tryd.prog 21 #[AV ⟨ak, an, am⟩, LV N last (.slice ao hs.length c)] w' fun e w2 => e = .returned (.bool true) ∧ Below w'.heap.size w' w2) := Lib.hid (fun w' h => by
    have q := rhits_any ⟨ak, an, am⟩ ⟨N, last, hs⟩ ao c w' ⟨ha, hN⟩ (hb.below h)
    rw [hx] at q
    exact q)
  have HG : Hid (∀ w', Calls Tryd.prog 50 #[AV ⟨bk, bn, bm⟩, LV N last (.slice ao hs.length c)] w' fun e w2 => e = .returned (SV2 (begun ⟨bk, bn, bm⟩ ⟨N, last, hs⟩)) ∧ Below w'.heap.size w' w2) := Lib.hid (fun w' => rbegun_any ⟨bk, bn, bm⟩ N last _ hs w' hone k0 k3 hN)
  have HF := Lib.hid (fr0R w ⟨ak, an, am⟩ ⟨bk, bn, bm⟩ nt ⟨false, to⟩ N last (.slice ao hs.length c))
  have HO := Lib.hid (show askL ⟨ak, an, am⟩ ⟨bk, bn, bm⟩ ⟨false, to⟩ ⟨N, last, hs⟩ = (true, begun ⟨bk, bn, bm⟩ ⟨N, last, hs⟩) from by rw [askL_shut k0 (fun q => hak q.1), hx]; rfl)
  have k0B := nEq k0
  have hakB := nEq hak
  clear hx k0
  clear hb
  generalize Value.slice ao hs.length c = v at *
  generalize begun ⟨bk, bn, bm⟩ ⟨N, last, hs⟩ = z at *
  go_enter Tryd.func40, Tryd.ntmps40
  go_wp2_with (first
    | (go_at_call 21; refine (HA.out _ HF.out.2.2.2.2).mono ?_; rintro e w1 ⟨rfl, hb1⟩; have HF1 := Lib.hid (HF.out.below hb1); clear hb1; obtain ⟨⟨q0, q1, q2, q3, q4, q5, q6⟩, ⟨q7, q8⟩, ⟨q9, qa, qb⟩, qc, qd⟩ := HF1.out.cells; obtain ⟨u0, u1, u2, u3⟩ := HF1.out.unfrozen)
    | (go_at_call 50; refine (HG.out _).mono ?_; rintro e w2 ⟨rfl, hb2⟩; have HF2 := Lib.hid (HF1.out.below hb2); clear hb2; obtain ⟨⟨q0, q1, q2, q3, q4, q5, q6⟩, ⟨q7, q8⟩, ⟨q9, qa, qb⟩, qc, qd⟩ := HF2.out.cells; obtain ⟨u0, u1, u2, u3⟩ := HF2.out.unfrozen))
  exact bodyPost_ret (v := .tuple #[.bool true, SV2 z]) ((HF2.out.set z).ans _ rfl rfl) rfl ⟨by rw [HO.out], (HF2.out.set z).2.2.2.2⟩
set_option maxRecDepth 100000 in
set_option maxHeartbeats 1600000 in
theorem rask_c1h (an am : Int) (bk bn bm : Int) (nt : Bool) (to N : Int) (last : Bool) (ao : Option Addr) (c : Nat) (hs : List Bool) (w : World) (hN : 0 ≤ N ∧ N ≤ 999999999) (hb : Bs w (.slice ao hs.length c) hs)
    (han : an ≠ 0) (hx : hits ⟨1, an, am⟩ ⟨N, last, hs⟩ = false) (k0 : bk ≠ 0) : AskRP ⟨1, an, am⟩ ⟨bk, bn, bm⟩ nt ⟨false, to⟩ N last (.slice ao hs.length c) hs w := by
  have HA : Hid (∀ w', Below w.heap.size w w' → Calls Tryd.prog 21 #[AV ⟨1, an, am⟩, LV N last (.slice ao hs.length c)] w' fun e w2 => e = .returned (.bool false) ∧ Below w'.heap.size w' w2) := Lib.hid (fun w' h => by
    have q := rhits_any ⟨1, an, am⟩ ⟨N, last, hs⟩ ao c w' ⟨fun h => by simp at h, hN⟩ (hb.below h)
    rw [hx] at q
    exact q)
  have HF := Lib.hid (fr0R w ⟨1, an, am⟩ ⟨bk, bn, bm⟩ nt ⟨false, to⟩ N last (.slice ao hs.length c))
  have HO := Lib.hid (show askL ⟨1, an, am⟩ ⟨bk, bn, bm⟩ ⟨false, to⟩ ⟨N, last, hs⟩ = (false, ⟨false, to⟩) from by rw [askL_shut k0 (fun q => han q.2.1), hx]; rfl)
  have k0B := nEq k0
  have hanB := nEq han
  clear hx k0
  clear hb
  generalize Value.slice ao hs.length c = v at *
  go_enter Tryd.func40, Tryd.ntmps40
  go_wp2_with (go_at_call 21; refine (HA.out _ HF.out.2.2.2.2).mono ?_; rintro e w1 ⟨rfl, hb1⟩; have HF1 := Lib.hid (HF.out.below hb1); clear hb1; obtain ⟨⟨q0, q1, q2, q3, q4, q5, q6⟩, ⟨q7, q8⟩, ⟨q9, qa, qb⟩, qc, qd⟩ := HF1.out.cells; obtain ⟨u0, u1, u2, u3⟩ := HF1.out.unfrozen)
  refine wp_region_noPanic ?_
  refine wp_region_held_drew (S := fun w' => ∃ r, FrR w ⟨1, an, am⟩ ⟨bk, bn, bm⟩ nt ⟨false, to⟩ r N last v w') (by kernel_rfl) ?_ (fun hHeld => ?_)
  · (try dsimp only); exact ⟨_, HF1.out.below (Below.refl _ _).drew⟩
  refine wpAnyH_take (i := 0) (oi := ?o0) (v := ?v0) ?hi0 (by kernel_rfl) (by kernel_rfl) (by kernel_rfl) (fun _ _ _ h => h) ?hy0 (by assumption) ?r0
  case hi0 => simp only [List.getElem?_toArray, List.getElem?_cons_succ, List.getElem?_cons_zero]; rfl
  case hy0 => exact Or.inl ⟨by rfl, by (intro w hSw; (try dsimp only at hSw); obtain ⟨r0, hSw⟩ := hSw; obtain ⟨⟨q0, q1, q2, q3, q4, q5, q6⟩, ⟨q7, q8⟩, ⟨q9, qa, qb⟩, qc, qd⟩ := hSw.cells; obtain ⟨u0, u1, u2, u3⟩ := hSw.unfrozen; go_simp) <;> with_reducible rfl⟩
  try simp only [Act.put, List.setIfInBounds_toArray, List.set_cons_zero, List.set_cons_succ]
  refine wpAnyH_take (i := 1) (oi := ?o1) (v := ?v1) ?hi1 (by kernel_rfl) (by kernel_rfl) (by kernel_rfl) (fun _ _ _ h => h) ?hy1 (by assumption) ?r1
  case hi1 => simp only [List.getElem?_toArray, List.getElem?_cons_succ, List.getElem?_cons_zero]; rfl
  case hy1 => exact Or.inl ⟨by rfl, by (intro w hSw; (try dsimp only at hSw); obtain ⟨r0, hSw⟩ := hSw; obtain ⟨⟨q0, q1, q2, q3, q4, q5, q6⟩, ⟨q7, q8⟩, ⟨q9, qa, qb⟩, qc, qd⟩ := hSw.cells; obtain ⟨u0, u1, u2, u3⟩ := hSw.unfrozen; go_simp) <;> with_reducible rfl⟩
  try simp only [Act.put, List.setIfInBounds_toArray, List.set_cons_zero, List.set_cons_succ]
  refine wpAnyH_ready (rs := [2]) (by kernel_rfl) (by simp) ?_
  refine AllReadyH.cons (o := ?o2) ?hi2 (fun K hK => ?st2) AllReadyH.nil
  case hi2 => simp only [List.getElem?_toArray, List.getElem?_cons_succ, List.getElem?_cons_zero]; rfl
  (try dsimp only at hHeld); obtain ⟨r0, hF⟩ := hHeld; obtain ⟨⟨q0, q1, q2, q3, q4, q5, q6⟩, ⟨q7, q8⟩, ⟨q9, qa, qb⟩, qc, qd⟩ := hF.cells; obtain ⟨u0, u1, u2, u3⟩ := hF.unfrozen
  go_simp
  refine hK.out _ _ ?_ (fun hHeld => ?_)
  · (try dsimp only); (first | exact ⟨_, hF.below hbl⟩ | exact ⟨_, hF.set ⟨false, to⟩⟩)
  clear hK K
  try simp only [Act.put, List.setIfInBounds_toArray, List.set_cons_zero, List.set_cons_succ]
  refine wpAnyH_done (by kernel_rfl) ?_ _
  refine NoPanic.normal ?_
  clear hHeld
  go_wp2
  exact bodyPost_ret (v := .tuple #[.bool false, SV2 ⟨false, to⟩]) ((hF.set ⟨false, to⟩).ans _ rfl rfl) rfl ⟨by rw [HO.out], (hF.set ⟨false, to⟩).2.2.2.2⟩
set_option maxRecDepth 100000 in
set_option maxHeartbeats 1600000 in
theorem rask_c2h (an am : Int) (bk bn bm : Int) (nt : Bool) (to N : Int) (last : Bool) (ao : Option Addr) (c : Nat) (hs : List Bool) (w : World) (hN : 0 ≤ N ∧ N ≤ 999999999) (hb : Bs w (.slice ao hs.length c) hs)
    (han : an ≠ 0) (hx : hits ⟨1, an, am⟩ ⟨N, last, hs⟩ = true) (k0 : bk ≠ 0) (hone : One ⟨bk, bn, bm⟩) (k3 : bk ≠ 3) : AskRP ⟨1, an, am⟩ ⟨bk, bn, bm⟩ nt ⟨false, to⟩ N last (.slice ao hs.length c) hs w := by
  have HA : Hid (∀ w', Below w.heap.size w w' → Calls Tryd.prog 21 #[AV ⟨1, an, am⟩, LV N last (.slice ao hs.length c)] w' fun e w2 => e = .returned (.bool true) ∧ Below w'.heap.size w' w2) := Lib.hid (fun w' h => by
    have q := rhits_any ⟨1, an, am⟩ ⟨N, last, hs⟩ ao c w' ⟨fun h => by simp at h, hN⟩ (hb.below h)
    rw [hx] at q
    exact q)
  have HG : Hid (∀ w', Calls Tryd.prog 50 #[AV ⟨bk, bn, bm⟩, LV N last (.slice ao hs.length c)] w' fun e w2 => e = .returned (SV2 (begun ⟨bk, bn, bm⟩ ⟨N, last, hs⟩)) ∧ Below w'.heap.size w' w2) := Lib.hid (fun w' => rbegun_any ⟨bk, bn, bm⟩ N last _ hs w' hone k0 k3 hN)
  have HF := Lib.hid (fr0R w ⟨1, an, am⟩ ⟨bk, bn, bm⟩ nt ⟨false, to⟩ N last (.slice ao hs.length c))
  have HO := Lib.hid (show askL ⟨1, an, am⟩ ⟨bk, bn, bm⟩ ⟨false, to⟩ ⟨N, last, hs⟩ = (true, begun ⟨bk, bn, bm⟩ ⟨N, last, hs⟩) from by rw [askL_shut k0 (fun q => han q.2.1), hx]; rfl)
  have k0B := nEq k0
  have hanB := nEq han
  clear hx k0
  clear hb
  generalize Value.slice ao hs.length c = v at *
  generalize begun ⟨bk, bn, bm⟩ ⟨N, last, hs⟩ = z at *
  go_enter Tryd.func40, Tryd.ntmps40
  go_wp2_with (first
    | (go_at_call 21; refine (HA.out _ HF.out.2.2.2.2).mono ?_; rintro e w1 ⟨rfl, hb1⟩; have HF1 := Lib.hid (HF.out.below hb1); clear hb1; obtain ⟨⟨q0, q1, q2, q3, q4, q5, q6⟩, ⟨q7, q8⟩, ⟨q9, qa, qb⟩, qc, qd⟩ := HF1.out.cells; obtain ⟨u0, u1, u2, u3⟩ := HF1.out.unfrozen)
    | (go_at_call 50; refine (HG.out _).mono ?_; rintro e w2 ⟨rfl, hb2⟩; have HF2 := Lib.hid (HF1.out.below hb2); clear hb2; obtain ⟨⟨q0, q1, q2, q3, q4, q5, q6⟩, ⟨q7, q8⟩, ⟨q9, qa, qb⟩, qc, qd⟩ := HF2.out.cells; obtain ⟨u0, u1, u2, u3⟩ := HF2.out.unfrozen))
  exact bodyPost_ret (v := .tuple #[.bool true, SV2 z]) ((HF2.out.set z).ans _ rfl rfl) rfl ⟨by rw [HO.out], (HF2.out.set z).2.2.2.2⟩
set_option maxRecDepth 100000 in
set_option maxHeartbeats 1600000 in
theorem rask_c1g (bk bn bm : Int) (nt : Bool) (to N : Int) (last : Bool) (ao : Option Addr) (c : Nat) (hs : List Bool) (w : World) (hN : 0 ≤ N ∧ N ≤ 999999999) (hb : Bs w (.slice ao hs.length c) hs)
    (hN1 : N ≠ 1) (hx : hits ⟨1, 0, 0⟩ ⟨N, last, hs⟩ = false) (k0 : bk ≠ 0) : AskRP ⟨1, 0, 0⟩ ⟨bk, bn, bm⟩ nt ⟨false, to⟩ N last (.slice ao hs.length c) hs w := by
  have HA : Hid (∀ w', Below w.heap.size w w' → Calls Tryd.prog 21 #[AV ⟨1, 0, 0⟩, LV N last (.slice ao hs.length c)] w' fun e w2 => e = .returned (.bool false) ∧ Below w'.heap.size w' w2) := Lib.hid (fun w' h => by
    have q := rhits_any ⟨1, 0, 0⟩ ⟨N, last, hs⟩ ao c w' ⟨fun h => by simp at h, hN⟩ (hb.below h)
    rw [hx] at q
    exact q)
  have HF := Lib.hid (fr0R w ⟨1, 0, 0⟩ ⟨bk, bn, bm⟩ nt ⟨false, to⟩ N last (.slice ao hs.length c))
  have HO := Lib.hid (show askL ⟨1, 0, 0⟩ ⟨bk, bn, bm⟩ ⟨false, to⟩ ⟨N, last, hs⟩ = (false, ⟨false, to⟩) from by rw [askL_shut k0 (by rintro ⟨_, _, h3⟩; exact hN1 h3), hx]; rfl)
  have k0B := nEq k0
  have hN1B := nEq hN1
  clear hx k0
  clear hb
  generalize Value.slice ao hs.length c = v at *
  go_enter Tryd.func40, Tryd.ntmps40
  go_wp2_with (go_at_call 21; refine (HA.out _ HF.out.2.2.2.2).mono ?_; rintro e w1 ⟨rfl, hb1⟩; have HF1 := Lib.hid (HF.out.below hb1); clear hb1; obtain ⟨⟨q0, q1, q2, q3, q4, q5, q6⟩, ⟨q7, q8⟩, ⟨q9, qa, qb⟩, qc, qd⟩ := HF1.out.cells; obtain ⟨u0, u1, u2, u3⟩ := HF1.out.unfrozen)
  refine wp_region_noPanic ?_
  refine wp_region_held_drew (S := fun w' => ∃ r, FrR w ⟨1, 0, 0⟩ ⟨bk, bn, bm⟩ nt ⟨false, to⟩ r N last v w') (by kernel_rfl) ?_ (fun hHeld => ?_)
  · (try dsimp only); exact ⟨_, HF1.out.below (Below.refl _ _).drew⟩
  refine wpAnyH_take (i := 0) (oi := ?o0) (v := ?v0) ?hi0 (by kernel_rfl) (by kernel_rfl) (by kernel_rfl) (fun _ _ _ h => h) ?hy0 (by assumption) ?r0
  case hi0 => simp only [List.getElem?_toArray, List.getElem?_cons_succ, List.getElem?_cons_zero]; rfl
  case hy0 => exact Or.inl ⟨by rfl, by (intro w hSw; (try dsimp only at hSw); obtain ⟨r0, hSw⟩ := hSw; obtain ⟨⟨q0, q1, q2, q3, q4, q5, q6⟩, ⟨q7, q8⟩, ⟨q9, qa, qb⟩, qc, qd⟩ := hSw.cells; obtain ⟨u0, u1, u2, u3⟩ := hSw.unfrozen; go_simp) <;> with_reducible rfl⟩
  try simp only [Act.put, List.setIfInBounds_toArray, List.set_cons_zero, List.set_cons_succ]
  refine wpAnyH_take (i := 1) (oi := ?o1) (v := ?v1) ?hi1 (by kernel_rfl) (by kernel_rfl) (by kernel_rfl) (fun _ _ _ h => h) ?hy1 (by assumption) ?r1
  case hi1 => simp only [List.getElem?_toArray, List.getElem?_cons_succ, List.getElem?_cons_zero]; rfl
  case hy1 => exact Or.inl ⟨by rfl, by (intro w hSw; (try dsimp only at hSw); obtain ⟨r0, hSw⟩ := hSw; obtain ⟨⟨q0, q1, q2, q3, q4, q5, q6⟩, ⟨q7, q8⟩, ⟨q9, qa, qb⟩, qc, qd⟩ := hSw.cells; obtain ⟨u0, u1, u2, u3⟩ := hSw.unfrozen; go_simp) <;> with_reducible rfl⟩
  try simp only [Act.put, List.setIfInBounds_toArray, List.set_cons_zero, List.set_cons_succ]
  refine wpAnyH_ready (rs := [2]) (by kernel_rfl) (by simp) ?_
  refine AllReadyH.cons (o := ?o2) ?hi2 (fun K hK => ?st2) AllReadyH.nil
  case hi2 => simp only [List.getElem?_toArray, List.getElem?_cons_succ, List.getElem?_cons_zero]; rfl
  (try dsimp only at hHeld); obtain ⟨r0, hF⟩ := hHeld; obtain ⟨⟨q0, q1, q2, q3, q4, q5, q6⟩, ⟨q7, q8⟩, ⟨q9, qa, qb⟩, qc, qd⟩ := hF.cells; obtain ⟨u0, u1, u2, u3⟩ := hF.unfrozen
  go_simp
  refine hK.out _ _ ?_ (fun hHeld => ?_)
  · (try dsimp only); (first | exact ⟨_, hF.below hbl⟩ | exact ⟨_, hF.set ⟨false, to⟩⟩)
  clear hK K
  try simp only [Act.put, List.setIfInBounds_toArray, List.set_cons_zero, List.set_cons_succ]
  refine wpAnyH_done (by kernel_rfl) ?_ _
  refine NoPanic.normal ?_
  clear hHeld
  go_wp2
  exact bodyPost_ret (v := .tuple #[.bool false, SV2 ⟨false, to⟩]) ((hF.set ⟨false, to⟩).ans _ rfl rfl) rfl ⟨by rw [HO.out], (hF.set ⟨false, to⟩).2.2.2.2⟩
set_option maxRecDepth 100000 in
set_option maxHeartbeats 1600000 in
theorem rask_c2g (bk bn bm : Int) (nt : Bool) (to N : Int) (last : Bool) (ao : Option Addr) (c : Nat) (hs : List Bool) (w : World) (hN : 0 ≤ N ∧ N ≤ 999999999) (hb : Bs w (.slice ao hs.length c) hs)
    (hN1 : N ≠ 1) (hx : hits ⟨1, 0, 0⟩ ⟨N, last, hs⟩ = true) (k0 : bk ≠ 0) (hone : One ⟨bk, bn, bm⟩) (k3 : bk ≠ 3) : AskRP ⟨1, 0, 0⟩ ⟨bk, bn, bm⟩ nt ⟨false, to⟩ N last (.slice ao hs.length c) hs w := by
  have HA : Hid (∀ w', Below w.heap.size w w' → Calls Tryd.prog 21 #[AV ⟨1, 0, 0⟩, LV N last (.slice ao hs.length c)] w' fun e w2 => e = .returned (.bool true) ∧ Below w'.heap.size w' w2) := Lib.hid (fun w' h => by
    have q := rhits_any ⟨1, 0, 0⟩ ⟨N, last, hs⟩ ao c w' ⟨fun h => by simp at h, hN⟩ (hb.below h)
    rw [hx] at q
    exact q)
  have HG : Hid (∀ w', Calls Tryd.prog 50 #[AV ⟨bk, bn, bm⟩, LV N last (.slice ao hs.length c)] w' fun e w2 => e = .returned (SV2 (begun ⟨bk, bn, bm⟩ ⟨N, last, hs⟩)) ∧ Below w'.heap.size w' w2) := Lib.hid (fun w' => rbegun_any ⟨bk, bn, bm⟩ N last _ hs w' hone k0 k3 hN)
  have HF := Lib.hid (fr0R w ⟨1, 0, 0⟩ ⟨bk, bn, bm⟩ nt ⟨false, to⟩ N last (.slice ao hs.length c))
  have HO := Lib.hid (show askL ⟨1, 0, 0⟩ ⟨bk, bn, bm⟩ ⟨false, to⟩ ⟨N, last, hs⟩ = (true, begun ⟨bk, bn, bm⟩ ⟨N, last, hs⟩) from by rw [askL_shut k0 (by rintro ⟨_, _, h3⟩; exact hN1 h3), hx]; rfl)
  have k0B := nEq k0
  have hN1B := nEq hN1
  clear hx k0
  clear hb
  generalize Value.slice ao hs.length c = v at *
  generalize begun ⟨bk, bn, bm⟩ ⟨N, last, hs⟩ = z at *
  go_enter Tryd.func40, Tryd.ntmps40
  go_wp2_with (first
    | (go_at_call 21; refine (HA.out _ HF.out.2.2.2.2).mono ?_; rintro e w1 ⟨rfl, hb1⟩; have HF1 := Lib.hid (HF.out.below hb1); clear hb1; obtain ⟨⟨q0, q1, q2, q3, q4, q5, q6⟩, ⟨q7, q8⟩, ⟨q9, qa, qb⟩, qc, qd⟩ := HF1.out.cells; obtain ⟨u0, u1, u2, u3⟩ := HF1.out.unfrozen)
    | (go_at_call 50; refine (HG.out _).mono ?_; rintro e w2 ⟨rfl, hb2⟩; have HF2 := Lib.hid (HF1.out.below hb2); clear hb2; obtain ⟨⟨q0, q1, q2, q3, q4, q5, q6⟩, ⟨q7, q8⟩, ⟨q9, qa, qb⟩, qc, qd⟩ := HF2.out.cells; obtain ⟨u0, u1, u2, u3⟩ := HF2.out.unfrozen))
  exact bodyPost_ret (v := .tuple #[.bool true, SV2 z]) ((HF2.out.set z).ans _ rfl rfl) rfl ⟨by rw [HO.out], (HF2.out.set z).2.2.2.2⟩
set_option maxRecDepth 100000 in
set_option maxHeartbeats 1600000 in
theorem rask_d1 (bn bm : Int) (nt : Bool) (to : Int) (last : Bool) (ao : Option Addr) (c : Nat) (hs : List Bool) (w : World)  (hb : Bs w (.slice ao hs.length c) hs)
    (hx : hits ⟨4, bn, bm⟩ ⟨1, last, hs⟩ = true) : AskRP ⟨1, 0, 0⟩ ⟨4, bn, bm⟩ nt ⟨false, to⟩ 1 last (.slice ao hs.length c) hs w := by
  have HB : Hid (∀ w', Below w.heap.size w w' → Calls Tryd.prog 21 #[AV ⟨4, bn, bm⟩, LV 1 last (.slice ao hs.length c)] w' fun e w2 => e = .returned (.bool true) ∧ Below w'.heap.size w' w2) := Lib.hid (fun w' h => by
    have q := rhits_any ⟨4, bn, bm⟩ ⟨1, last, hs⟩ ao c w' ⟨fun h => by simp at h, by simp⟩ (hb.below h)
    rw [hx] at q
    exact q)
  have HF := Lib.hid (fr0R w ⟨1, 0, 0⟩ ⟨4, bn, bm⟩ nt ⟨true, 0⟩ 1 last (.slice ao hs.length c))
  have HO := Lib.hid (show askL ⟨1, 0, 0⟩ ⟨4, bn, bm⟩ ⟨false, to⟩ ⟨1, last, hs⟩ = (true, ⟨false, 0⟩) from by rw [askL_z rfl ⟨rfl, rfl, rfl⟩, hx]; rfl)
  clear hb
  generalize Value.slice ao hs.length c = v at *
  go_enter Tryd.func40, Tryd.ntmps40
  go_wp2_with (go_at_call 21; refine (HB.out _ HF.out.2.2.2.2).mono ?_; rintro e w1 ⟨rfl, hb1⟩; have HF1 := Lib.hid (HF.out.below hb1); clear hb1; obtain ⟨⟨q0, q1, q2, q3, q4, q5, q6⟩, ⟨q7, q8⟩, ⟨q9, qa, qb⟩, qc, qd⟩ := HF1.out.cells; obtain ⟨u0, u1, u2, u3⟩ := HF1.out.unfrozen)
  have HF2 := Lib.hid (HF1.out.setS ⟨false, 0⟩)
  revert HF2
  generalize World.setCell (World.setCell _ _ _) _ _ = W9
  intro HF2
  clear q7 q8
  obtain ⟨⟨q0, q1, q2, q3, q4, q5, q6⟩, ⟨q7, q8⟩, ⟨q9, qa, qb⟩, qc, qd⟩ := HF2.out.cells; obtain ⟨u0, u1, u2, u3⟩ := HF2.out.unfrozen
  refine wp_region_noPanic ?_
  refine wp_region_held_drew (S := fun w' => ∃ r, FrR w ⟨1, 0, 0⟩ ⟨4, bn, bm⟩ nt ⟨false, 0⟩ r 1 last v w') (by kernel_rfl) ?_ (fun hHeld => ?_)
  · (try dsimp only); exact ⟨_, HF2.out.below (Below.refl _ _).drew⟩
  refine wpAnyH_take (i := 0) (oi := ?o0) (v := ?v0) ?hi0 (by kernel_rfl) (by kernel_rfl) (by kernel_rfl) (fun _ _ _ h => h) ?hy0 (by assumption) ?r0
  case hi0 => simp only [List.getElem?_toArray, List.getElem?_cons_succ, List.getElem?_cons_zero]; rfl
  case hy0 => exact Or.inl ⟨by rfl, by (intro w hSw; (try dsimp only at hSw); obtain ⟨r0, hSw⟩ := hSw; obtain ⟨⟨q0, q1, q2, q3, q4, q5, q6⟩, ⟨q7, q8⟩, ⟨q9, qa, qb⟩, qc, qd⟩ := hSw.cells; obtain ⟨u0, u1, u2, u3⟩ := hSw.unfrozen; go_simp) <;> with_reducible rfl⟩
  try simp only [Act.put, List.setIfInBounds_toArray, List.set_cons_zero, List.set_cons_succ]
  refine wpAnyH_take (i := 1) (oi := ?o1) (v := ?v1) ?hi1 (by kernel_rfl) (by kernel_rfl) (by kernel_rfl) (fun _ _ _ h => h) ?hy1 (by assumption) ?r1
  case hi1 => simp only [List.getElem?_toArray, List.getElem?_cons_succ, List.getElem?_cons_zero]; rfl
  case hy1 => exact Or.inl ⟨by rfl, by (intro w hSw; (try dsimp only at hSw); obtain ⟨r0, hSw⟩ := hSw; obtain ⟨⟨q0, q1, q2, q3, q4, q5, q6⟩, ⟨q7, q8⟩, ⟨q9, qa, qb⟩, qc, qd⟩ := hSw.cells; obtain ⟨u0, u1, u2, u3⟩ := hSw.unfrozen; go_simp) <;> with_reducible rfl⟩
  try simp only [Act.put, List.setIfInBounds_toArray, List.set_cons_zero, List.set_cons_succ]
  refine wpAnyH_ready (rs := [2]) (by kernel_rfl) (by simp) ?_
  refine AllReadyH.cons (o := ?o2) ?hi2 (fun K hK => ?st2) AllReadyH.nil
  case hi2 => simp only [List.getElem?_toArray, List.getElem?_cons_succ, List.getElem?_cons_zero]; rfl
  (try dsimp only at hHeld); obtain ⟨r0, hF⟩ := hHeld; obtain ⟨⟨q0, q1, q2, q3, q4, q5, q6⟩, ⟨q7, q8⟩, ⟨q9, qa, qb⟩, qc, qd⟩ := hF.cells; obtain ⟨u0, u1, u2, u3⟩ := hF.unfrozen
  go_simp
  refine hK.out _ _ ?_ (fun hHeld => ?_)
  · (try dsimp only); (first | exact ⟨_, hF.below hbl⟩ | exact ⟨_, hF.set ⟨false, 0⟩⟩)
  clear hK K
  try simp only [Act.put, List.setIfInBounds_toArray, List.set_cons_zero, List.set_cons_succ]
  refine wpAnyH_done (by kernel_rfl) ?_ _
  refine NoPanic.normal ?_
  clear hHeld
  go_wp2
  exact bodyPost_ret (v := .tuple #[.bool true, SV2 ⟨false, 0⟩]) ((hF.set ⟨false, 0⟩).ans _ rfl rfl) rfl ⟨by rw [HO.out], (hF.set ⟨false, 0⟩).2.2.2.2⟩
set_option maxRecDepth 100000 in
set_option maxHeartbeats 1600000 in
theorem rask_d2 (bn bm : Int) (nt : Bool) (to : Int) (last : Bool) (ao : Option Addr) (c : Nat) (hs : List Bool) (w : World)  (hb : Bs w (.slice ao hs.length c) hs)
    (hx : hits ⟨4, bn, bm⟩ ⟨1, last, hs⟩ = false) : AskRP ⟨1, 0, 0⟩ ⟨4, bn, bm⟩ nt ⟨false, to⟩ 1 last (.slice ao hs.length c) hs w := by
  have HB : Hid (∀ w', Below w.heap.size w w' → Calls Tryd.prog 21 #[AV ⟨4, bn, bm⟩, LV 1 last (.slice ao hs.length c)] w' fun e w2 => e = .returned (.bool false) ∧ Below w'.heap.size w' w2) := Lib.hid (fun w' h => by
    have q := rhits_any ⟨4, bn, bm⟩ ⟨1, last, hs⟩ ao c w' ⟨fun h => by simp at h, by simp⟩ (hb.below h)
    rw [hx] at q
    exact q)
  have HF := Lib.hid (fr0R w ⟨1, 0, 0⟩ ⟨4, bn, bm⟩ nt ⟨true, 0⟩ 1 last (.slice ao hs.length c))
  have HO := Lib.hid (show askL ⟨1, 0, 0⟩ ⟨4, bn, bm⟩ ⟨false, to⟩ ⟨1, last, hs⟩ = (true, ⟨true, 0⟩) from by rw [askL_z rfl ⟨rfl, rfl, rfl⟩, hx]; rfl)
  clear hb
  generalize Value.slice ao hs.length c = v at *
  go_enter Tryd.func40, Tryd.ntmps40
  go_wp2_with (go_at_call 21; refine (HB.out _ HF.out.2.2.2.2).mono ?_; rintro e w1 ⟨rfl, hb1⟩; have HF1 := Lib.hid (HF.out.below hb1); clear hb1; obtain ⟨⟨q0, q1, q2, q3, q4, q5, q6⟩, ⟨q7, q8⟩, ⟨q9, qa, qb⟩, qc, qd⟩ := HF1.out.cells; obtain ⟨u0, u1, u2, u3⟩ := HF1.out.unfrozen)
  refine wp_region_noPanic ?_
  refine wp_region_held_drew (S := fun w' => ∃ r, FrR w ⟨1, 0, 0⟩ ⟨4, bn, bm⟩ nt ⟨true, 0⟩ r 1 last v w') (by kernel_rfl) ?_ (fun hHeld => ?_)
  · (try dsimp only); exact ⟨_, HF1.out.below (Below.refl _ _).drew⟩
  refine wpAnyH_take (i := 0) (oi := ?o0) (v := ?v0) ?hi0 (by kernel_rfl) (by kernel_rfl) (by kernel_rfl) (fun _ _ _ h => h) ?hy0 (by assumption) ?r0
  case hi0 => simp only [List.getElem?_toArray, List.getElem?_cons_succ, List.getElem?_cons_zero]; rfl
  case hy0 => exact Or.inl ⟨by rfl, by (intro w hSw; (try dsimp only at hSw); obtain ⟨r0, hSw⟩ := hSw; obtain ⟨⟨q0, q1, q2, q3, q4, q5, q6⟩, ⟨q7, q8⟩, ⟨q9, qa, qb⟩, qc, qd⟩ := hSw.cells; obtain ⟨u0, u1, u2, u3⟩ := hSw.unfrozen; go_simp) <;> with_reducible rfl⟩
  try simp only [Act.put, List.setIfInBounds_toArray, List.set_cons_zero, List.set_cons_succ]
  refine wpAnyH_take (i := 1) (oi := ?o1) (v := ?v1) ?hi1 (by kernel_rfl) (by kernel_rfl) (by kernel_rfl) (fun _ _ _ h => h) ?hy1 (by assumption) ?r1
  case hi1 => simp only [List.getElem?_toArray, List.getElem?_cons_succ, List.getElem?_cons_zero]; rfl
  case hy1 => exact Or.inl ⟨by rfl, by (intro w hSw; (try dsimp only at hSw); obtain ⟨r0, hSw⟩ := hSw; obtain ⟨⟨q0, q1, q2, q3, q4, q5, q6⟩, ⟨q7, q8⟩, ⟨q9, qa, qb⟩, qc, qd⟩ := hSw.cells; obtain ⟨u0, u1, u2, u3⟩ := hSw.unfrozen; go_simp) <;> with_reducible rfl⟩
  try simp only [Act.put, List.setIfInBounds_toArray, List.set_cons_zero, List.set_cons_succ]
  refine wpAnyH_ready (rs := [2]) (by kernel_rfl) (by simp) ?_
  refine AllReadyH.cons (o := ?o2) ?hi2 (fun K hK => ?st2) AllReadyH.nil
  case hi2 => simp only [List.getElem?_toArray, List.getElem?_cons_succ, List.getElem?_cons_zero]; rfl
  (try dsimp only at hHeld); obtain ⟨r0, hF⟩ := hHeld; obtain ⟨⟨q0, q1, q2, q3, q4, q5, q6⟩, ⟨q7, q8⟩, ⟨q9, qa, qb⟩, qc, qd⟩ := hF.cells; obtain ⟨u0, u1, u2, u3⟩ := hF.unfrozen
  go_simp
  refine hK.out _ _ ?_ (fun hHeld => ?_)
  · (try dsimp only); (first | exact ⟨_, hF.below hbl⟩ | exact ⟨_, hF.set ⟨true, 0⟩⟩)
  clear hK K
  try simp only [Act.put, List.setIfInBounds_toArray, List.set_cons_zero, List.set_cons_succ]
  refine wpAnyH_done (by kernel_rfl) ?_ _
  refine NoPanic.normal ?_
  clear hHeld
  go_wp2
  exact bodyPost_ret (v := .tuple #[.bool true, SV2 ⟨true, 0⟩]) ((hF.set ⟨true, 0⟩).ans _ rfl rfl) rfl ⟨by rw [HO.out], (hF.set ⟨true, 0⟩).2.2.2.2⟩
end Go.Proofs.YtcijhfdccbgcpaaDoor.Ad
