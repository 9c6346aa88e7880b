/- AddrTells: the walk. -/
import Derived.Test.YtcijhfdccbgcpaaDoorAdRPa
import Derived.Test.YtcijhfdccbgcpaaDoorAdL1
import Derived.ShutString
namespace Go.Proofs.YtcijhfdccbgcpaaDoor.Ad
open Go.RowKit Go.Shelf
set_option linter.unusedVariables false
set_option linter.unusedSimpArgs false
set_option maxRecDepth 100000 in
set_option maxHeartbeats 3200000 in
theorem tells_big (a b : A3) (nt : Bool) (s : List UInt8) (w : World) (hL : Lay w) (hl : 200 < s.length) :
    Calls Tryd.prog 3 #[RV a b nt, S s] w fun e w' => e = .returned (.bool true) ∧ Below w.heap.size w w' := by
  have hl' : (200 : Int) < (s.length : Int) := by omega
  have hsz : (ByteArray.mk s.toArray).size = s.length := by simp [ByteArray.size]
  have HSH := Lib.hid (fun w1 (h : Below w.heap.size w w1) => shown_at w w1 hL h)
  have HB0 := Lib.hid ((Below.refl w.heap.size w).alloc (Nat.le_refl _) (Obj.cells #[E a.k, E a.n, E a.m, E b.k, E b.n, E b.m, .bool nt] 25))
  go_enter Tryd.func3, Tryd.ntmps3
  go_wp2_with (go_at_call 12; refine (HSH.out _ HB0.out).mono ?_; rintro e w2 ⟨rfl, hb⟩; have HB2 := Lib.hid (HB0.out.trans (hb.mono HB0.out.size)); clear hb)
  go_ret
  exact ⟨rfl, HB2.out⟩
set_option maxRecDepth 100000 in
set_option maxHeartbeats 3200000 in
theorem tells_small (a b : A3) (nt : Bool) (s : List UInt8) (w : World) (hL : Lay w) (hl : s.length ≤ 200) :
    Calls Tryd.prog 3 #[RV a b nt, S s] w fun e w' => e = .returned (.bool true) ∧ Below w.heap.size w w' := by
  have hl' : ¬ (200 : Int) < (s.length : Int) := by omega
  have hsz : (ByteArray.mk s.toArray).size = s.length := by simp [ByteArray.size]
  have HL := Lib.hid hL
  have HSH := Lib.hid (fun w1 (h : Below w.heap.size w w1) => shown_at w w1 hL h)
  have HG0 : Hid (RCt 25 (w.alloc (Obj.cells #[E a.k, E a.n, E a.m, E b.k, E b.n, E b.m, .bool nt] 25)) w.heap.size a b nt) := Lib.hid (heap_alloc_new _ _)
  have HB0 := Lib.hid ((Below.refl w.heap.size w).alloc (Nat.le_refl _) (Obj.cells #[E a.k, E a.n, E a.m, E b.k, E b.n, E b.m, .bool nt] 25))
  have HM := Lib.hid (fun w' => may_any a b nt w')
  have HRM := Lib.hid (fun w' => rmay_any a b nt w')
  have HP := Lib.hid (fun w' (h : Lay w') => print_any a b nt w' h)
  have HRP := Lib.hid (fun w' => rprint_any a b nt w')
  have HQ := Lib.hid (fun w' (h : Lay w') => parse_any s w' h (by omega))
  have HRQ := Lib.hid (fun w' => rparse_any s w' (by omega))
  rw [← parse_same] at HRQ
  unfold PV at HQ HRQ
  clear hL
  generalize printR a b nt = p at *
  obtain ⟨u, e1⟩ := p
  generalize parseP s = q at *
  obtain ⟨⟨a2, b2, n2⟩, e2⟩ := q
  generalize decide (May a b) = mm at *
  dsimp only at HP HRP HQ HRQ
  go_enter Tryd.func3, Tryd.ntmps3
  go_wp2_with (first
    | (go_at_call 12; refine (HSH.out _ HB0.out).mono ?_; rintro e w1 ⟨rfl, hb⟩; have HG1 := Lib.hid (RCt.below HG0.out hb); have HB1 := Lib.hid (HB0.out.trans (hb.mono HB0.out.size)); clear hb; obtain ⟨p0, p1, p2, p3, p4, p5, p6⟩ := HG1.out.cells)
    | (go_at_call 13; refine (HP.out _ (HL.out.below HB1.out)).mono ?_; rintro e w2 ⟨rfl, hb⟩; have HG2 := Lib.hid (RCt.below HG1.out hb); have HB2 := Lib.hid (HB1.out.trans (hb.mono HB1.out.size)); clear hb; obtain ⟨q0, q1, q2, q3, q4, q5, q6⟩ := HG2.out.cells; clear HP)
    | (go_at_call 15; refine (rng_any a b nt _).mono ?_; rintro e w3 ⟨rfl, hb⟩; have HG3 := Lib.hid (RCt.below HG2.out hb); have HB3 := Lib.hid (HB2.out.trans (hb.mono HB2.out.size)); clear hb)
    | (go_at_call 14; refine (HRP.out _).mono ?_; rintro e w4 ⟨rfl, hb⟩; have HG4 := Lib.hid (RCt.below HG3.out hb); have HB4 := Lib.hid (HB3.out.trans (hb.mono HB3.out.size)); clear hb; clear HRP)
    | (go_at_call 16; refine (HQ.out _ (HL.out.below HB4.out)).mono ?_; rintro e w5 ⟨rfl, hb⟩; have HX5 := Lib.hid ((Below.refl w5.heap.size w5).alloc (Nat.le_refl _) (.cells #[E a2.k, E a2.n, E a2.m, E b2.k, E b2.n, E b2.m, .bool n2] 25)); have HN5 := Lib.hid (show RCt 25 _ w5.heap.size a2 b2 n2 from heap_alloc_new w5 (.cells #[E a2.k, E a2.n, E a2.m, E b2.k, E b2.n, E b2.m, .bool n2] 25)); have HG5 := Lib.hid ((RCt.below HG4.out hb).below HX5.out); have HB5 := Lib.hid ((HB4.out.trans (hb.mono HB4.out.size)).trans (HX5.out.mono (HB4.out.trans (hb.mono HB4.out.size)).size)); clear hb HQ)
    | (go_at_call 17; refine (HRQ.out _).mono ?_; rintro e w6 ⟨rfl, hb⟩; have HX6 := Lib.hid ((Below.refl w6.heap.size w6).alloc (Nat.le_refl _) (.cells #[E a2.k, E a2.n, E a2.m, E b2.k, E b2.n, E b2.m, .bool n2] 33)); have HN6 := Lib.hid (show RCt 33 _ w6.heap.size a2 b2 n2 from heap_alloc_new w6 (.cells #[E a2.k, E a2.n, E a2.m, E b2.k, E b2.n, E b2.m, .bool n2] 33)); have HN5b := Lib.hid ((RCt.below HN5.out hb).below HX6.out); have HG6 := Lib.hid ((RCt.below HG5.out hb).below HX6.out); have HB6 := Lib.hid ((HB5.out.trans (hb.mono HB5.out.size)).trans (HX6.out.mono (HB5.out.trans (hb.mono HB5.out.size)).size)); clear hb HRQ))
  refine wp_region_noPanic ?_
  refine wp_region_held_drew (S := fun w' => RCt 25 w' w.heap.size a b nt ∧ RCt 25 w' w5.heap.size a2 b2 n2 ∧ RCt 33 w' w6.heap.size a2 b2 n2 ∧ Below w.heap.size w w') (by kernel_rfl) ?_ (fun hHeld => ?_)
  · (try dsimp only); exact ⟨HG6.out.below (Below.refl _ _).drew, HN5b.out.below (Below.refl _ _).drew, HN6.out.below (Below.refl _ _).drew, HB6.out.drew⟩
  refine wpAnyH_take (i := 0) (oi := ?o0) (v := ?v0) ?hi0 (by kernel_rfl) (by kernel_rfl) (by kernel_rfl) (fun _ _ _ h => h) ?hy0 (by assumption) ?r0
  case hi0 => simp only [List.getElem?_toArray, List.getElem?_cons_succ, List.getElem?_cons_zero]; rfl
  case hy0 => exact Or.inl ⟨by rfl, by (intro w hSw; (try dsimp only at hSw); obtain ⟨q0, q1, q2, q3, q4, q5, q6⟩ := hSw.1.cells; obtain ⟨r0, r1, r2, r3, r4, r5, r6⟩ := hSw.2.1.cells; obtain ⟨s0, s1, s2, s3, s4, s5, s6⟩ := hSw.2.2.1.cells; go_simp) <;> with_reducible rfl⟩
  try simp only [Act.put, List.setIfInBounds_toArray, List.set_cons_zero, List.set_cons_succ]
  refine wpAnyH_take (i := 2) (oi := ?o2) (v := ?v2) ?hi2 (by kernel_rfl) (by kernel_rfl) (by kernel_rfl) (fun _ _ _ h => h) ?hy2 (by assumption) ?r2
  case hi2 => simp only [List.getElem?_toArray, List.getElem?_cons_succ, List.getElem?_cons_zero]; rfl
  case hy2 => exact Or.inl ⟨by rfl, by (intro w hSw; (try dsimp only at hSw); obtain ⟨q0, q1, q2, q3, q4, q5, q6⟩ := hSw.1.cells; obtain ⟨r0, r1, r2, r3, r4, r5, r6⟩ := hSw.2.1.cells; obtain ⟨s0, s1, s2, s3, s4, s5, s6⟩ := hSw.2.2.1.cells; go_simp) <;> with_reducible rfl⟩
  try simp only [Act.put, List.setIfInBounds_toArray, List.set_cons_zero, List.set_cons_succ]
  refine wpAnyH_ready (rs := [1]) (by kernel_rfl) (by simp) ?_
  refine AllReadyH.cons (o := ?o1) ?hi1 (fun K hK => ?st1) AllReadyH.nil
  case hi1 => simp only [List.getElem?_toArray, List.getElem?_cons_succ, List.getElem?_cons_zero]; rfl
  go_simp
  (go_at_call 18; refine (HM.out _).mono ?_; rintro e w' ⟨rfl, hbl⟩)
  refine hK.out _ _ ?_ (fun hHeld => ?_)
  · (try dsimp only); (exact ⟨RCt.below hHeld.1 hbl, RCt.below hHeld.2.1 hbl, RCt.below hHeld.2.2.1 hbl, hHeld.2.2.2.trans (hbl.mono hHeld.2.2.2.size)⟩)
  clear hK K
  try simp only [Act.put, List.setIfInBounds_toArray, List.set_cons_zero, List.set_cons_succ]
  refine wpAnyH_ready (rs := [3]) (by kernel_rfl) (by simp) ?_
  refine AllReadyH.cons (o := ?o3) ?hi3 (fun K hK => ?st3) AllReadyH.nil
  case hi3 => simp only [List.getElem?_toArray, List.getElem?_cons_succ, List.getElem?_cons_zero]; rfl
  go_simp
  (go_at_call 15; refine (rng_any a b nt _).mono ?_; rintro e w' ⟨rfl, hbl⟩)
  refine hK.out _ _ ?_ (fun hHeld => ?_)
  · (try dsimp only); (exact ⟨RCt.below hHeld.1 hbl, RCt.below hHeld.2.1 hbl, RCt.below hHeld.2.2.1 hbl, hHeld.2.2.2.trans (hbl.mono hHeld.2.2.2.size)⟩)
  clear hK K
  try simp only [Act.put, List.setIfInBounds_toArray, List.set_cons_zero, List.set_cons_succ]
  refine wpAnyH_ready (rs := [4]) (by kernel_rfl) (by simp) ?_
  refine AllReadyH.cons (o := ?o4) ?hi4 (fun K hK => ?st4) AllReadyH.nil
  case hi4 => simp only [List.getElem?_toArray, List.getElem?_cons_succ, List.getElem?_cons_zero]; rfl
  go_simp
  (go_at_call 19; refine (HRM.out _).mono ?_; rintro e w' ⟨rfl, hbl⟩)
  refine hK.out _ _ ?_ (fun hHeld => ?_)
  · (try dsimp only); (exact ⟨RCt.below hHeld.1 hbl, RCt.below hHeld.2.1 hbl, RCt.below hHeld.2.2.1 hbl, hHeld.2.2.2.trans (hbl.mono hHeld.2.2.2.size)⟩)
  clear hK K
  try simp only [Act.put, List.setIfInBounds_toArray, List.set_cons_zero, List.set_cons_succ]
  refine wpAnyH_take (i := 5) (oi := ?o5) (v := ?v5) ?hi5 (by kernel_rfl) (by kernel_rfl) (by kernel_rfl) (fun _ _ _ h => h) ?hy5 (by assumption) ?r5
  case hi5 => simp only [List.getElem?_toArray, List.getElem?_cons_succ, List.getElem?_cons_zero]; rfl
  case hy5 => exact Or.inl ⟨by rfl, by (intro w hSw; (try dsimp only at hSw); obtain ⟨q0, q1, q2, q3, q4, q5, q6⟩ := hSw.1.cells; obtain ⟨r0, r1, r2, r3, r4, r5, r6⟩ := hSw.2.1.cells; obtain ⟨s0, s1, s2, s3, s4, s5, s6⟩ := hSw.2.2.1.cells; go_simp) <;> with_reducible rfl⟩
  try simp only [Act.put, List.setIfInBounds_toArray, List.set_cons_zero, List.set_cons_succ]
  refine wpAnyH_take (i := 6) (oi := ?o6) (v := ?v6) ?hi6 (by kernel_rfl) (by kernel_rfl) (by kernel_rfl) (fun _ _ _ h => h) ?hy6 (by assumption) ?r6
  case hi6 => simp only [List.getElem?_toArray, List.getElem?_cons_succ, List.getElem?_cons_zero]; rfl
  case hy6 => exact Or.inl ⟨by rfl, by (intro w hSw; (try dsimp only at hSw); obtain ⟨q0, q1, q2, q3, q4, q5, q6⟩ := hSw.1.cells; obtain ⟨r0, r1, r2, r3, r4, r5, r6⟩ := hSw.2.1.cells; obtain ⟨s0, s1, s2, s3, s4, s5, s6⟩ := hSw.2.2.1.cells; go_simp) <;> with_reducible rfl⟩
  try simp only [Act.put, List.setIfInBounds_toArray, List.set_cons_zero, List.set_cons_succ]
  refine wpAnyH_take (i := 7) (oi := ?o7) (v := ?v7) ?hi7 (by kernel_rfl) (by kernel_rfl) (by kernel_rfl) (fun _ _ _ h => h) ?hy7 (by assumption) ?r7
  case hi7 => simp only [List.getElem?_toArray, List.getElem?_cons_succ, List.getElem?_cons_zero]; rfl
  case hy7 => exact Or.inl ⟨by rfl, by (intro w hSw; (try dsimp only at hSw); obtain ⟨q0, q1, q2, q3, q4, q5, q6⟩ := hSw.1.cells; obtain ⟨r0, r1, r2, r3, r4, r5, r6⟩ := hSw.2.1.cells; obtain ⟨s0, s1, s2, s3, s4, s5, s6⟩ := hSw.2.2.1.cells; go_simp) <;> with_reducible rfl⟩
  try simp only [Act.put, List.setIfInBounds_toArray, List.set_cons_zero, List.set_cons_succ]
  refine wpAnyH_take (i := 8) (oi := ?o8) (v := ?v8) ?hi8 (by kernel_rfl) (by kernel_rfl) (by kernel_rfl) (fun _ _ _ h => h) ?hy8 (by assumption) ?r8
  case hi8 => simp only [List.getElem?_toArray, List.getElem?_cons_succ, List.getElem?_cons_zero]; rfl
  case hy8 => exact Or.inl ⟨by rfl, by (intro w hSw; (try dsimp only at hSw); obtain ⟨q0, q1, q2, q3, q4, q5, q6⟩ := hSw.1.cells; obtain ⟨r0, r1, r2, r3, r4, r5, r6⟩ := hSw.2.1.cells; obtain ⟨s0, s1, s2, s3, s4, s5, s6⟩ := hSw.2.2.1.cells; go_simp) <;> with_reducible rfl⟩
  try simp only [Act.put, List.setIfInBounds_toArray, List.set_cons_zero, List.set_cons_succ]
  refine wpAnyH_take (i := 9) (oi := ?o9) (v := ?v9) ?hi9 (by kernel_rfl) (by kernel_rfl) (by kernel_rfl) (fun _ _ _ h => h) ?hy9 (by assumption) ?r9
  case hi9 => simp only [List.getElem?_toArray, List.getElem?_cons_succ, List.getElem?_cons_zero]; rfl
  case hy9 => exact Or.inl ⟨by rfl, by (intro w hSw; (try dsimp only at hSw); obtain ⟨q0, q1, q2, q3, q4, q5, q6⟩ := hSw.1.cells; obtain ⟨r0, r1, r2, r3, r4, r5, r6⟩ := hSw.2.1.cells; obtain ⟨s0, s1, s2, s3, s4, s5, s6⟩ := hSw.2.2.1.cells; go_simp) <;> with_reducible rfl⟩
  try simp only [Act.put, List.setIfInBounds_toArray, List.set_cons_zero, List.set_cons_succ]
  refine wpAnyH_take (i := 10) (oi := ?o10) (v := ?v10) ?hi10 (by kernel_rfl) (by kernel_rfl) (by kernel_rfl) (fun _ _ _ h => h) ?hy10 (by assumption) ?r10
  case hi10 => simp only [List.getElem?_toArray, List.getElem?_cons_succ, List.getElem?_cons_zero]; rfl
  case hy10 => exact Or.inl ⟨by rfl, by (intro w hSw; (try dsimp only at hSw); obtain ⟨q0, q1, q2, q3, q4, q5, q6⟩ := hSw.1.cells; obtain ⟨r0, r1, r2, r3, r4, r5, r6⟩ := hSw.2.1.cells; obtain ⟨s0, s1, s2, s3, s4, s5, s6⟩ := hSw.2.2.1.cells; go_simp) <;> with_reducible rfl⟩
  try simp only [Act.put, List.setIfInBounds_toArray, List.set_cons_zero, List.set_cons_succ]
  refine wpAnyH_take (i := 11) (oi := ?o11) (v := ?v11) ?hi11 (by kernel_rfl) (by kernel_rfl) (by kernel_rfl) (fun _ _ _ h => h) ?hy11 (by assumption) ?r11
  case hi11 => simp only [List.getElem?_toArray, List.getElem?_cons_succ, List.getElem?_cons_zero]; rfl
  case hy11 => exact Or.inl ⟨by rfl, by (intro w hSw; (try dsimp only at hSw); obtain ⟨q0, q1, q2, q3, q4, q5, q6⟩ := hSw.1.cells; obtain ⟨r0, r1, r2, r3, r4, r5, r6⟩ := hSw.2.1.cells; obtain ⟨s0, s1, s2, s3, s4, s5, s6⟩ := hSw.2.2.1.cells; go_simp) <;> with_reducible rfl⟩
  try simp only [Act.put, List.setIfInBounds_toArray, List.set_cons_zero, List.set_cons_succ]
  refine wpAnyH_take (i := 12) (oi := ?o12) (v := ?v12) ?hi12 (by kernel_rfl) (by kernel_rfl) (by kernel_rfl) (fun _ _ _ h => h) ?hy12 (by assumption) ?r12
  case hi12 => simp only [List.getElem?_toArray, List.getElem?_cons_succ, List.getElem?_cons_zero]; rfl
  case hy12 => exact Or.inl ⟨by rfl, by (intro w hSw; (try dsimp only at hSw); obtain ⟨q0, q1, q2, q3, q4, q5, q6⟩ := hSw.1.cells; obtain ⟨r0, r1, r2, r3, r4, r5, r6⟩ := hSw.2.1.cells; obtain ⟨s0, s1, s2, s3, s4, s5, s6⟩ := hSw.2.2.1.cells; go_simp) <;> with_reducible rfl⟩
  try simp only [Act.put, List.setIfInBounds_toArray, List.set_cons_zero, List.set_cons_succ]
  refine wpAnyH_take (i := 13) (oi := ?o13) (v := ?v13) ?hi13 (by kernel_rfl) (by kernel_rfl) (by kernel_rfl) (fun _ _ _ h => h) ?hy13 (by assumption) ?r13
  case hi13 => simp only [List.getElem?_toArray, List.getElem?_cons_succ, List.getElem?_cons_zero]; rfl
  case hy13 => exact Or.inl ⟨by rfl, by (intro w hSw; (try dsimp only at hSw); obtain ⟨q0, q1, q2, q3, q4, q5, q6⟩ := hSw.1.cells; obtain ⟨r0, r1, r2, r3, r4, r5, r6⟩ := hSw.2.1.cells; obtain ⟨s0, s1, s2, s3, s4, s5, s6⟩ := hSw.2.2.1.cells; go_simp) <;> with_reducible rfl⟩
  try simp only [Act.put, List.setIfInBounds_toArray, List.set_cons_zero, List.set_cons_succ]
  refine wpAnyH_take (i := 14) (oi := ?o14) (v := ?v14) ?hi14 (by kernel_rfl) (by kernel_rfl) (by kernel_rfl) (fun _ _ _ h => h) ?hy14 (by assumption) ?r14
  case hi14 => simp only [List.getElem?_toArray, List.getElem?_cons_succ, List.getElem?_cons_zero]; rfl
  case hy14 => exact Or.inl ⟨by rfl, by (intro w hSw; (try dsimp only at hSw); obtain ⟨q0, q1, q2, q3, q4, q5, q6⟩ := hSw.1.cells; obtain ⟨r0, r1, r2, r3, r4, r5, r6⟩ := hSw.2.1.cells; obtain ⟨s0, s1, s2, s3, s4, s5, s6⟩ := hSw.2.2.1.cells; go_simp) <;> with_reducible rfl⟩
  try simp only [Act.put, List.setIfInBounds_toArray, List.set_cons_zero, List.set_cons_succ]
  refine wpAnyH_take (i := 15) (oi := ?o15) (v := ?v15) ?hi15 (by kernel_rfl) (by kernel_rfl) (by kernel_rfl) (fun _ _ _ h => h) ?hy15 (by assumption) ?r15
  case hi15 => simp only [List.getElem?_toArray, List.getElem?_cons_succ, List.getElem?_cons_zero]; rfl
  case hy15 => exact Or.inl ⟨by rfl, by (intro w hSw; (try dsimp only at hSw); obtain ⟨q0, q1, q2, q3, q4, q5, q6⟩ := hSw.1.cells; obtain ⟨r0, r1, r2, r3, r4, r5, r6⟩ := hSw.2.1.cells; obtain ⟨s0, s1, s2, s3, s4, s5, s6⟩ := hSw.2.2.1.cells; go_simp) <;> with_reducible rfl⟩
  try simp only [Act.put, List.setIfInBounds_toArray, List.set_cons_zero, List.set_cons_succ]
  refine wpAnyH_take (i := 16) (oi := ?o16) (v := ?v16) ?hi16 (by kernel_rfl) (by kernel_rfl) (by kernel_rfl) (fun _ _ _ h => h) ?hy16 (by assumption) ?r16
  case hi16 => simp only [List.getElem?_toArray, List.getElem?_cons_succ, List.getElem?_cons_zero]; rfl
  case hy16 => exact Or.inl ⟨by rfl, by (intro w hSw; (try dsimp only at hSw); obtain ⟨q0, q1, q2, q3, q4, q5, q6⟩ := hSw.1.cells; obtain ⟨r0, r1, r2, r3, r4, r5, r6⟩ := hSw.2.1.cells; obtain ⟨s0, s1, s2, s3, s4, s5, s6⟩ := hSw.2.2.1.cells; go_simp) <;> with_reducible rfl⟩
  try simp only [Act.put, List.setIfInBounds_toArray, List.set_cons_zero, List.set_cons_succ]
  refine wpAnyH_take (i := 17) (oi := ?o17) (v := ?v17) ?hi17 (by kernel_rfl) (by kernel_rfl) (by kernel_rfl) (fun _ _ _ h => h) ?hy17 (by assumption) ?r17
  case hi17 => simp only [List.getElem?_toArray, List.getElem?_cons_succ, List.getElem?_cons_zero]; rfl
  case hy17 => exact Or.inl ⟨by rfl, by (intro w hSw; (try dsimp only at hSw); obtain ⟨q0, q1, q2, q3, q4, q5, q6⟩ := hSw.1.cells; obtain ⟨r0, r1, r2, r3, r4, r5, r6⟩ := hSw.2.1.cells; obtain ⟨s0, s1, s2, s3, s4, s5, s6⟩ := hSw.2.2.1.cells; go_simp) <;> with_reducible rfl⟩
  try simp only [Act.put, List.setIfInBounds_toArray, List.set_cons_zero, List.set_cons_succ]
  refine wpAnyH_take (i := 19) (oi := ?o19) (v := ?v19) ?hi19 (by kernel_rfl) (by kernel_rfl) (by kernel_rfl) (fun _ _ _ h => h) ?hy19 (by assumption) ?r19
  case hi19 => simp only [List.getElem?_toArray, List.getElem?_cons_succ, List.getElem?_cons_zero]; rfl
  case hy19 => exact Or.inl ⟨by rfl, by (intro w hSw; (try dsimp only at hSw); obtain ⟨q0, q1, q2, q3, q4, q5, q6⟩ := hSw.1.cells; obtain ⟨r0, r1, r2, r3, r4, r5, r6⟩ := hSw.2.1.cells; obtain ⟨s0, s1, s2, s3, s4, s5, s6⟩ := hSw.2.2.1.cells; go_simp) <;> with_reducible rfl⟩
  try simp only [Act.put, List.setIfInBounds_toArray, List.set_cons_zero, List.set_cons_succ]
  refine wpAnyH_ready (rs := [18]) (by kernel_rfl) (by simp) ?_
  refine AllReadyH.cons (o := ?o18) ?hi18 (fun K hK => ?st18) AllReadyH.nil
  case hi18 => simp only [List.getElem?_toArray, List.getElem?_cons_succ, List.getElem?_cons_zero]; rfl
  go_simp
  (go_at_call 15; refine (rng_any a2 b2 n2 _).mono ?_; rintro e w' ⟨rfl, hbl⟩)
  refine hK.out _ _ ?_ (fun hHeld => ?_)
  · (try dsimp only); (exact ⟨RCt.below hHeld.1 hbl, RCt.below hHeld.2.1 hbl, RCt.below hHeld.2.2.1 hbl, hHeld.2.2.2.trans (hbl.mono hHeld.2.2.2.size)⟩)
  clear hK K
  try simp only [Act.put, List.setIfInBounds_toArray, List.set_cons_zero, List.set_cons_succ]
  refine wpAnyH_take (i := 20) (oi := ?o20) (v := ?v20) ?hi20 (by kernel_rfl) (by kernel_rfl) (by kernel_rfl) (fun _ _ _ h => h) ?hy20 (by assumption) ?r20
  case hi20 => simp only [List.getElem?_toArray, List.getElem?_cons_succ, List.getElem?_cons_zero]; rfl
  case hy20 => exact Or.inl ⟨by rfl, by (intro w hSw; (try dsimp only at hSw); obtain ⟨q0, q1, q2, q3, q4, q5, q6⟩ := hSw.1.cells; obtain ⟨r0, r1, r2, r3, r4, r5, r6⟩ := hSw.2.1.cells; obtain ⟨s0, s1, s2, s3, s4, s5, s6⟩ := hSw.2.2.1.cells; go_simp) <;> with_reducible rfl⟩
  try simp only [Act.put, List.setIfInBounds_toArray, List.set_cons_zero, List.set_cons_succ]
  refine wpAnyH_take (i := 21) (oi := ?o21) (v := ?v21) ?hi21 (by kernel_rfl) (by kernel_rfl) (by kernel_rfl) (fun _ _ _ h => h) ?hy21 (by assumption) ?r21
  case hi21 => simp only [List.getElem?_toArray, List.getElem?_cons_succ, List.getElem?_cons_zero]; rfl
  case hy21 => exact Or.inl ⟨by rfl, by (intro w hSw; (try dsimp only at hSw); obtain ⟨q0, q1, q2, q3, q4, q5, q6⟩ := hSw.1.cells; obtain ⟨r0, r1, r2, r3, r4, r5, r6⟩ := hSw.2.1.cells; obtain ⟨s0, s1, s2, s3, s4, s5, s6⟩ := hSw.2.2.1.cells; go_simp) <;> with_reducible rfl⟩
  try simp only [Act.put, List.setIfInBounds_toArray, List.set_cons_zero, List.set_cons_succ]
  refine wpAnyH_take (i := 22) (oi := ?o22) (v := ?v22) ?hi22 (by kernel_rfl) (by kernel_rfl) (by kernel_rfl) (fun _ _ _ h => h) ?hy22 (by assumption) ?r22
  case hi22 => simp only [List.getElem?_toArray, List.getElem?_cons_succ, List.getElem?_cons_zero]; rfl
  case hy22 => exact Or.inl ⟨by rfl, by (intro w hSw; (try dsimp only at hSw); obtain ⟨q0, q1, q2, q3, q4, q5, q6⟩ := hSw.1.cells; obtain ⟨r0, r1, r2, r3, r4, r5, r6⟩ := hSw.2.1.cells; obtain ⟨s0, s1, s2, s3, s4, s5, s6⟩ := hSw.2.2.1.cells; go_simp) <;> with_reducible rfl⟩
  try simp only [Act.put, List.setIfInBounds_toArray, List.set_cons_zero, List.set_cons_succ]
  refine wpAnyH_take (i := 23) (oi := ?o23) (v := ?v23) ?hi23 (by kernel_rfl) (by kernel_rfl) (by kernel_rfl) (fun _ _ _ h => h) ?hy23 (by assumption) ?r23
  case hi23 => simp only [List.getElem?_toArray, List.getElem?_cons_succ, List.getElem?_cons_zero]; rfl
  case hy23 => exact Or.inl ⟨by rfl, by (intro w hSw; (try dsimp only at hSw); obtain ⟨q0, q1, q2, q3, q4, q5, q6⟩ := hSw.1.cells; obtain ⟨r0, r1, r2, r3, r4, r5, r6⟩ := hSw.2.1.cells; obtain ⟨s0, s1, s2, s3, s4, s5, s6⟩ := hSw.2.2.1.cells; go_simp) <;> with_reducible rfl⟩
  try simp only [Act.put, List.setIfInBounds_toArray, List.set_cons_zero, List.set_cons_succ]
  refine wpAnyH_take (i := 24) (oi := ?o24) (v := ?v24) ?hi24 (by kernel_rfl) (by kernel_rfl) (by kernel_rfl) (fun _ _ _ h => h) ?hy24 (by assumption) ?r24
  case hi24 => simp only [List.getElem?_toArray, List.getElem?_cons_succ, List.getElem?_cons_zero]; rfl
  case hy24 => exact Or.inl ⟨by rfl, by (intro w hSw; (try dsimp only at hSw); obtain ⟨q0, q1, q2, q3, q4, q5, q6⟩ := hSw.1.cells; obtain ⟨r0, r1, r2, r3, r4, r5, r6⟩ := hSw.2.1.cells; obtain ⟨s0, s1, s2, s3, s4, s5, s6⟩ := hSw.2.2.1.cells; go_simp) <;> with_reducible rfl⟩
  try simp only [Act.put, List.setIfInBounds_toArray, List.set_cons_zero, List.set_cons_succ]
  refine wpAnyH_take (i := 25) (oi := ?o25) (v := ?v25) ?hi25 (by kernel_rfl) (by kernel_rfl) (by kernel_rfl) (fun _ _ _ h => h) ?hy25 (by assumption) ?r25
  case hi25 => simp only [List.getElem?_toArray, List.getElem?_cons_succ, List.getElem?_cons_zero]; rfl
  case hy25 => exact Or.inl ⟨by rfl, by (intro w hSw; (try dsimp only at hSw); obtain ⟨q0, q1, q2, q3, q4, q5, q6⟩ := hSw.1.cells; obtain ⟨r0, r1, r2, r3, r4, r5, r6⟩ := hSw.2.1.cells; obtain ⟨s0, s1, s2, s3, s4, s5, s6⟩ := hSw.2.2.1.cells; go_simp) <;> with_reducible rfl⟩
  try simp only [Act.put, List.setIfInBounds_toArray, List.set_cons_zero, List.set_cons_succ]
  refine wpAnyH_take (i := 26) (oi := ?o26) (v := ?v26) ?hi26 (by kernel_rfl) (by kernel_rfl) (by kernel_rfl) (fun _ _ _ h => h) ?hy26 (by assumption) ?r26
  case hi26 => simp only [List.getElem?_toArray, List.getElem?_cons_succ, List.getElem?_cons_zero]; rfl
  case hy26 => exact Or.inl ⟨by rfl, by (intro w hSw; (try dsimp only at hSw); obtain ⟨q0, q1, q2, q3, q4, q5, q6⟩ := hSw.1.cells; obtain ⟨r0, r1, r2, r3, r4, r5, r6⟩ := hSw.2.1.cells; obtain ⟨s0, s1, s2, s3, s4, s5, s6⟩ := hSw.2.2.1.cells; go_simp) <;> with_reducible rfl⟩
  try simp only [Act.put, List.setIfInBounds_toArray, List.set_cons_zero, List.set_cons_succ]
  refine wpAnyH_take (i := 27) (oi := ?o27) (v := ?v27) ?hi27 (by kernel_rfl) (by kernel_rfl) (by kernel_rfl) (fun _ _ _ h => h) ?hy27 (by assumption) ?r27
  case hi27 => simp only [List.getElem?_toArray, List.getElem?_cons_succ, List.getElem?_cons_zero]; rfl
  case hy27 => exact Or.inl ⟨by rfl, by (intro w hSw; (try dsimp only at hSw); obtain ⟨q0, q1, q2, q3, q4, q5, q6⟩ := hSw.1.cells; obtain ⟨r0, r1, r2, r3, r4, r5, r6⟩ := hSw.2.1.cells; obtain ⟨s0, s1, s2, s3, s4, s5, s6⟩ := hSw.2.2.1.cells; go_simp) <;> with_reducible rfl⟩
  try simp only [Act.put, List.setIfInBounds_toArray, List.set_cons_zero, List.set_cons_succ]
  refine wpAnyH_done (by kernel_rfl) ?_ _
  refine NoPanic.normal ?_
  go_wp2
  go_ret
  exact ⟨ret1 (by first | rfl | simp), hHeld.2.2.2⟩
theorem addrTells_walk (W : World) (hL : Lay W) (a b : A3) (nt : Bool) (s : ByteArray) (ws : s.size ≤ maxLen) :
    Calls Tryd.prog 3 #[RV a b nt, .string s] W fun e w' => e = .returned (.bool true) ∧ Below W.heap.size W w' := by
  have e : S s.data.toList = .string s := congrArg Value.string (Lib.mk_data s)
  rw [← e]
  by_cases hl : s.data.toList.length ≤ 200
  · exact tells_small a b nt _ W hL hl
  · exact tells_big a b nt _ W hL (by omega)
end Go.Proofs.YtcijhfdccbgcpaaDoor.Ad
