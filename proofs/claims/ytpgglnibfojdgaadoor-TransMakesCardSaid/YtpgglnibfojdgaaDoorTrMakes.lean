/- TransMakes: the walk. -/
import Derived.Test.YtpgglnibfojdgaaDoorTrApart
import Derived.Test.YtpgglnibfojdgaaDoorTrRefM
namespace Go.Proofs.YtpgglnibfojdgaaDoor.Tr
open Go.RowKit Go.Shelf Bld
set_option linter.unusedVariables false
set_option linter.unusedSimpArgs false
theorem rm_below {a b c : Nat} {f g m : MF} {w0 w w' : World} (h : MB w a 23 f ∧ MB w b 28 g ∧ MB w c 23 m ∧ Below w0.heap.size w0 w) (hb : Below w.heap.size w w') : MB w' a 23 f ∧ MB w' b 28 g ∧ MB w' c 23 m ∧ Below w0.heap.size w0 w' :=
  ⟨(hb.block _ (lt_of_heap h.1)).trans h.1, (hb.block _ (lt_of_heap h.2.1)).trans h.2.1, (hb.block _ (lt_of_heap h.2.2.1)).trans h.2.2.1, h.2.2.2.trans (hb.mono h.2.2.2.size)⟩
set_option maxRecDepth 100000 in
set_option maxHeartbeats 1600000 in
theorem makes_walk (f t s : List UInt8) (m : MF) (w : World) (hL : Lay w) :
    Calls Tryd.prog 3 #[S f, S t, S s, MV m] w fun e w' => e = .returned (.bool true) ∧ Below w.heap.size w w' := by
  have HL := Lib.hid hL
  clear hL
  have hn := rc_size m
  have h1 := sizeOf_map
  have h2 := isAgg_map
  have HM0 := Lib.hid (heap_alloc_new w (.cells (rc m) 23))
  have HB0 := Lib.hid ((Below.refl w.heap.size w).alloc (Nat.le_refl _) (.cells (rc m) 23))
  by_cases hf : (300 : Int) < f.length
  · go_enter Tryd.func3, Tryd.ntmps3
    go_wp2_with (go_at_call 9; refine (shown_any _ (HL.out.below HB0.out)).mono ?_; rintro e w1 ⟨rfl, hb⟩)
    go_ret
    exact ⟨rfl, HB0.out.trans (hb.mono HB0.out.size)⟩
  by_cases ht : (300 : Int) < t.length
  · go_enter Tryd.func3, Tryd.ntmps3
    go_wp2_with (go_at_call 9; refine (shown_any _ (HL.out.below HB0.out)).mono ?_; rintro e w1 ⟨rfl, hb⟩)
    go_ret
    exact ⟨rfl, HB0.out.trans (hb.mono HB0.out.size)⟩
  by_cases hs : (300 : Int) < s.length
  · go_enter Tryd.func3, Tryd.ntmps3
    go_wp2_with (go_at_call 9; refine (shown_any _ (HL.out.below HB0.out)).mono ?_; rintro e w1 ⟨rfl, hb⟩)
    go_ret
    exact ⟨rfl, HB0.out.trans (hb.mono HB0.out.size)⟩
  have HK := Lib.hid (fun (wq : World) => make_any f t wq (by omega) (by omega))
  have HKR := Lib.hid (fun (wq : World) => refMake_any f t wq (by omega) (by omega))
  have HA := Lib.hid (fun (wq : World) => apply_any m s wq (by omega))
  have HRA := Lib.hid (fun (wq : World) => refApply_any m s wq (by omega))
  generalize mkF f t = p at *
  obtain ⟨g, x⟩ := p
  dsimp only at HK HKR
  generalize applyL m s = sa at *
  have hz1 := rowP.hz
  have hz2 := rowR.hz
  have heq := run_eqM
  go_enter Tryd.func3, Tryd.ntmps3
  rw [show Code.region 5 = Fz 5 from rfl]
  go_wp2_with (first
    | (go_at_call 9; refine (shown_any _ (HL.out.below HB0.out)).mono ?_; rintro e w1 ⟨rfl, hb⟩; have HB1 := Lib.hid (HB0.out.trans (hb.mono HB0.out.size)); have HM1 := Lib.hid ((hb.block _ (lt_of_heap HM0.out)).trans HM0.out); clear hb)
    | (go_at_call 10; have hb0 := HB1.out; clear HB1; refine (HK.out _).mono ?_; rintro e w2 ⟨rfl, hb⟩; have hsc := run_storeCells_new (P := Tryd.prog) w2 23 (rc fun _ => 0) (rc g) (by rw [rc_size]; exact rowP.hs) (by rw [rc_size, rc_size]) (rc_one _); have hng := rc_size g
       have HG1 := Lib.hid (heap_alloc_new w2 (.cells (rc g) 23)); have HM2 := Lib.hid (alloc_raw ((hb.block _ (lt_of_heap HM1.out)).trans HM1.out) (.cells (rc g) 23)); have HB2 := Lib.hid ((hb0.trans (hb.mono hb0.size)).alloc (Nat.le_trans hb0.size hb.size) (.cells (rc g) 23)); clear hb hb0 HM1)
    | (go_at_call 11; have hb0 := HB2.out; clear HB2 hsc; refine (HKR.out _).mono ?_; rintro e w3 ⟨rfl, hb⟩; have hsc := run_storeCells_new (P := Tryd.prog) w3 28 (rc fun _ => 0) (rc g) (by rw [rc_size]; exact rowR.hs) (by rw [rc_size, rc_size]) (rc_one _)
       have HG2 := Lib.hid (heap_alloc_new w3 (.cells (rc g) 28)); have HG3 := Lib.hid (alloc_raw ((hb.block _ (lt_of_heap HG1.out)).trans HG1.out) (.cells (rc g) 28)); have HM3 := Lib.hid (alloc_raw ((hb.block _ (lt_of_heap HM2.out)).trans HM2.out) (.cells (rc g) 28)); have HB3 := Lib.hid ((hb0.trans (hb.mono hb0.size)).alloc (Nat.le_trans hb0.size hb.size) (.cells (rc g) 28)); clear hb hb0 HM2 HG1))
  rw [show Fz 5 = Code.region 5 from rfl]
  have HS := Lib.hid (And.intro HG3.out (And.intro HG2.out (And.intro HM3.out HB3.out)))
  clear hsc hng hz1 hz2 HG3 HG2 HM3 HB3 HM0 HB0 HK HKR
  generalize w3.alloc (.cells (rc g) 28) = W at *
  generalize w3.heap.size = b3 at *
  generalize w2.heap.size = b2 at *
  refine wp_region_noPanic ?_
  refine wp_region_held_drew (S := fun w' => MB w' b2 23 g ∧ MB w' b3 28 g ∧ MB w' w.heap.size 23 m ∧ Below w.heap.size w w') (by kernel_rfl) ?_ (fun hHeld => ?_)
  · (try dsimp only); exact rm_below HS.out (Below.refl _ W).drew
  refine wpAnyH_take (i := 0) (oi := ?o0) (v := MV g) ?hi0 (by kernel_rfl) (by kernel_rfl) (by kernel_rfl) (fun _ _ _ h => h) ?hy0 (by assumption) ?r0
  case hi0 => simp only [List.getElem?_toArray, List.getElem?_cons_succ, List.getElem?_cons_zero]; rfl
  case hy0 => exact Or.inl ⟨by rfl, fun w hSw => row_run rowP (.tmp 9) rfl rfl hSw.1⟩
  try simp only [Act.put, List.setIfInBounds_toArray, List.set_cons_zero, List.set_cons_succ]
  refine wpAnyH_take (i := 1) (oi := ?o1) (v := MV g) ?hi1 (by kernel_rfl) (by kernel_rfl) (by kernel_rfl) (fun _ _ _ h => h) ?hy1 (by assumption) ?r1
  case hi1 => simp only [List.getElem?_toArray, List.getElem?_cons_succ, List.getElem?_cons_zero]; rfl
  case hy1 => exact Or.inl ⟨by rfl, fun w hSw => row_run rowR (.tmp 11) rfl rfl hSw.2.1⟩
  try simp only [Act.put, List.setIfInBounds_toArray, List.set_cons_zero, List.set_cons_succ]
  refine wpAnyH_take (i := 2) (oi := ?o2) (v := ?v2) ?hi2 (by kernel_rfl) (by kernel_rfl) (by kernel_rfl) (fun _ _ _ h => h) ?hy2 (by assumption) ?r2
  case hi2 => simp only [List.getElem?_toArray, List.getElem?_cons_succ, List.getElem?_cons_zero]; rfl
  case hy2 => exact Or.inl ⟨by rfl, by (intro w hSw; (try dsimp only at hSw); go_simp) <;> with_reducible rfl⟩
  try simp only [Act.put, List.setIfInBounds_toArray, List.set_cons_zero, List.set_cons_succ]
  refine wpAnyH_take (i := 3) (oi := ?o3) (v := ?v3) ?hi3 (by kernel_rfl) (by kernel_rfl) (by kernel_rfl) (fun _ _ _ h => h) ?hy3 (by assumption) ?r3
  case hi3 => simp only [List.getElem?_toArray, List.getElem?_cons_succ, List.getElem?_cons_zero]; rfl
  case hy3 => exact Or.inl ⟨by rfl, by (intro w hSw; (try dsimp only at hSw); go_simp) <;> with_reducible rfl⟩
  try simp only [Act.put, List.setIfInBounds_toArray, List.set_cons_zero, List.set_cons_succ]
  refine wpAnyH_take (i := 4) (oi := ?o4) (v := ?v4) ?hi4 (by kernel_rfl) (by kernel_rfl) (by kernel_rfl) (fun _ _ _ h => h) ?hy4 (by assumption) ?r4
  case hi4 => simp only [List.getElem?_toArray, List.getElem?_cons_succ, List.getElem?_cons_zero]; rfl
  case hy4 => exact Or.inl ⟨by rfl, by (intro w hSw; (try dsimp only at hSw); go_simp) <;> with_reducible rfl⟩
  try simp only [Act.put, List.setIfInBounds_toArray, List.set_cons_zero, List.set_cons_succ]
  refine wpAnyH_take (i := 5) (oi := ?o5) (v := ?v5) ?hi5 (by kernel_rfl) (by kernel_rfl) (by kernel_rfl) (fun _ _ _ h => h) ?hy5 (by assumption) ?r5
  case hi5 => simp only [List.getElem?_toArray, List.getElem?_cons_succ, List.getElem?_cons_zero]; rfl
  case hy5 => exact Or.inl ⟨by rfl, by (intro w hSw; (try dsimp only at hSw); go_simp) <;> with_reducible rfl⟩
  try simp only [Act.put, List.setIfInBounds_toArray, List.set_cons_zero, List.set_cons_succ]
  refine wpAnyH_take (i := 6) (oi := ?o6) (v := ?v6) ?hi6 (by kernel_rfl) (by kernel_rfl) (by kernel_rfl) (fun _ _ _ h => h) ?hy6 (by assumption) ?r6
  case hi6 => simp only [List.getElem?_toArray, List.getElem?_cons_succ, List.getElem?_cons_zero]; rfl
  case hy6 => exact Or.inl ⟨by rfl, by (intro w hSw; (try dsimp only at hSw); go_simp) <;> with_reducible rfl⟩
  try simp only [Act.put, List.setIfInBounds_toArray, List.set_cons_zero, List.set_cons_succ]
  refine wpAnyH_take (i := 7) (oi := ?o7) (v := ?v7) ?hi7 (by kernel_rfl) (by kernel_rfl) (by kernel_rfl) (fun _ _ _ h => h) ?hy7 (by assumption) ?r7
  case hi7 => simp only [List.getElem?_toArray, List.getElem?_cons_succ, List.getElem?_cons_zero]; rfl
  case hy7 => exact Or.inl ⟨by rfl, by (intro w hSw; (try dsimp only at hSw); go_simp) <;> with_reducible rfl⟩
  try simp only [Act.put, List.setIfInBounds_toArray, List.set_cons_zero, List.set_cons_succ]
  refine wpAnyH_take (i := 8) (oi := ?o8) (v := ?v8) ?hi8 (by kernel_rfl) (by kernel_rfl) (by kernel_rfl) (fun _ _ _ h => h) ?hy8 (by assumption) ?r8
  case hi8 => simp only [List.getElem?_toArray, List.getElem?_cons_succ, List.getElem?_cons_zero]; rfl
  case hy8 => exact Or.inl ⟨by rfl, by (intro w hSw; (try dsimp only at hSw); go_simp) <;> with_reducible rfl⟩
  try simp only [Act.put, List.setIfInBounds_toArray, List.set_cons_zero, List.set_cons_succ]
  refine wpAnyH_take (i := 9) (oi := ?o9) (v := MV m) ?hi9 (by kernel_rfl) (by kernel_rfl) (by kernel_rfl) (fun _ _ _ h => h) ?hy9 (by assumption) ?r9
  case hi9 => simp only [List.getElem?_toArray, List.getElem?_cons_succ, List.getElem?_cons_zero]; rfl
  case hy9 => exact Or.inl ⟨by rfl, fun w hSw => row_run rowP (.tmp 7) rfl rfl hSw.2.2.1⟩
  try simp only [Act.put, List.setIfInBounds_toArray, List.set_cons_zero, List.set_cons_succ]
  refine wpAnyH_take (i := 10) (oi := ?o10) (v := ?v10) ?hi10 (by kernel_rfl) (by kernel_rfl) (by kernel_rfl) (fun _ _ _ h => h) ?hy10 (by assumption) ?r10
  case hi10 => simp only [List.getElem?_toArray, List.getElem?_cons_succ, List.getElem?_cons_zero]; rfl
  case hy10 => exact Or.inl ⟨by rfl, by (intro w hSw; (try dsimp only at hSw); go_simp) <;> with_reducible rfl⟩
  try simp only [Act.put, List.setIfInBounds_toArray, List.set_cons_zero, List.set_cons_succ]
  refine wpAnyH_take (i := 12) (oi := ?o12) (v := MV m) ?hi12 (by kernel_rfl) (by kernel_rfl) (by kernel_rfl) (fun _ _ _ h => h) ?hy12 (by assumption) ?r12
  case hi12 => simp only [List.getElem?_toArray, List.getElem?_cons_succ, List.getElem?_cons_zero]; rfl
  case hy12 => exact Or.inl ⟨by rfl, fun w hSw => row_run rowP (.tmp 7) rfl rfl hSw.2.2.1⟩
  try simp only [Act.put, List.setIfInBounds_toArray, List.set_cons_zero, List.set_cons_succ]
  refine wpAnyH_take (i := 13) (oi := ?o13) (v := ?v13) ?hi13 (by kernel_rfl) (by kernel_rfl) (by kernel_rfl) (fun _ _ _ h => h) ?hy13 (by assumption) ?r13
  case hi13 => simp only [List.getElem?_toArray, List.getElem?_cons_succ, List.getElem?_cons_zero]; rfl
  case hy13 => exact Or.inl ⟨by rfl, by (intro w hSw; (try dsimp only at hSw); go_simp) <;> with_reducible rfl⟩
  try simp only [Act.put, List.setIfInBounds_toArray, List.set_cons_zero, List.set_cons_succ]
  refine wpAnyH_ready (rs := [11]) (by kernel_rfl) (by simp) ?_
  refine AllReadyH.cons (o := ?o11) ?hi11 (fun K hK => ?st11) AllReadyH.nil
  case hi11 => simp only [List.getElem?_toArray, List.getElem?_cons_succ, List.getElem?_cons_zero]; rfl
  go_simp
  (go_at_call 12; refine (HA.out _).mono ?_; rintro e w' ⟨rfl, hbl⟩)
  refine hK.out _ _ ?_ (fun hHeld => ?_)
  · (try dsimp only); (first | exact hHeld | exact rm_below hHeld hbl)
  clear hK K
  try simp only [Act.put, List.setIfInBounds_toArray, List.set_cons_zero, List.set_cons_succ]
  refine wpAnyH_ready (rs := [14]) (by kernel_rfl) (by simp) ?_
  refine AllReadyH.cons (o := ?o14) ?hi14 (fun K hK => ?st14) AllReadyH.nil
  case hi14 => simp only [List.getElem?_toArray, List.getElem?_cons_succ, List.getElem?_cons_zero]; rfl
  go_simp
  (go_at_call 13; refine (HRA.out _).mono ?_; rintro e w' ⟨rfl, hbl⟩)
  refine hK.out _ _ ?_ (fun hHeld => ?_)
  · (try dsimp only); (first | exact hHeld | exact rm_below hHeld hbl)
  clear hK K
  try simp only [Act.put, List.setIfInBounds_toArray, List.set_cons_zero, List.set_cons_succ]
  refine wpAnyH_take (i := 15) (oi := ?o15) (v := ?v15) ?hi15 (by kernel_rfl) (by kernel_rfl) (by kernel_rfl) (fun _ _ _ h => h) ?hy15 (by assumption) ?r15
  case hi15 => simp only [List.getElem?_toArray, List.getElem?_cons_succ, List.getElem?_cons_zero]; rfl
  case hy15 => exact Or.inl ⟨by rfl, by (intro w hSw; (try dsimp only at hSw); go_simp) <;> with_reducible rfl⟩
  try simp only [Act.put, List.setIfInBounds_toArray, List.set_cons_zero, List.set_cons_succ]
  refine wpAnyH_take (i := 16) (oi := ?o16) (v := ?v16) ?hi16 (by kernel_rfl) (by kernel_rfl) (by kernel_rfl) (fun _ _ _ h => h) ?hy16 (by assumption) ?r16
  case hi16 => simp only [List.getElem?_toArray, List.getElem?_cons_succ, List.getElem?_cons_zero]; rfl
  case hy16 => exact Or.inl ⟨by rfl, by (intro w hSw; (try dsimp only at hSw); go_simp) <;> with_reducible rfl⟩
  try simp only [Act.put, List.setIfInBounds_toArray, List.set_cons_zero, List.set_cons_succ]
  refine wpAnyH_take (i := 17) (oi := ?o17) (v := ?v17) ?hi17 (by kernel_rfl) (by kernel_rfl) (by kernel_rfl) (fun _ _ _ h => h) ?hy17 (by assumption) ?r17
  case hi17 => simp only [List.getElem?_toArray, List.getElem?_cons_succ, List.getElem?_cons_zero]; rfl
  case hy17 => exact Or.inl ⟨by rfl, by (intro w hSw; (try dsimp only at hSw); go_simp) <;> with_reducible rfl⟩
  try simp only [Act.put, List.setIfInBounds_toArray, List.set_cons_zero, List.set_cons_succ]
  refine wpAnyH_ready (rs := [18]) (by kernel_rfl) (by simp) ?_
  refine AllReadyH.cons (o := ?o18) ?hi18 (fun K hK => ?st18) AllReadyH.nil
  case hi18 => simp only [List.getElem?_toArray, List.getElem?_cons_succ, List.getElem?_cons_zero]; rfl
  go_simp
  (go_at_call 14; refine (same_any _).mono ?_; rintro e w' ⟨rfl, hbl⟩)
  refine hK.out _ _ ?_ (fun hHeld => ?_)
  · (try dsimp only); (first | exact hHeld | exact rm_below hHeld hbl)
  clear hK K
  try simp only [Act.put, List.setIfInBounds_toArray, List.set_cons_zero, List.set_cons_succ]
  refine wpAnyH_ready (rs := [19]) (by kernel_rfl) (by simp) ?_
  refine AllReadyH.cons (o := ?o19) ?hi19 (fun K hK => ?st19) AllReadyH.nil
  case hi19 => simp only [List.getElem?_toArray, List.getElem?_cons_succ, List.getElem?_cons_zero]; rfl
  go_simp
  (go_at_call 15; refine (refSame_any _).mono ?_; rintro e w' ⟨rfl, hbl⟩)
  refine hK.out _ _ ?_ (fun hHeld => ?_)
  · (try dsimp only); (first | exact hHeld | exact rm_below hHeld hbl)
  clear hK K
  try simp only [Act.put, List.setIfInBounds_toArray, List.set_cons_zero, List.set_cons_succ]
  refine wpAnyH_take (i := 20) (oi := ?o20) (v := ?v20) ?hi20 (by kernel_rfl) (by kernel_rfl) (by kernel_rfl) (fun _ _ _ h => h) ?hy20 (by assumption) ?r20
  case hi20 => simp only [List.getElem?_toArray, List.getElem?_cons_succ, List.getElem?_cons_zero]; rfl
  case hy20 => exact Or.inl ⟨by rfl, by (intro w hSw; (try dsimp only at hSw); go_simp) <;> with_reducible rfl⟩
  try simp only [Act.put, List.setIfInBounds_toArray, List.set_cons_zero, List.set_cons_succ]
  refine wpAnyH_take (i := 21) (oi := ?o21) (v := ?v21) ?hi21 (by kernel_rfl) (by kernel_rfl) (by kernel_rfl) (fun _ _ _ h => h) ?hy21 (by assumption) ?r21
  case hi21 => simp only [List.getElem?_toArray, List.getElem?_cons_succ, List.getElem?_cons_zero]; rfl
  case hy21 => exact Or.inl ⟨by rfl, by (intro w hSw; (try dsimp only at hSw); go_simp) <;> with_reducible rfl⟩
  try simp only [Act.put, List.setIfInBounds_toArray, List.set_cons_zero, List.set_cons_succ]
  refine wpAnyH_take (i := 22) (oi := ?o22) (v := ?v22) ?hi22 (by kernel_rfl) (by kernel_rfl) (by kernel_rfl) (fun _ _ _ h => h) ?hy22 (by assumption) ?r22
  case hi22 => simp only [List.getElem?_toArray, List.getElem?_cons_succ, List.getElem?_cons_zero]; rfl
  case hy22 => exact Or.inl ⟨by rfl, by (intro w hSw; (try dsimp only at hSw); go_simp) <;> with_reducible rfl⟩
  try simp only [Act.put, List.setIfInBounds_toArray, List.set_cons_zero, List.set_cons_succ]
  refine wpAnyH_done (by kernel_rfl) ?_ _
  refine NoPanic.normal ?_
  go_wp2
  go_ret
  exact ⟨ret1 (by simp), hHeld.2.2.2⟩
theorem transMakes_walk (f t s : ByteArray) (m : MF) (wf : f.size ≤ maxLen) (wt : t.size ≤ maxLen) (ws : s.size ≤ maxLen) (W : World) (hL : Lay W) :
    Calls Tryd.prog 3 #[.string f, .string t, .string s, MV m] W fun e w' => e = .returned (.bool true) ∧ Below W.heap.size W w' := by
  have h := makes_walk f.data.toList t.data.toList s.data.toList m W hL
  rwa [S_mk, S_mk, S_mk] at h
end Go.Proofs.YtpgglnibfojdgaaDoor.Tr
