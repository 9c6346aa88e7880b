/- The texts RxNy. -/
import Derived.Test.YtlicoffnjphphaaGreatDoorPk06
import Derived.Test.YtlicoffnjphphaaGreatDoorPk13
set_option linter.unusedVariables false
set_option linter.unusedSimpArgs false
namespace Go.Proofs.YtlicoffnjphphaaGreatDoor.Rx
open Go.RowKit Go.Shelf
open Go.Proofs.YtlicoffnjphphaaGreatDoor.St (Wf word zeroW Tab SV SV_eq)
open Go.Proofs.YtlicoffnjphphaaGreatDoor.Ad (cutB atoiV)
set_option maxRecDepth 100000 in
set_option maxHeartbeats 3200000 in
theorem node_c (w0 : World) (b left : Nat) (lf : Int) (c : UInt8) (t s : List UInt8) (l : List Nd) (g : Int) (v : Value) (w : World) (hs : s = c :: t) (h : RW w0 b ⟨s, l, g, false⟩ v w) (hL : Lay w0) (hlen : s.length + l.length ≤ 100000) (hl : l.length ≤ 120) (hg0 : 0 ≤ g) (hg1 : g + s.length ≤ 100000) (hlf : lf = ((left + 1 : Nat) : Int)) (hle : left ≤ 1000) (IH : Below1 w0 b left)
  (hc : c = 38) :
  Calls Tryz.prog 44 #[PT b, E lf] w (NodeAns w0 b (left + 1) ⟨s, l, g, false⟩ v w) := by
 obtain ⟨ao, cap, rfl⟩ : ∃ ao cap, v = .slice ao l.length cap := own_slice h.own
 obtain ⟨i0, hi, hz0, hz1, hz2⟩ := info_parts infoNd
 have HO := Lib.hid (show nodeP (left + 1) ⟨s, l, g, false⟩ = pushP (nodeP left (nodeP left ⟨t, l, g, false⟩).1).1 ⟨4, z4, (nodeP left ⟨t, l, g, false⟩).2, (nodeP left (nodeP left ⟨t, l, g, false⟩).1).2, 0, 0, 0⟩ from by
  rw [hs]; rw [node_step hl]; subst hc; rfl)
 have hne : (s == []) = false := by rw [hs]; rfl
 have hlt : 0 < s.length := by rw [hs]; simp
 have hx : ((ByteArray.mk s.toArray)[0]'hlt) = c := by subst hs; rfl
 have hsz : (ByteArray.mk s.toArray).size = s.length := by simp [ByteArray.size]
 have hlt' : (0 : Int) < ((s.length : Nat) : Int) := by omega
 have e2 := ex_drop (l := s) 1
 have hr : s.drop 1 = t := by rw [hs]; rfl
 have htl : t.length + 1 = s.length := by rw [hs]; rfl
 rw [hr] at e2
 have h1' : (1 : Int) ≤ ((s.length : Nat) : Int) := by omega
 have h0 : (lf == 0) = false := by rw [beq_eq_false_iff_ne]; omega
 have hgt : ¬ (120 : Int) < ((l.length : Nat) : Int) := by omega
 have HL := Lib.hid hL
 have HR0 := Lib.hid h
 have HS0 := Lib.hid (st_start HR0.out lf t ⟨4, z4, 0, 0, 0, 0, 0⟩)
 dsimp only at HS0
 obtain ⟨⟨c0, c1, c2, c3⟩, f0, f1, f2, f3⟩ := HR0.out.cells
 skip
 dsimp only at c0 c1 c2 c3
 have hlb := HR0.out.lt
 have HLF := Lib.hid hlf
 clear hs h hL hr hlf
 subst hc
 skip
 go_enter Tryz.func44, Tryz.ntmps44
 skip
 go_wp2
 go_region
 have hri : Rin ⟨t, l, g, false⟩ := ⟨by dsimp only; omega, hg0, by dsimp only; omega⟩
 have hle1 := le_node left ⟨t, l, g, false⟩
 obtain ⟨r2, p2, hq⟩ : ∃ r2 p2, nodeP left ⟨t, l, g, false⟩ = (r2, p2) := ⟨_, _, rfl⟩
 rw [hq] at hle1 HO
 have HN2 := Lib.hid hq
 clear hq
 dsimp only at hle1 HO
 have hri2 := hle1.rin hri
 have hle2 := le_node left r2
 obtain ⟨r3, p3, hq⟩ : ∃ r3 p3, nodeP left r2 = (r3, p3) := ⟨_, _, rfl⟩
 rw [hq] at hle2 HO
 have HN3 := Lib.hid hq
 clear hq
 dsimp only at hle2 HO
 have hri3 := hle2.rin hri2
 have HLEN := Lib.hid (show r3.l.length ≤ 200000 from by have := hri3.len; omega)
 clear hle1 hle2 hri3
 go_wp2_with (first
  | (go_at_call 58; refine (below_any IH HLF.out hle HS0.out (hri)).mono ?_; rintro e w2 ⟨v2, he, hst⟩; rw [HN2.out] at he hst; subst he; have HS2 := Lib.hid hst; clear hst; obtain ⟨⟨x2p, x2l⟩, ⟨x20, x21, x22, x23, x24, x25, x26, x27, x28, x29⟩, x2z⟩ := HS2.out.facts; obtain ⟨⟨x2a, x2b, x2c, x2d⟩, x2e, x2f, x2g, x2h⟩ := HS2.out.rw.cells; (try dsimp only at x2a x2b x2c x2d))
  | (go_at_call 58; refine (below_any IH HLF.out hle (HS2.out.node (i := 5) (u := E (p2 : Nat)) (m := ⟨4, z4, (p2 : Nat), 0, 0, 0, 0⟩) rfl) (hri2)).mono ?_; rintro e w3 ⟨v3, he, hst⟩; rw [HN3.out] at he hst; subst he; have HS3 := Lib.hid hst; clear hst; obtain ⟨⟨x3p, x3l⟩, ⟨x30, x31, x32, x33, x34, x35, x36, x37, x38, x39⟩, x3z⟩ := HS3.out.facts; obtain ⟨⟨x3a, x3b, x3c, x3d⟩, x3e, x3f, x3g, x3h⟩ := HS3.out.rw.cells; (try dsimp only at x3a x3b x3c x3d)))
 have HSa := Lib.hid (HS3.out.node (i := 6) (u := E (p3 : Nat)) (m := ⟨4, z4, (p2 : Nat), (p3 : Nat), 0, 0, 0⟩) rfl)
 clear x3p x3l x30 x31 x32 x33 x34 x35 x36 x37 x38 x39 x3z x3a x3b x3c x3d x3e x3f x3g x3h
 refine at_world (p := fun W => ST w0 b w _ lf ⟨4, z4, (p2 : Nat), (p3 : Nat), 0, 0, 0⟩ _ _ W) HSa.out (fun W hW => ?_)
 have HSD := Lib.hid (hW.below (Below.refl _ _).drew)
 clear hW
 refine wp_region_noPanic ?_
 refine wp_region_held_drew (S := fun w' => SQ w b ⟨4, z4, (p2 : Nat), (p3 : Nat), 0, 0, 0⟩ w') (by kernel_rfl) ?_ (fun hHeld => ?_)
 · (try dsimp only); exact sq_of HSD.out
 revert HSD hHeld
 generalize World.drew _ = W8
 intro HSD hHeld
 refine Tk.fk (fun _ h => (sq_cells h)) 0 (h := ?_)
 refine Tk.fk (fun _ h => (sq_cells h)) 1 (h := ?_)
 refine Tk.fk (fun _ h => (sq_cells h)) 2 (h := ?_)
 refine Tk.fk (fun _ h => (sq_cells h)) 3 (h := ?_)
 refine Tk.fk (fun _ h => (sq_cells h)) 5 (h := ?_)
 refine wpAnyH_ready (rs := [4, 6]) (by kernel_rfl) (by simp) ?_
 refine AllReadyH.cons (o := ?o4t6) ?hi4t6 (fun K hK => ?st4t6) (AllReadyH.cons (o := ?o6t6) ?hi6t6 (fun K hK => ?st6t6) AllReadyH.nil)
 case hi4t6 => simp only [List.getElem?_toArray, List.getElem?_cons_succ, List.getElem?_cons_zero]; rfl
 case hi6t6 => simp only [List.getElem?_toArray, List.getElem?_cons_succ, List.getElem?_cons_zero]; rfl
 case st4t6 =>
  have hPrev := hHeld
  have hcl := HSD.out.rw.cells.1.2.1
  (try dsimp only at hcl)
  go_simp
  refine hK.out _ _ ?_ (fun hHeld => Tk.wrk ?_)
  · (try dsimp only); exact hPrev
  clear hK K hcl
  refine Tk.one 6 (h := fun K hK => ?_)
  go_simp
  have HSA := Lib.hid (HSD.out.below ((Below.refl _ _).alloc (Nat.le_refl _) (.cells (NC ⟨4, z4, (p2 : Nat), (p3 : Nat), 0, 0, 0⟩) 55)))
  refine hK.out _ _ ?_ (fun hHeld => Tk.wrk ?_)
  · (try dsimp only); exact sq_of HSA.out
  clear hK K
  have HNW := Lib.hid (@news_row W8 ⟨4, z4, (p2 : Nat), (p3 : Nat), 0, 0, 0⟩)
  revert HSA hHeld HNW
  generalize World.alloc _ _ = W9
  intro HSA hHeld HNW
  refine Tk.one 7 (h := fun K hK => ?_)
  (refine step_append_lies _ rfl _ _ 22 rfl w0.heap.size 55 i0 _ 10 80 Tryz.underlying22 hi hz0 hz1 hz2 rfl (by decide) _ _ _ rfl HSA.out.rw.own ⟨_, 0, none⟩ 1 1 (NC ⟨4, z4, (p2 : Nat), (p3 : Nat), 0, 0, 0⟩).toList rfl rfl HNW.out (one_row _) (by decide) (by have := HLEN.out; (try dsimp only at this ⊢); unfold maxLen; omega) (by have := HLEN.out; (try dsimp only at this ⊢); omega) HSA.out.rw.bel.size _ rfl ?_; intro gg gcap w4 hown hgrow hat hlt4)
  have HP0 := rw_push HSA.out.rw hown hgrow hat
  have HP := Lib.hid HP0
  clear HP0
  have hq8 := sq_grown HSA.out hgrow
  refine hK.out _ _ ?_ (fun hHeld => Tk.wrk ?_)
  · (try dsimp only); exact hq8
  clear hK K hq8
  refine Tk.fk (fun _ h => (sq_cells h)) 8 (h := ?_)
  refine Tk.fk (fun _ h => (sq_cells h)) 9 (h := ?_)
  refine Tk.one 10 (h := fun K hK => ?_)
  have hf4 := fz_grown HSA.out hgrow 1
  have hc4 := cell_grown HSA.out hgrow
  go_simp
  have HZ := Lib.hid (HSA.out.step HP.out.1 HP.out.2)
  refine hK.out _ _ ?_ (fun hHeld => Tk.wrk ?_)
  · (try dsimp only); exact sq_of HZ.out
  clear hK K hf4 hc4
  refine wpAnyH_done (by kernel_rfl) ?_ _
  refine NoPanic.normal ?_
  clear hHeld hgrow hown hat hlt4 HP HSA HSD HNW
  revert HZ
  generalize World.setCell _ _ _ = W10
  intro HZ
  obtain ⟨⟨p0, p1⟩, _, _⟩ := HZ.out.facts
  obtain ⟨⟨y0, y1, y2, y3⟩, _, _, _, _⟩ := HZ.out.rw.cells
  (try dsimp only at y0 y1 y2 y3)
  have hw1 : IntKind.i64.wrap ((((r3.l).length + 1 : Nat) : Int) - 1) = (((r3.l).length : Nat) : Int) := by have := HLEN.out; rw [IntKind.wrap_i64]; omega
  have hlen9 := HLEN.out
  go_wp2
  go_ret
  refine ⟨_, ?_, ?_, HZ.out.kr⟩
  · rw [HO.out]; rfl
  · rw [HO.out]; exact HZ.out.rw
 case st6t6 =>
  go_simp
  have HSA := Lib.hid (HSD.out.below ((Below.refl _ _).alloc (Nat.le_refl _) (.cells (NC ⟨4, z4, (p2 : Nat), (p3 : Nat), 0, 0, 0⟩) 55)))
  refine hK.out _ _ ?_ (fun hHeld => Tk.wrk ?_)
  · (try dsimp only); exact sq_of HSA.out
  clear hK K
  have HNW := Lib.hid (@news_row W8 ⟨4, z4, (p2 : Nat), (p3 : Nat), 0, 0, 0⟩)
  revert HSA hHeld HNW
  generalize World.alloc _ _ = W9
  intro HSA hHeld HNW
  have hPrev := hHeld
  refine Tk.one 4 (h := fun K hK => ?_)
  have hcl := HSA.out.rw.cells.1.2.1
  (try dsimp only at hcl)
  go_simp
  refine hK.out _ _ ?_ (fun hHeld => Tk.wrk ?_)
  · (try dsimp only); exact hPrev
  clear hK K hcl
  refine Tk.one 7 (h := fun K hK => ?_)
  (refine step_append_lies _ rfl _ _ 22 rfl w0.heap.size 55 i0 _ 10 80 Tryz.underlying22 hi hz0 hz1 hz2 rfl (by decide) _ _ _ rfl HSA.out.rw.own ⟨_, 0, none⟩ 1 1 (NC ⟨4, z4, (p2 : Nat), (p3 : Nat), 0, 0, 0⟩).toList rfl rfl HNW.out (one_row _) (by decide) (by have := HLEN.out; (try dsimp only at this ⊢); unfold maxLen; omega) (by have := HLEN.out; (try dsimp only at this ⊢); omega) HSA.out.rw.bel.size _ rfl ?_; intro gg gcap w4 hown hgrow hat hlt4)
  have HP0 := rw_push HSA.out.rw hown hgrow hat
  have HP := Lib.hid HP0
  clear HP0
  have hq8 := sq_grown HSA.out hgrow
  refine hK.out _ _ ?_ (fun hHeld => Tk.wrk ?_)
  · (try dsimp only); exact hq8
  clear hK K hq8
  refine Tk.fk (fun _ h => (sq_cells h)) 8 (h := ?_)
  refine Tk.fk (fun _ h => (sq_cells h)) 9 (h := ?_)
  refine Tk.one 10 (h := fun K hK => ?_)
  have hf4 := fz_grown HSA.out hgrow 1
  have hc4 := cell_grown HSA.out hgrow
  go_simp
  have HZ := Lib.hid (HSA.out.step HP.out.1 HP.out.2)
  refine hK.out _ _ ?_ (fun hHeld => Tk.wrk ?_)
  · (try dsimp only); exact sq_of HZ.out
  clear hK K hf4 hc4
  refine wpAnyH_done (by kernel_rfl) ?_ _
  refine NoPanic.normal ?_
  clear hHeld hgrow hown hat hlt4 HP HSA HSD HNW
  revert HZ
  generalize World.setCell _ _ _ = W10
  intro HZ
  obtain ⟨⟨p0, p1⟩, _, _⟩ := HZ.out.facts
  obtain ⟨⟨y0, y1, y2, y3⟩, _, _, _, _⟩ := HZ.out.rw.cells
  (try dsimp only at y0 y1 y2 y3)
  have hw1 : IntKind.i64.wrap ((((r3.l).length + 1 : Nat) : Int) - 1) = (((r3.l).length : Nat) : Int) := by have := HLEN.out; rw [IntKind.wrap_i64]; omega
  have hlen9 := HLEN.out
  go_wp2
  go_ret
  refine ⟨_, ?_, ?_, HZ.out.kr⟩
  · rw [HO.out]; rfl
  · rw [HO.out]; exact HZ.out.rw
set_option maxRecDepth 100000 in
set_option maxHeartbeats 3200000 in
theorem node_a (w0 : World) (b left : Nat) (lf : Int) (c : UInt8) (t s : List UInt8) (l : List Nd) (g : Int) (v : Value) (w : World) (hs : s = c :: t) (h : RW w0 b ⟨s, l, g, false⟩ v w) (hL : Lay w0) (hlen : s.length + l.length ≤ 100000) (hl : l.length ≤ 120) (hg0 : 0 ≤ g) (hg1 : g + s.length ≤ 100000) (hlf : lf = ((left + 1 : Nat) : Int)) (hle : left ≤ 1000) (IH : Below1 w0 b left)
  (hc : c = 124) :
  Calls Tryz.prog 44 #[PT b, E lf] w (NodeAns w0 b (left + 1) ⟨s, l, g, false⟩ v w) := by
 obtain ⟨ao, cap, rfl⟩ : ∃ ao cap, v = .slice ao l.length cap := own_slice h.own
 obtain ⟨i0, hi, hz0, hz1, hz2⟩ := info_parts infoNd
 have HO := Lib.hid (show nodeP (left + 1) ⟨s, l, g, false⟩ = pushP (nodeP left (nodeP left ⟨t, l, g, false⟩).1).1 ⟨5, z4, (nodeP left ⟨t, l, g, false⟩).2, (nodeP left (nodeP left ⟨t, l, g, false⟩).1).2, 0, 0, 0⟩ from by
  rw [hs]; rw [node_step hl]; subst hc; rfl)
 have hne : (s == []) = false := by rw [hs]; rfl
 have hlt : 0 < s.length := by rw [hs]; simp
 have hx : ((ByteArray.mk s.toArray)[0]'hlt) = c := by subst hs; rfl
 have hsz : (ByteArray.mk s.toArray).size = s.length := by simp [ByteArray.size]
 have hlt' : (0 : Int) < ((s.length : Nat) : Int) := by omega
 have e2 := ex_drop (l := s) 1
 have hr : s.drop 1 = t := by rw [hs]; rfl
 have htl : t.length + 1 = s.length := by rw [hs]; rfl
 rw [hr] at e2
 have h1' : (1 : Int) ≤ ((s.length : Nat) : Int) := by omega
 have h0 : (lf == 0) = false := by rw [beq_eq_false_iff_ne]; omega
 have hgt : ¬ (120 : Int) < ((l.length : Nat) : Int) := by omega
 have HL := Lib.hid hL
 have HR0 := Lib.hid h
 have HS0 := Lib.hid (st_start HR0.out lf t ⟨5, z4, 0, 0, 0, 0, 0⟩)
 dsimp only at HS0
 obtain ⟨⟨c0, c1, c2, c3⟩, f0, f1, f2, f3⟩ := HR0.out.cells
 skip
 dsimp only at c0 c1 c2 c3
 have hlb := HR0.out.lt
 have HLF := Lib.hid hlf
 clear hs h hL hr hlf
 subst hc
 skip
 go_enter Tryz.func44, Tryz.ntmps44
 skip
 go_wp2
 go_region
 have hri : Rin ⟨t, l, g, false⟩ := ⟨by dsimp only; omega, hg0, by dsimp only; omega⟩
 have hle1 := le_node left ⟨t, l, g, false⟩
 obtain ⟨r2, p2, hq⟩ : ∃ r2 p2, nodeP left ⟨t, l, g, false⟩ = (r2, p2) := ⟨_, _, rfl⟩
 rw [hq] at hle1 HO
 have HN2 := Lib.hid hq
 clear hq
 dsimp only at hle1 HO
 have hri2 := hle1.rin hri
 have hle2 := le_node left r2
 obtain ⟨r3, p3, hq⟩ : ∃ r3 p3, nodeP left r2 = (r3, p3) := ⟨_, _, rfl⟩
 rw [hq] at hle2 HO
 have HN3 := Lib.hid hq
 clear hq
 dsimp only at hle2 HO
 have hri3 := hle2.rin hri2
 have HLEN := Lib.hid (show r3.l.length ≤ 200000 from by have := hri3.len; omega)
 clear hle1 hle2 hri3
 go_wp2_with (first
  | (go_at_call 58; refine (below_any IH HLF.out hle HS0.out (hri)).mono ?_; rintro e w2 ⟨v2, he, hst⟩; rw [HN2.out] at he hst; subst he; have HS2 := Lib.hid hst; clear hst; obtain ⟨⟨x2p, x2l⟩, ⟨x20, x21, x22, x23, x24, x25, x26, x27, x28, x29⟩, x2z⟩ := HS2.out.facts; obtain ⟨⟨x2a, x2b, x2c, x2d⟩, x2e, x2f, x2g, x2h⟩ := HS2.out.rw.cells; (try dsimp only at x2a x2b x2c x2d))
  | (go_at_call 58; refine (below_any IH HLF.out hle (HS2.out.node (i := 5) (u := E (p2 : Nat)) (m := ⟨5, z4, (p2 : Nat), 0, 0, 0, 0⟩) rfl) (hri2)).mono ?_; rintro e w3 ⟨v3, he, hst⟩; rw [HN3.out] at he hst; subst he; have HS3 := Lib.hid hst; clear hst; obtain ⟨⟨x3p, x3l⟩, ⟨x30, x31, x32, x33, x34, x35, x36, x37, x38, x39⟩, x3z⟩ := HS3.out.facts; obtain ⟨⟨x3a, x3b, x3c, x3d⟩, x3e, x3f, x3g, x3h⟩ := HS3.out.rw.cells; (try dsimp only at x3a x3b x3c x3d)))
 have HSa := Lib.hid (HS3.out.node (i := 6) (u := E (p3 : Nat)) (m := ⟨5, z4, (p2 : Nat), (p3 : Nat), 0, 0, 0⟩) rfl)
 clear x3p x3l x30 x31 x32 x33 x34 x35 x36 x37 x38 x39 x3z x3a x3b x3c x3d x3e x3f x3g x3h
 refine at_world (p := fun W => ST w0 b w _ lf ⟨5, z4, (p2 : Nat), (p3 : Nat), 0, 0, 0⟩ _ _ W) HSa.out (fun W hW => ?_)
 have HSD := Lib.hid (hW.below (Below.refl _ _).drew)
 clear hW
 refine wp_region_noPanic ?_
 refine wp_region_held_drew (S := fun w' => SQ w b ⟨5, z4, (p2 : Nat), (p3 : Nat), 0, 0, 0⟩ w') (by kernel_rfl) ?_ (fun hHeld => ?_)
 · (try dsimp only); exact sq_of HSD.out
 revert HSD hHeld
 generalize World.drew _ = W8
 intro HSD hHeld
 refine Tk.fk (fun _ h => (sq_cells h)) 0 (h := ?_)
 refine Tk.fk (fun _ h => (sq_cells h)) 1 (h := ?_)
 refine Tk.fk (fun _ h => (sq_cells h)) 2 (h := ?_)
 refine Tk.fk (fun _ h => (sq_cells h)) 3 (h := ?_)
 refine Tk.fk (fun _ h => (sq_cells h)) 5 (h := ?_)
 refine wpAnyH_ready (rs := [4, 6]) (by kernel_rfl) (by simp) ?_
 refine AllReadyH.cons (o := ?o4t7) ?hi4t7 (fun K hK => ?st4t7) (AllReadyH.cons (o := ?o6t7) ?hi6t7 (fun K hK => ?st6t7) AllReadyH.nil)
 case hi4t7 => simp only [List.getElem?_toArray, List.getElem?_cons_succ, List.getElem?_cons_zero]; rfl
 case hi6t7 => simp only [List.getElem?_toArray, List.getElem?_cons_succ, List.getElem?_cons_zero]; rfl
 case st4t7 =>
  have hPrev := hHeld
  have hcl := HSD.out.rw.cells.1.2.1
  (try dsimp only at hcl)
  go_simp
  refine hK.out _ _ ?_ (fun hHeld => Tk.wrk ?_)
  · (try dsimp only); exact hPrev
  clear hK K hcl
  refine Tk.one 6 (h := fun K hK => ?_)
  go_simp
  have HSA := Lib.hid (HSD.out.below ((Below.refl _ _).alloc (Nat.le_refl _) (.cells (NC ⟨5, z4, (p2 : Nat), (p3 : Nat), 0, 0, 0⟩) 55)))
  refine hK.out _ _ ?_ (fun hHeld => Tk.wrk ?_)
  · (try dsimp only); exact sq_of HSA.out
  clear hK K
  have HNW := Lib.hid (@news_row W8 ⟨5, z4, (p2 : Nat), (p3 : Nat), 0, 0, 0⟩)
  revert HSA hHeld HNW
  generalize World.alloc _ _ = W9
  intro HSA hHeld HNW
  refine Tk.one 7 (h := fun K hK => ?_)
  (refine step_append_lies _ rfl _ _ 22 rfl w0.heap.size 55 i0 _ 10 80 Tryz.underlying22 hi hz0 hz1 hz2 rfl (by decide) _ _ _ rfl HSA.out.rw.own ⟨_, 0, none⟩ 1 1 (NC ⟨5, z4, (p2 : Nat), (p3 : Nat), 0, 0, 0⟩).toList rfl rfl HNW.out (one_row _) (by decide) (by have := HLEN.out; (try dsimp only at this ⊢); unfold maxLen; omega) (by have := HLEN.out; (try dsimp only at this ⊢); omega) HSA.out.rw.bel.size _ rfl ?_; intro gg gcap w4 hown hgrow hat hlt4)
  have HP0 := rw_push HSA.out.rw hown hgrow hat
  have HP := Lib.hid HP0
  clear HP0
  have hq8 := sq_grown HSA.out hgrow
  refine hK.out _ _ ?_ (fun hHeld => Tk.wrk ?_)
  · (try dsimp only); exact hq8
  clear hK K hq8
  refine Tk.fk (fun _ h => (sq_cells h)) 8 (h := ?_)
  refine Tk.fk (fun _ h => (sq_cells h)) 9 (h := ?_)
  refine Tk.one 10 (h := fun K hK => ?_)
  have hf4 := fz_grown HSA.out hgrow 1
  have hc4 := cell_grown HSA.out hgrow
  go_simp
  have HZ := Lib.hid (HSA.out.step HP.out.1 HP.out.2)
  refine hK.out _ _ ?_ (fun hHeld => Tk.wrk ?_)
  · (try dsimp only); exact sq_of HZ.out
  clear hK K hf4 hc4
  refine wpAnyH_done (by kernel_rfl) ?_ _
  refine NoPanic.normal ?_
  clear hHeld hgrow hown hat hlt4 HP HSA HSD HNW
  revert HZ
  generalize World.setCell _ _ _ = W10
  intro HZ
  obtain ⟨⟨p0, p1⟩, _, _⟩ := HZ.out.facts
  obtain ⟨⟨y0, y1, y2, y3⟩, _, _, _, _⟩ := HZ.out.rw.cells
  (try dsimp only at y0 y1 y2 y3)
  have hw1 : IntKind.i64.wrap ((((r3.l).length + 1 : Nat) : Int) - 1) = (((r3.l).length : Nat) : Int) := by have := HLEN.out; rw [IntKind.wrap_i64]; omega
  have hlen9 := HLEN.out
  go_wp2
  go_ret
  refine ⟨_, ?_, ?_, HZ.out.kr⟩
  · rw [HO.out]; rfl
  · rw [HO.out]; exact HZ.out.rw
 case st6t7 =>
  go_simp
  have HSA := Lib.hid (HSD.out.below ((Below.refl _ _).alloc (Nat.le_refl _) (.cells (NC ⟨5, z4, (p2 : Nat), (p3 : Nat), 0, 0, 0⟩) 55)))
  refine hK.out _ _ ?_ (fun hHeld => Tk.wrk ?_)
  · (try dsimp only); exact sq_of HSA.out
  clear hK K
  have HNW := Lib.hid (@news_row W8 ⟨5, z4, (p2 : Nat), (p3 : Nat), 0, 0, 0⟩)
  revert HSA hHeld HNW
  generalize World.alloc _ _ = W9
  intro HSA hHeld HNW
  have hPrev := hHeld
  refine Tk.one 4 (h := fun K hK => ?_)
  have hcl := HSA.out.rw.cells.1.2.1
  (try dsimp only at hcl)
  go_simp
  refine hK.out _ _ ?_ (fun hHeld => Tk.wrk ?_)
  · (try dsimp only); exact hPrev
  clear hK K hcl
  refine Tk.one 7 (h := fun K hK => ?_)
  (refine step_append_lies _ rfl _ _ 22 rfl w0.heap.size 55 i0 _ 10 80 Tryz.underlying22 hi hz0 hz1 hz2 rfl (by decide) _ _ _ rfl HSA.out.rw.own ⟨_, 0, none⟩ 1 1 (NC ⟨5, z4, (p2 : Nat), (p3 : Nat), 0, 0, 0⟩).toList rfl rfl HNW.out (one_row _) (by decide) (by have := HLEN.out; (try dsimp only at this ⊢); unfold maxLen; omega) (by have := HLEN.out; (try dsimp only at this ⊢); omega) HSA.out.rw.bel.size _ rfl ?_; intro gg gcap w4 hown hgrow hat hlt4)
  have HP0 := rw_push HSA.out.rw hown hgrow hat
  have HP := Lib.hid HP0
  clear HP0
  have hq8 := sq_grown HSA.out hgrow
  refine hK.out _ _ ?_ (fun hHeld => Tk.wrk ?_)
  · (try dsimp only); exact hq8
  clear hK K hq8
  refine Tk.fk (fun _ h => (sq_cells h)) 8 (h := ?_)
  refine Tk.fk (fun _ h => (sq_cells h)) 9 (h := ?_)
  refine Tk.one 10 (h := fun K hK => ?_)
  have hf4 := fz_grown HSA.out hgrow 1
  have hc4 := cell_grown HSA.out hgrow
  go_simp
  have HZ := Lib.hid (HSA.out.step HP.out.1 HP.out.2)
  refine hK.out _ _ ?_ (fun hHeld => Tk.wrk ?_)
  · (try dsimp only); exact sq_of HZ.out
  clear hK K hf4 hc4
  refine wpAnyH_done (by kernel_rfl) ?_ _
  refine NoPanic.normal ?_
  clear hHeld hgrow hown hat hlt4 HP HSA HSD HNW
  revert HZ
  generalize World.setCell _ _ _ = W10
  intro HZ
  obtain ⟨⟨p0, p1⟩, _, _⟩ := HZ.out.facts
  obtain ⟨⟨y0, y1, y2, y3⟩, _, _, _, _⟩ := HZ.out.rw.cells
  (try dsimp only at y0 y1 y2 y3)
  have hw1 : IntKind.i64.wrap ((((r3.l).length + 1 : Nat) : Int) - 1) = (((r3.l).length : Nat) : Int) := by have := HLEN.out; rw [IntKind.wrap_i64]; omega
  have hlen9 := HLEN.out
  go_wp2
  go_ret
  refine ⟨_, ?_, ?_, HZ.out.kr⟩
  · rw [HO.out]; rfl
  · rw [HO.out]; exact HZ.out.rw
set_option maxRecDepth 100000 in
set_option maxHeartbeats 3200000 in
theorem node_m (w0 : World) (b left : Nat) (lf : Int) (c : UInt8) (t s : List UInt8) (l : List Nd) (g : Int) (v : Value) (w : World) (hs : s = c :: t) (h : RW w0 b ⟨s, l, g, false⟩ v w) (hL : Lay w0) (hlen : s.length + l.length ≤ 100000) (hl : l.length ≤ 120) (hg0 : 0 ≤ g) (hg1 : g + s.length ≤ 100000) (hlf : lf = ((left + 1 : Nat) : Int)) (hle : left ≤ 1000) (IH : Below1 w0 b left)
  (hc : c = 42) :
  Calls Tryz.prog 44 #[PT b, E lf] w (NodeAns w0 b (left + 1) ⟨s, l, g, false⟩ v w) := by
 obtain ⟨ao, cap, rfl⟩ : ∃ ao cap, v = .slice ao l.length cap := own_slice h.own
 obtain ⟨i0, hi, hz0, hz1, hz2⟩ := info_parts infoNd
 have HO := Lib.hid (show nodeP (left + 1) ⟨s, l, g, false⟩ = pushP (nodeP left (numP 59 (numP 44 ⟨t, l, g, false⟩).1).1).1 ⟨6, z4, (nodeP left (numP 59 (numP 44 ⟨t, l, g, false⟩).1).1).2, 0, (numP 44 ⟨t, l, g, false⟩).2, (numP 59 (numP 44 ⟨t, l, g, false⟩).1).2, 0⟩ from by
  rw [hs]; rw [node_step hl]; subst hc; rfl)
 have hne : (s == []) = false := by rw [hs]; rfl
 have hlt : 0 < s.length := by rw [hs]; simp
 have hx : ((ByteArray.mk s.toArray)[0]'hlt) = c := by subst hs; rfl
 have hsz : (ByteArray.mk s.toArray).size = s.length := by simp [ByteArray.size]
 have hlt' : (0 : Int) < ((s.length : Nat) : Int) := by omega
 have e2 := ex_drop (l := s) 1
 have hr : s.drop 1 = t := by rw [hs]; rfl
 have htl : t.length + 1 = s.length := by rw [hs]; rfl
 rw [hr] at e2
 have h1' : (1 : Int) ≤ ((s.length : Nat) : Int) := by omega
 have h0 : (lf == 0) = false := by rw [beq_eq_false_iff_ne]; omega
 have hgt : ¬ (120 : Int) < ((l.length : Nat) : Int) := by omega
 have HL := Lib.hid hL
 have HR0 := Lib.hid h
 have HS0 := Lib.hid (st_start HR0.out lf t ⟨6, z4, 0, 0, 0, 0, 0⟩)
 dsimp only at HS0
 obtain ⟨⟨c0, c1, c2, c3⟩, f0, f1, f2, f3⟩ := HR0.out.cells
 skip
 dsimp only at c0 c1 c2 c3
 have hlb := HR0.out.lt
 have HLF := Lib.hid hlf
 clear hs h hL hr hlf
 subst hc
 skip
 go_enter Tryz.func44, Tryz.ntmps44
 skip
 go_wp2
 go_region
 have hri : Rin ⟨t, l, g, false⟩ := ⟨by dsimp only; omega, hg0, by dsimp only; omega⟩
 have hle1 := le_num 44 ⟨t, l, g, false⟩
 obtain ⟨r1, na, hq⟩ : ∃ r1 na, numP 44 ⟨t, l, g, false⟩ = (r1, na) := ⟨_, _, rfl⟩
 rw [hq] at hle1 HO
 have HN1 := Lib.hid hq
 clear hq
 dsimp only at hle1 HO
 have hri1 := hle1.rin hri
 have hle2 := le_num 59 r1
 obtain ⟨r2, nb, hq⟩ : ∃ r2 nb, numP 59 r1 = (r2, nb) := ⟨_, _, rfl⟩
 rw [hq] at hle2 HO
 have HN2 := Lib.hid hq
 clear hq
 dsimp only at hle2 HO
 have hri2 := hle2.rin hri1
 have hle3 := le_node left r2
 obtain ⟨r3, p3, hq⟩ : ∃ r3 p3, nodeP left r2 = (r3, p3) := ⟨_, _, rfl⟩
 rw [hq] at hle3 HO
 have HN3 := Lib.hid hq
 clear hq
 dsimp only at hle3 HO
 have hri3 := hle3.rin hri2
 have HLEN := Lib.hid (show r3.l.length ≤ 200000 from by have := hri3.len; omega)
 clear hle1 hle2 hle3 hri3
 have HU1 := Lib.hid (number_any w0 b _ _ 44 _ HS0.out.rw HL.out (by have := hri.len; dsimp only at this ⊢; omega))
 go_wp2_with (first
  | (go_at_call 60; have hb0 := HU1.out; clear HU1; refine hb0.mono ?_; clear hb0; rintro e w1 ⟨he, hr, hk⟩; rw [HN1.out] at he hr; subst he; have HS1 := Lib.hid ((HS0.out).step hr hk); clear hr hk; obtain ⟨⟨x1p, x1l⟩, ⟨x10, x11, x12, x13, x14, x15, x16, x17, x18, x19⟩, x1z⟩ := HS1.out.facts; obtain ⟨⟨x1a, x1b, x1c, x1d⟩, x1e, x1f, x1g, x1h⟩ := HS1.out.rw.cells; (try dsimp only at x1a x1b x1c x1d))
  | (go_at_call 60; refine (number_any w0 b _ _ 59 _ (HS1.out.node (i := 7) (u := E na) (m := ⟨6, z4, 0, 0, na, 0, 0⟩) rfl).rw HL.out (by have := hri1.len; omega)).mono ?_; rintro e w2 ⟨he, hr, hk⟩; rw [HN2.out] at he hr; subst he; have HS2 := Lib.hid ((HS1.out.node (i := 7) (u := E na) (m := ⟨6, z4, 0, 0, na, 0, 0⟩) rfl).step hr hk); clear hr hk; obtain ⟨⟨x2p, x2l⟩, ⟨x20, x21, x22, x23, x24, x25, x26, x27, x28, x29⟩, x2z⟩ := HS2.out.facts; obtain ⟨⟨x2a, x2b, x2c, x2d⟩, x2e, x2f, x2g, x2h⟩ := HS2.out.rw.cells; (try dsimp only at x2a x2b x2c x2d))
  | (go_at_call 58; refine (below_any IH HLF.out hle (HS2.out.node (i := 8) (u := E nb) (m := ⟨6, z4, 0, 0, na, nb, 0⟩) rfl) hri2).mono ?_; rintro e w3 ⟨v3, he, hst⟩; rw [HN3.out] at he hst; subst he; have HS3 := Lib.hid hst; clear hst; obtain ⟨⟨x3p, x3l⟩, ⟨x30, x31, x32, x33, x34, x35, x36, x37, x38, x39⟩, x3z⟩ := HS3.out.facts; obtain ⟨⟨x3a, x3b, x3c, x3d⟩, x3e, x3f, x3g, x3h⟩ := HS3.out.rw.cells; (try dsimp only at x3a x3b x3c x3d)))
 have HSa := Lib.hid (HS3.out.node (i := 5) (u := E (p3 : Nat)) (m := ⟨6, z4, (p3 : Nat), 0, na, nb, 0⟩) rfl)
 clear x3p x3l x30 x31 x32 x33 x34 x35 x36 x37 x38 x39 x3z x3a x3b x3c x3d x3e x3f x3g x3h
 refine at_world (p := fun W => ST w0 b w _ lf ⟨6, z4, (p3 : Nat), 0, na, nb, 0⟩ _ _ W) HSa.out (fun W hW => ?_)
 have HSD := Lib.hid (hW.below (Below.refl _ _).drew)
 clear hW
 refine wp_region_noPanic ?_
 refine wp_region_held_drew (S := fun w' => SQ w b ⟨6, z4, (p3 : Nat), 0, na, nb, 0⟩ w') (by kernel_rfl) ?_ (fun hHeld => ?_)
 · (try dsimp only); exact sq_of HSD.out
 revert HSD hHeld
 generalize World.drew _ = W8
 intro HSD hHeld
 refine Tk.fk (fun _ h => (sq_cells h)) 0 (h := ?_)
 refine Tk.fk (fun _ h => (sq_cells h)) 1 (h := ?_)
 refine Tk.fk (fun _ h => (sq_cells h)) 2 (h := ?_)
 refine Tk.fk (fun _ h => (sq_cells h)) 3 (h := ?_)
 refine Tk.fk (fun _ h => (sq_cells h)) 5 (h := ?_)
 refine wpAnyH_ready (rs := [4, 6]) (by kernel_rfl) (by simp) ?_
 refine AllReadyH.cons (o := ?o4t8) ?hi4t8 (fun K hK => ?st4t8) (AllReadyH.cons (o := ?o6t8) ?hi6t8 (fun K hK => ?st6t8) AllReadyH.nil)
 case hi4t8 => simp only [List.getElem?_toArray, List.getElem?_cons_succ, List.getElem?_cons_zero]; rfl
 case hi6t8 => simp only [List.getElem?_toArray, List.getElem?_cons_succ, List.getElem?_cons_zero]; rfl
 case st4t8 =>
  have hPrev := hHeld
  have hcl := HSD.out.rw.cells.1.2.1
  (try dsimp only at hcl)
  go_simp
  refine hK.out _ _ ?_ (fun hHeld => Tk.wrk ?_)
  · (try dsimp only); exact hPrev
  clear hK K hcl
  refine Tk.one 6 (h := fun K hK => ?_)
  go_simp
  have HSA := Lib.hid (HSD.out.below ((Below.refl _ _).alloc (Nat.le_refl _) (.cells (NC ⟨6, z4, (p3 : Nat), 0, na, nb, 0⟩) 55)))
  refine hK.out _ _ ?_ (fun hHeld => Tk.wrk ?_)
  · (try dsimp only); exact sq_of HSA.out
  clear hK K
  have HNW := Lib.hid (@news_row W8 ⟨6, z4, (p3 : Nat), 0, na, nb, 0⟩)
  revert HSA hHeld HNW
  generalize World.alloc _ _ = W9
  intro HSA hHeld HNW
  refine Tk.one 7 (h := fun K hK => ?_)
  (refine step_append_lies _ rfl _ _ 22 rfl w0.heap.size 55 i0 _ 10 80 Tryz.underlying22 hi hz0 hz1 hz2 rfl (by decide) _ _ _ rfl HSA.out.rw.own ⟨_, 0, none⟩ 1 1 (NC ⟨6, z4, (p3 : Nat), 0, na, nb, 0⟩).toList rfl rfl HNW.out (one_row _) (by decide) (by have := HLEN.out; (try dsimp only at this ⊢); unfold maxLen; omega) (by have := HLEN.out; (try dsimp only at this ⊢); omega) HSA.out.rw.bel.size _ rfl ?_; intro gg gcap w4 hown hgrow hat hlt4)
  have HP0 := rw_push HSA.out.rw hown hgrow hat
  have HP := Lib.hid HP0
  clear HP0
  have hq8 := sq_grown HSA.out hgrow
  refine hK.out _ _ ?_ (fun hHeld => Tk.wrk ?_)
  · (try dsimp only); exact hq8
  clear hK K hq8
  refine Tk.fk (fun _ h => (sq_cells h)) 8 (h := ?_)
  refine Tk.fk (fun _ h => (sq_cells h)) 9 (h := ?_)
  refine Tk.one 10 (h := fun K hK => ?_)
  have hf4 := fz_grown HSA.out hgrow 1
  have hc4 := cell_grown HSA.out hgrow
  go_simp
  have HZ := Lib.hid (HSA.out.step HP.out.1 HP.out.2)
  refine hK.out _ _ ?_ (fun hHeld => Tk.wrk ?_)
  · (try dsimp only); exact sq_of HZ.out
  clear hK K hf4 hc4
  refine wpAnyH_done (by kernel_rfl) ?_ _
  refine NoPanic.normal ?_
  clear hHeld hgrow hown hat hlt4 HP HSA HSD HNW
  revert HZ
  generalize World.setCell _ _ _ = W10
  intro HZ
  obtain ⟨⟨p0, p1⟩, _, _⟩ := HZ.out.facts
  obtain ⟨⟨y0, y1, y2, y3⟩, _, _, _, _⟩ := HZ.out.rw.cells
  (try dsimp only at y0 y1 y2 y3)
  have hw1 : IntKind.i64.wrap ((((r3.l).length + 1 : Nat) : Int) - 1) = (((r3.l).length : Nat) : Int) := by have := HLEN.out; rw [IntKind.wrap_i64]; omega
  have hlen9 := HLEN.out
  go_wp2
  go_ret
  refine ⟨_, ?_, ?_, HZ.out.kr⟩
  · rw [HO.out]; rfl
  · rw [HO.out]; exact HZ.out.rw
 case st6t8 =>
  go_simp
  have HSA := Lib.hid (HSD.out.below ((Below.refl _ _).alloc (Nat.le_refl _) (.cells (NC ⟨6, z4, (p3 : Nat), 0, na, nb, 0⟩) 55)))
  refine hK.out _ _ ?_ (fun hHeld => Tk.wrk ?_)
  · (try dsimp only); exact sq_of HSA.out
  clear hK K
  have HNW := Lib.hid (@news_row W8 ⟨6, z4, (p3 : Nat), 0, na, nb, 0⟩)
  revert HSA hHeld HNW
  generalize World.alloc _ _ = W9
  intro HSA hHeld HNW
  have hPrev := hHeld
  refine Tk.one 4 (h := fun K hK => ?_)
  have hcl := HSA.out.rw.cells.1.2.1
  (try dsimp only at hcl)
  go_simp
  refine hK.out _ _ ?_ (fun hHeld => Tk.wrk ?_)
  · (try dsimp only); exact hPrev
  clear hK K hcl
  refine Tk.one 7 (h := fun K hK => ?_)
  (refine step_append_lies _ rfl _ _ 22 rfl w0.heap.size 55 i0 _ 10 80 Tryz.underlying22 hi hz0 hz1 hz2 rfl (by decide) _ _ _ rfl HSA.out.rw.own ⟨_, 0, none⟩ 1 1 (NC ⟨6, z4, (p3 : Nat), 0, na, nb, 0⟩).toList rfl rfl HNW.out (one_row _) (by decide) (by have := HLEN.out; (try dsimp only at this ⊢); unfold maxLen; omega) (by have := HLEN.out; (try dsimp only at this ⊢); omega) HSA.out.rw.bel.size _ rfl ?_; intro gg gcap w4 hown hgrow hat hlt4)
  have HP0 := rw_push HSA.out.rw hown hgrow hat
  have HP := Lib.hid HP0
  clear HP0
  have hq8 := sq_grown HSA.out hgrow
  refine hK.out _ _ ?_ (fun hHeld => Tk.wrk ?_)
  · (try dsimp only); exact hq8
  clear hK K hq8
  refine Tk.fk (fun _ h => (sq_cells h)) 8 (h := ?_)
  refine Tk.fk (fun _ h => (sq_cells h)) 9 (h := ?_)
  refine Tk.one 10 (h := fun K hK => ?_)
  have hf4 := fz_grown HSA.out hgrow 1
  have hc4 := cell_grown HSA.out hgrow
  go_simp
  have HZ := Lib.hid (HSA.out.step HP.out.1 HP.out.2)
  refine hK.out _ _ ?_ (fun hHeld => Tk.wrk ?_)
  · (try dsimp only); exact sq_of HZ.out
  clear hK K hf4 hc4
  refine wpAnyH_done (by kernel_rfl) ?_ _
  refine NoPanic.normal ?_
  clear hHeld hgrow hown hat hlt4 HP HSA HSD HNW
  revert HZ
  generalize World.setCell _ _ _ = W10
  intro HZ
  obtain ⟨⟨p0, p1⟩, _, _⟩ := HZ.out.facts
  obtain ⟨⟨y0, y1, y2, y3⟩, _, _, _, _⟩ := HZ.out.rw.cells
  (try dsimp only at y0 y1 y2 y3)
  have hw1 : IntKind.i64.wrap ((((r3.l).length + 1 : Nat) : Int) - 1) = (((r3.l).length : Nat) : Int) := by have := HLEN.out; rw [IntKind.wrap_i64]; omega
  have hlen9 := HLEN.out
  go_wp2
  go_ret
  refine ⟨_, ?_, ?_, HZ.out.kr⟩
  · rw [HO.out]; rfl
  · rw [HO.out]; exact HZ.out.rw
end Go.Proofs.YtlicoffnjphphaaGreatDoor.Rx
