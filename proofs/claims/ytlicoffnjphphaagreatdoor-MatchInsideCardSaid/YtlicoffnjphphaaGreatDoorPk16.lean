/- The texts RxNg. -/
import Derived.Test.YtlicoffnjphphaaGreatDoorPk06
import Derived.Test.YtlicoffnjphphaaGreatDoorPk13
set_option linter.unusedVariables false
set_option linter.unusedSimpArgs false
namespace Go.Proofs.YtlicoffnjphphaaGreatDoor.Rx
open Go.RowKit Go.Shelf
open Go.Proofs.YtlicoffnjphphaaGreatDoor.St (Wf word zeroW Tab SV SV_eq)
open Go.Proofs.YtlicoffnjphphaaGreatDoor.Ad (cutB atoiV)
set_option maxRecDepth 100000 in
set_option maxHeartbeats 3200000 in
theorem node_g (w0 : World) (b left : Nat) (lf : Int) (c : UInt8) (t s : List UInt8) (l : List Nd) (g : Int) (v : Value) (w : World) (hs : s = c :: t) (h : RW w0 b ⟨s, l, g, false⟩ v w) (hL : Lay w0) (hlen : s.length + l.length ≤ 100000) (hl : l.length ≤ 120) (hg0 : 0 ≤ g) (hg1 : g + s.length ≤ 100000) (hlf : lf = ((left + 1 : Nat) : Int)) (hle : left ≤ 1000) (IH : Below1 w0 b left)
  (hc : c = 40) :
  Calls Tryz.prog 44 #[PT b, E lf] w (NodeAns w0 b (left + 1) ⟨s, l, g, false⟩ v w) := by
 obtain ⟨ao, cap, rfl⟩ : ∃ ao cap, v = .slice ao l.length cap := own_slice h.own
 obtain ⟨i0, hi, hz0, hz1, hz2⟩ := info_parts infoNd
 have HO := Lib.hid (show nodeP (left + 1) ⟨s, l, g, false⟩ = pushP (closeP (nodeP left ⟨t, l, g + 1, false⟩).1) ⟨7, z4, (nodeP left ⟨t, l, g + 1, false⟩).2, 0, 0, 0, g + 1⟩ from by
  rw [hs]; rw [node_step hl]; subst hc; rfl)
 have hne : (s == []) = false := by rw [hs]; rfl
 have hlt : 0 < s.length := by rw [hs]; simp
 have hx : ((ByteArray.mk s.toArray)[0]'hlt) = c := by subst hs; rfl
 have hsz : (ByteArray.mk s.toArray).size = s.length := by simp [ByteArray.size]
 have hlt' : (0 : Int) < ((s.length : Nat) : Int) := by omega
 have e2 := ex_drop (l := s) 1
 have hr : s.drop 1 = t := by rw [hs]; rfl
 have htl : t.length + 1 = s.length := by rw [hs]; rfl
 rw [hr] at e2
 have h1' : (1 : Int) ≤ ((s.length : Nat) : Int) := by omega
 have h0 : (lf == 0) = false := by rw [beq_eq_false_iff_ne]; omega
 have hgt : ¬ (120 : Int) < ((l.length : Nat) : Int) := by omega
 have HL := Lib.hid hL
 have HR0 := Lib.hid h
 have HS0 := Lib.hid (st_start HR0.out lf t N0)
 dsimp only at HS0
 obtain ⟨⟨c0, c1, c2, c3⟩, f0, f1, f2, f3⟩ := HR0.out.cells
 skip
 dsimp only at c0 c1 c2 c3
 have hlb := HR0.out.lt
 have HLF := Lib.hid hlf
 clear hs h hL hr hlf
 subst hc
 skip
 go_enter Tryz.func44, Tryz.ntmps44
 rw [show Code.region 30 = Fz 30 from rfl]
 go_wp2
 go_region
 have hri : Rin ⟨t, l, g + 1, false⟩ := ⟨by dsimp only; omega, by dsimp only; omega, by dsimp only; omega⟩
 have hgw : IntKind.i64.wrap (g + 1) = g + 1 := by rw [IntKind.wrap_i64]; omega
 have hle2 := le_node left ⟨t, l, g + 1, false⟩
 obtain ⟨r2, p2, hq⟩ : ∃ r2 p2, nodeP left ⟨t, l, g + 1, false⟩ = (r2, p2) := ⟨_, _, rfl⟩
 rw [hq] at hle2 HO
 have HN2 := Lib.hid hq
 clear hq
 dsimp only at hle2 HO
 have hri2 := hle2.rin hri
 have HLE0 := hri2.len
 obtain ⟨x, l2, g2, bad⟩ := r2
 dsimp only at HLE0
 have HLEN := Lib.hid (show l2.length ≤ 200000 by omega)
 clear hle2 hri2 HLE0
 rw [close_prefix] at HO
 have HHP := Lib.hid (fun W => Tryz.strings_HasPrefix ⟨x.toArray⟩ ⟨#[41]⟩ W)
 have HTP := Lib.hid (fun W => Tryz.strings_TrimPrefix ⟨x.toArray⟩ ⟨#[41]⟩ W)
 dsimp only at HHP HTP
 generalize Lib.hasPrefix x [41] = hp at *
 generalize Lib.trimPrefix x [41] = y at *
 go_wp2
 refine at_world (p := fun W => ST w0 b w _ lf N0 _ _ W) HS0.out (fun W hW => ?_)
 have HS1 := Lib.hid hW
 clear hW HS0
 have HSg := Lib.hid (HS1.out.setG (g + 1))
 obtain ⟨⟨x1p, x1l⟩, ⟨x10, x11, x12, x13, x14, x15, x16, x17, x18, x19⟩, x1z⟩ := HS1.out.facts; obtain ⟨⟨x1a, x1b, x1c, x1d⟩, x1e, x1f, x1g, x1h⟩ := HS1.out.rw.cells; (try dsimp only at x1a x1b x1c x1d)
 obtain ⟨⟨xgp, xgl⟩, ⟨xg0, xg1, xg2, xg3, xg4, xg5, xg6, xg7, xg8, xg9⟩, xgz⟩ := HSg.out.facts; obtain ⟨⟨xga, xgb, xgc, xgd⟩, xge, xgf, xgg, xgh⟩ := HSg.out.rw.cells; (try dsimp only at xga xgb xgc xgd)
 rw [show Fz 30 = Code.region 30 from rfl]
 go_wp2_with (go_at_call 58; refine (below_any IH HLF.out hle ((((((((((HSg.out.node (i := 0) (u := E 7) (m := ⟨7, z4, 0, 0, 0, 0, 0⟩) rfl).node (i := 1) (u := .int .u64 0) (m := ⟨7, z4, 0, 0, 0, 0, 0⟩) rfl).node (i := 2) (u := .int .u64 0) (m := ⟨7, z4, 0, 0, 0, 0, 0⟩) rfl).node (i := 3) (u := .int .u64 0) (m := ⟨7, z4, 0, 0, 0, 0, 0⟩) rfl).node (i := 4) (u := .int .u64 0) (m := ⟨7, z4, 0, 0, 0, 0, 0⟩) rfl).node (i := 5) (u := E 0) (m := ⟨7, z4, 0, 0, 0, 0, 0⟩) rfl).node (i := 6) (u := E 0) (m := ⟨7, z4, 0, 0, 0, 0, 0⟩) rfl).node (i := 7) (u := E 0) (m := ⟨7, z4, 0, 0, 0, 0, 0⟩) rfl).node (i := 8) (u := E 0) (m := ⟨7, z4, 0, 0, 0, 0, 0⟩) rfl).node (i := 9) (u := E (g + 1)) (m := ⟨7, z4, 0, 0, 0, 0, g + 1⟩) rfl) hri).mono ?_; rintro e w2 ⟨v2, he, hst⟩; rw [HN2.out] at he hst; subst he; have HS2 := Lib.hid hst; clear hst; obtain ⟨⟨x2p, x2l⟩, ⟨x20, x21, x22, x23, x24, x25, x26, x27, x28, x29⟩, x2z⟩ := HS2.out.facts; obtain ⟨⟨x2a, x2b, x2c, x2d⟩, x2e, x2f, x2g, x2h⟩ := HS2.out.rw.cells; (try dsimp only at x2a x2b x2c x2d))
 have HSa := Lib.hid (HS2.out.node (i := 5) (u := E (p2 : Nat)) (m := ⟨7, z4, (p2 : Nat), 0, 0, 0, g + 1⟩) rfl)
 clear x2p x2l x20 x21 x22 x23 x24 x25 x26 x27 x28 x29 x2z x2a x2b x2c x2d x2e x2f x2g x2h
 clear x1p x1l x10 x11 x12 x13 x14 x15 x16 x17 x18 x19 x1z x1a x1b x1c x1d x1e x1f x1g x1h
 clear xgp xgl xg0 xg1 xg2 xg3 xg4 xg5 xg6 xg7 xg8 xg9 xgz xga xgb xgc xgd xge xgf xgg xgh
 cases bad <;> cases hp
 ·
  skip
  refine at_world (p := fun W => ST w0 b w _ lf ⟨7, z4, (p2 : Nat), 0, 0, 0, g + 1⟩ _ _ W) HSa.out (fun W hW => ?_)
  have HSD := Lib.hid (hW.below (Below.refl _ _).drew)
  clear hW
  refine wp_region_noPanic ?_
  refine wp_region_held_drew (S := fun w' => SR w b ⟨7, z4, (p2 : Nat), 0, 0, 0, g + 1⟩ x w') (by kernel_rfl) ?_ (fun hHeld => ?_)
  · (try dsimp only); exact sr_of HSD.out
  revert HSD hHeld
  generalize World.drew _ = W8
  intro HSD hHeld
  refine Tk.fk (fun _ h => And.intro h.2 ((sq_cells h.1))) 0 (h := ?_)
  refine Tk.fk (fun _ h => And.intro h.2 ((sq_cells h.1))) 1 (h := ?_)
  refine Tk.fk (fun _ h => And.intro h.2 ((sq_cells h.1))) 2 (h := ?_)
  refine Tk.fk (fun _ h => And.intro h.2 ((sq_cells h.1))) 3 (h := ?_)
  refine Tk.one 4 (h := fun K hK => ?_)
  have hPrev := hHeld
  have hcl := HSD.out.rw.cells.1
  (try dsimp only at hcl)
  obtain ⟨hcl0, hcl1, hcl2, hcl3⟩ := hcl
  go_simp
  refine hK.out _ _ ?_ (fun hHeld => Tk.wrk ?_)
  · (try dsimp only); exact hPrev
  clear hK K hcl0 hcl1 hcl2 hcl3 hPrev
  refine Tk.fk (fun _ h => And.intro h.2 ((sq_cells h.1))) 5 (h := ?_)
  refine Tk.fk (fun _ h => And.intro h.2 ((sq_cells h.1))) 6 (h := ?_)
  refine Tk.fk (fun _ h => And.intro h.2 ((sq_cells h.1))) 7 (h := ?_)
  refine Tk.fk (fun _ h => And.intro h.2 ((sq_cells h.1))) 8 (h := ?_)
  refine Tk.fk (fun _ h => And.intro h.2 ((sq_cells h.1))) 9 (h := ?_)
  refine Tk.one 10 (h := fun K hK => ?_)
  go_simp
  (go_at_call 61; refine (HHP.out _).mono ?_; rintro e w9 ⟨rfl, rfl⟩)
  refine hK.out _ _ ?_ (fun hHeld => Tk.wrk ?_)
  · (try dsimp only); (exact hHeld)
  clear hK K
  refine Tk.fk (fun _ h => And.intro h.2 ((sq_cells h.1))) 11 (h := ?_)
  refine Tk.fk (fun _ h => And.intro h.2 ((sq_cells h.1))) 12 (h := ?_)
  refine Tk.fk (fun _ h => And.intro h.2 ((sq_cells h.1))) 13 (h := ?_)
  refine Tk.fk (fun _ h => And.intro h.2 ((sq_cells h.1))) 14 (h := ?_)
  refine Tk.one 15 (h := fun K hK => ?_)
  have hcl := HSD.out.rw.cells
  (try dsimp only at hcl)
  obtain ⟨⟨hcl0, hcl1, hcl2, hcl3⟩, hfl0, hfl1, hfl2, hfl3⟩ := hcl
  go_simp
  have HSb := Lib.hid (HSD.out.setBad true)
  refine hK.out _ _ ?_ (fun hHeld => Tk.wrk ?_)
  · (try dsimp only); exact sr_of HSb.out
  clear hK K hcl0 hcl1 hcl2 hcl3 hfl0 hfl1 hfl2 hfl3
  refine wpAnyH_done (by kernel_rfl) ?_ _
  refine NoPanic.normal ?_
  clear hHeld HSD
  go_wp2
  refine at_world (p := fun W => ST w0 b w _ lf ⟨7, z4, (p2 : Nat), 0, 0, 0, g + 1⟩ _ _ W) HSb.out (fun W hW => ?_)
  have HSD := Lib.hid (hW.below (Below.refl _ _).drew)
  clear hW
  refine wp_region_noPanic ?_
  refine wp_region_held_drew (S := fun w' => SQ w b ⟨7, z4, (p2 : Nat), 0, 0, 0, g + 1⟩ w') (by kernel_rfl) ?_ (fun hHeld => ?_)
  · (try dsimp only); exact sq_of HSD.out
  revert HSD hHeld
  generalize World.drew _ = W8
  intro HSD hHeld
  refine Tk.fk (fun _ h => (sq_cells h)) 0 (h := ?_)
  refine Tk.fk (fun _ h => (sq_cells h)) 1 (h := ?_)
  refine Tk.fk (fun _ h => (sq_cells h)) 2 (h := ?_)
  refine Tk.fk (fun _ h => (sq_cells h)) 3 (h := ?_)
  refine Tk.one 4 (h := fun K hK => ?_)
  have hPrev := hHeld
  have hcl := HSD.out.rw.cells.1
  (try dsimp only at hcl)
  obtain ⟨hcl0, hcl1, hcl2, hcl3⟩ := hcl
  go_simp
  refine hK.out _ _ ?_ (fun hHeld => Tk.wrk ?_)
  · (try dsimp only); exact hPrev
  clear hK K hcl0 hcl1 hcl2 hcl3 hPrev
  refine Tk.one 5 (h := fun K hK => ?_)
  go_simp
  (go_at_call 62; refine (HTP.out _).mono ?_; rintro e w9 ⟨rfl, rfl⟩)
  refine hK.out _ _ ?_ (fun hHeld => Tk.wrk ?_)
  · (try dsimp only); (exact hHeld)
  clear hK K
  refine Tk.fk (fun _ h => (sq_cells h)) 6 (h := ?_)
  refine Tk.fk (fun _ h => (sq_cells h)) 7 (h := ?_)
  refine Tk.one 8 (h := fun K hK => ?_)
  have hcl := HSD.out.rw.cells
  (try dsimp only at hcl)
  obtain ⟨⟨hcl0, hcl1, hcl2, hcl3⟩, hfl0, hfl1, hfl2, hfl3⟩ := hcl
  go_simp
  have HSc := Lib.hid (HSD.out.setRest y)
  refine hK.out _ _ ?_ (fun hHeld => Tk.wrk ?_)
  · (try dsimp only); exact sq_of HSc.out
  clear hK K hcl0 hcl1 hcl2 hcl3 hfl0 hfl1 hfl2 hfl3
  refine wpAnyH_done (by kernel_rfl) ?_ _
  refine NoPanic.normal ?_
  clear hHeld HSD
  go_wp2
  refine at_world (p := fun W => ST w0 b w _ lf ⟨7, z4, (p2 : Nat), 0, 0, 0, g + 1⟩ _ _ W) HSc.out (fun W hW => ?_)
  have HSD := Lib.hid (hW.below (Below.refl _ _).drew)
  clear hW
  refine wp_region_noPanic ?_
  refine wp_region_held_drew (S := fun w' => SQ w b ⟨7, z4, (p2 : Nat), 0, 0, 0, g + 1⟩ w') (by kernel_rfl) ?_ (fun hHeld => ?_)
  · (try dsimp only); exact sq_of HSD.out
  revert HSD hHeld
  generalize World.drew _ = W8
  intro HSD hHeld
  refine Tk.fk (fun _ h => (sq_cells h)) 0 (h := ?_)
  refine Tk.fk (fun _ h => (sq_cells h)) 1 (h := ?_)
  refine Tk.fk (fun _ h => (sq_cells h)) 2 (h := ?_)
  refine Tk.fk (fun _ h => (sq_cells h)) 3 (h := ?_)
  refine Tk.fk (fun _ h => (sq_cells h)) 5 (h := ?_)
  refine wpAnyH_ready (rs := [4, 6]) (by kernel_rfl) (by simp) ?_
  refine AllReadyH.cons (o := ?o4t9) ?hi4t9 (fun K hK => ?st4t9) (AllReadyH.cons (o := ?o6t9) ?hi6t9 (fun K hK => ?st6t9) AllReadyH.nil)
  case hi4t9 => simp only [List.getElem?_toArray, List.getElem?_cons_succ, List.getElem?_cons_zero]; rfl
  case hi6t9 => simp only [List.getElem?_toArray, List.getElem?_cons_succ, List.getElem?_cons_zero]; rfl
  case st4t9 =>
   have hPrev := hHeld
   have hcl := HSD.out.rw.cells.1.2.1
   (try dsimp only at hcl)
   go_simp
   refine hK.out _ _ ?_ (fun hHeld => Tk.wrk ?_)
   · (try dsimp only); exact hPrev
   clear hK K hcl
   refine Tk.one 6 (h := fun K hK => ?_)
   go_simp
   have HSA := Lib.hid (HSD.out.below ((Below.refl _ _).alloc (Nat.le_refl _) (.cells (NC ⟨7, z4, (p2 : Nat), 0, 0, 0, g + 1⟩) 55)))
   refine hK.out _ _ ?_ (fun hHeld => Tk.wrk ?_)
   · (try dsimp only); exact sq_of HSA.out
   clear hK K
   have HNW := Lib.hid (@news_row W8 ⟨7, z4, (p2 : Nat), 0, 0, 0, g + 1⟩)
   revert HSA hHeld HNW
   generalize World.alloc _ _ = W9
   intro HSA hHeld HNW
   refine Tk.one 7 (h := fun K hK => ?_)
   (refine step_append_lies _ rfl _ _ 22 rfl w0.heap.size 55 i0 _ 10 80 Tryz.underlying22 hi hz0 hz1 hz2 rfl (by decide) _ _ _ rfl HSA.out.rw.own ⟨_, 0, none⟩ 1 1 (NC ⟨7, z4, (p2 : Nat), 0, 0, 0, g + 1⟩).toList rfl rfl HNW.out (one_row _) (by decide) (by have := HLEN.out; (try dsimp only at this ⊢); unfold maxLen; omega) (by have := HLEN.out; (try dsimp only at this ⊢); omega) HSA.out.rw.bel.size _ rfl ?_; intro gg gcap w4 hown hgrow hat hlt4)
   have HP0 := rw_push HSA.out.rw hown hgrow hat
   have HP := Lib.hid HP0
   clear HP0
   have hq8 := sq_grown HSA.out hgrow
   refine hK.out _ _ ?_ (fun hHeld => Tk.wrk ?_)
   · (try dsimp only); exact hq8
   clear hK K hq8
   refine Tk.fk (fun _ h => (sq_cells h)) 8 (h := ?_)
   refine Tk.fk (fun _ h => (sq_cells h)) 9 (h := ?_)
   refine Tk.one 10 (h := fun K hK => ?_)
   have hf4 := fz_grown HSA.out hgrow 1
   have hc4 := cell_grown HSA.out hgrow
   go_simp
   have HZ := Lib.hid (HSA.out.step HP.out.1 HP.out.2)
   refine hK.out _ _ ?_ (fun hHeld => Tk.wrk ?_)
   · (try dsimp only); exact sq_of HZ.out
   clear hK K hf4 hc4
   refine wpAnyH_done (by kernel_rfl) ?_ _
   refine NoPanic.normal ?_
   clear hHeld hgrow hown hat hlt4 HP HSA HSD HNW
   revert HZ
   generalize World.setCell _ _ _ = W10
   intro HZ
   obtain ⟨⟨p0, p1⟩, _, _⟩ := HZ.out.facts
   obtain ⟨⟨y0, y1, y2, y3⟩, _, _, _, _⟩ := HZ.out.rw.cells
   (try dsimp only at y0 y1 y2 y3)
   have hw1 : IntKind.i64.wrap ((((l2).length + 1 : Nat) : Int) - 1) = (((l2).length : Nat) : Int) := by have := HLEN.out; rw [IntKind.wrap_i64]; omega
   have hlen9 := HLEN.out
   go_wp2
   go_ret
   refine ⟨_, ?_, ?_, HZ.out.kr⟩
   · rw [HO.out]; rfl
   · rw [HO.out]; exact HZ.out.rw
  case st6t9 =>
   go_simp
   have HSA := Lib.hid (HSD.out.below ((Below.refl _ _).alloc (Nat.le_refl _) (.cells (NC ⟨7, z4, (p2 : Nat), 0, 0, 0, g + 1⟩) 55)))
   refine hK.out _ _ ?_ (fun hHeld => Tk.wrk ?_)
   · (try dsimp only); exact sq_of HSA.out
   clear hK K
   have HNW := Lib.hid (@news_row W8 ⟨7, z4, (p2 : Nat), 0, 0, 0, g + 1⟩)
   revert HSA hHeld HNW
   generalize World.alloc _ _ = W9
   intro HSA hHeld HNW
   have hPrev := hHeld
   refine Tk.one 4 (h := fun K hK => ?_)
   have hcl := HSA.out.rw.cells.1.2.1
   (try dsimp only at hcl)
   go_simp
   refine hK.out _ _ ?_ (fun hHeld => Tk.wrk ?_)
   · (try dsimp only); exact hPrev
   clear hK K hcl
   refine Tk.one 7 (h := fun K hK => ?_)
   (refine step_append_lies _ rfl _ _ 22 rfl w0.heap.size 55 i0 _ 10 80 Tryz.underlying22 hi hz0 hz1 hz2 rfl (by decide) _ _ _ rfl HSA.out.rw.own ⟨_, 0, none⟩ 1 1 (NC ⟨7, z4, (p2 : Nat), 0, 0, 0, g + 1⟩).toList rfl rfl HNW.out (one_row _) (by decide) (by have := HLEN.out; (try dsimp only at this ⊢); unfold maxLen; omega) (by have := HLEN.out; (try dsimp only at this ⊢); omega) HSA.out.rw.bel.size _ rfl ?_; intro gg gcap w4 hown hgrow hat hlt4)
   have HP0 := rw_push HSA.out.rw hown hgrow hat
   have HP := Lib.hid HP0
   clear HP0
   have hq8 := sq_grown HSA.out hgrow
   refine hK.out _ _ ?_ (fun hHeld => Tk.wrk ?_)
   · (try dsimp only); exact hq8
   clear hK K hq8
   refine Tk.fk (fun _ h => (sq_cells h)) 8 (h := ?_)
   refine Tk.fk (fun _ h => (sq_cells h)) 9 (h := ?_)
   refine Tk.one 10 (h := fun K hK => ?_)
   have hf4 := fz_grown HSA.out hgrow 1
   have hc4 := cell_grown HSA.out hgrow
   go_simp
   have HZ := Lib.hid (HSA.out.step HP.out.1 HP.out.2)
   refine hK.out _ _ ?_ (fun hHeld => Tk.wrk ?_)
   · (try dsimp only); exact sq_of HZ.out
   clear hK K hf4 hc4
   refine wpAnyH_done (by kernel_rfl) ?_ _
   refine NoPanic.normal ?_
   clear hHeld hgrow hown hat hlt4 HP HSA HSD HNW
   revert HZ
   generalize World.setCell _ _ _ = W10
   intro HZ
   obtain ⟨⟨p0, p1⟩, _, _⟩ := HZ.out.facts
   obtain ⟨⟨y0, y1, y2, y3⟩, _, _, _, _⟩ := HZ.out.rw.cells
   (try dsimp only at y0 y1 y2 y3)
   have hw1 : IntKind.i64.wrap ((((l2).length + 1 : Nat) : Int) - 1) = (((l2).length : Nat) : Int) := by have := HLEN.out; rw [IntKind.wrap_i64]; omega
   have hlen9 := HLEN.out
   go_wp2
   go_ret
   refine ⟨_, ?_, ?_, HZ.out.kr⟩
   · rw [HO.out]; rfl
   · rw [HO.out]; exact HZ.out.rw
 ·
  skip
  refine at_world (p := fun W => ST w0 b w _ lf ⟨7, z4, (p2 : Nat), 0, 0, 0, g + 1⟩ _ _ W) HSa.out (fun W hW => ?_)
  have HSD := Lib.hid (hW.below (Below.refl _ _).drew)
  clear hW
  refine wp_region_noPanic ?_
  refine wp_region_held_drew (S := fun w' => SR w b ⟨7, z4, (p2 : Nat), 0, 0, 0, g + 1⟩ x w') (by kernel_rfl) ?_ (fun hHeld => ?_)
  · (try dsimp only); exact sr_of HSD.out
  revert HSD hHeld
  generalize World.drew _ = W8
  intro HSD hHeld
  refine Tk.fk (fun _ h => And.intro h.2 ((sq_cells h.1))) 0 (h := ?_)
  refine Tk.fk (fun _ h => And.intro h.2 ((sq_cells h.1))) 1 (h := ?_)
  refine Tk.fk (fun _ h => And.intro h.2 ((sq_cells h.1))) 2 (h := ?_)
  refine Tk.fk (fun _ h => And.intro h.2 ((sq_cells h.1))) 3 (h := ?_)
  refine Tk.one 4 (h := fun K hK => ?_)
  have hPrev := hHeld
  have hcl := HSD.out.rw.cells.1
  (try dsimp only at hcl)
  obtain ⟨hcl0, hcl1, hcl2, hcl3⟩ := hcl
  go_simp
  refine hK.out _ _ ?_ (fun hHeld => Tk.wrk ?_)
  · (try dsimp only); exact hPrev
  clear hK K hcl0 hcl1 hcl2 hcl3 hPrev
  refine Tk.fk (fun _ h => And.intro h.2 ((sq_cells h.1))) 5 (h := ?_)
  refine Tk.fk (fun _ h => And.intro h.2 ((sq_cells h.1))) 6 (h := ?_)
  refine Tk.fk (fun _ h => And.intro h.2 ((sq_cells h.1))) 7 (h := ?_)
  refine Tk.fk (fun _ h => And.intro h.2 ((sq_cells h.1))) 8 (h := ?_)
  refine Tk.fk (fun _ h => And.intro h.2 ((sq_cells h.1))) 9 (h := ?_)
  refine Tk.one 10 (h := fun K hK => ?_)
  go_simp
  (go_at_call 61; refine (HHP.out _).mono ?_; rintro e w9 ⟨rfl, rfl⟩)
  refine hK.out _ _ ?_ (fun hHeld => Tk.wrk ?_)
  · (try dsimp only); (exact hHeld)
  clear hK K
  refine Tk.fk (fun _ h => And.intro h.2 ((sq_cells h.1))) 11 (h := ?_)
  refine Tk.fk (fun _ h => And.intro h.2 ((sq_cells h.1))) 12 (h := ?_)
  refine Tk.fk (fun _ h => And.intro h.2 ((sq_cells h.1))) 13 (h := ?_)
  refine Tk.fk (fun _ h => And.intro h.2 ((sq_cells h.1))) 14 (h := ?_)
  refine Tk.one 15 (h := fun K hK => ?_)
  have hcl := HSD.out.rw.cells
  (try dsimp only at hcl)
  obtain ⟨⟨hcl0, hcl1, hcl2, hcl3⟩, hfl0, hfl1, hfl2, hfl3⟩ := hcl
  go_simp
  have HSb := Lib.hid (HSD.out.setBad false)
  refine hK.out _ _ ?_ (fun hHeld => Tk.wrk ?_)
  · (try dsimp only); exact sr_of HSb.out
  clear hK K hcl0 hcl1 hcl2 hcl3 hfl0 hfl1 hfl2 hfl3
  refine wpAnyH_done (by kernel_rfl) ?_ _
  refine NoPanic.normal ?_
  clear hHeld HSD
  go_wp2
  refine at_world (p := fun W => ST w0 b w _ lf ⟨7, z4, (p2 : Nat), 0, 0, 0, g + 1⟩ _ _ W) HSb.out (fun W hW => ?_)
  have HSD := Lib.hid (hW.below (Below.refl _ _).drew)
  clear hW
  refine wp_region_noPanic ?_
  refine wp_region_held_drew (S := fun w' => SQ w b ⟨7, z4, (p2 : Nat), 0, 0, 0, g + 1⟩ w') (by kernel_rfl) ?_ (fun hHeld => ?_)
  · (try dsimp only); exact sq_of HSD.out
  revert HSD hHeld
  generalize World.drew _ = W8
  intro HSD hHeld
  refine Tk.fk (fun _ h => (sq_cells h)) 0 (h := ?_)
  refine Tk.fk (fun _ h => (sq_cells h)) 1 (h := ?_)
  refine Tk.fk (fun _ h => (sq_cells h)) 2 (h := ?_)
  refine Tk.fk (fun _ h => (sq_cells h)) 3 (h := ?_)
  refine Tk.one 4 (h := fun K hK => ?_)
  have hPrev := hHeld
  have hcl := HSD.out.rw.cells.1
  (try dsimp only at hcl)
  obtain ⟨hcl0, hcl1, hcl2, hcl3⟩ := hcl
  go_simp
  refine hK.out _ _ ?_ (fun hHeld => Tk.wrk ?_)
  · (try dsimp only); exact hPrev
  clear hK K hcl0 hcl1 hcl2 hcl3 hPrev
  refine Tk.one 5 (h := fun K hK => ?_)
  go_simp
  (go_at_call 62; refine (HTP.out _).mono ?_; rintro e w9 ⟨rfl, rfl⟩)
  refine hK.out _ _ ?_ (fun hHeld => Tk.wrk ?_)
  · (try dsimp only); (exact hHeld)
  clear hK K
  refine Tk.fk (fun _ h => (sq_cells h)) 6 (h := ?_)
  refine Tk.fk (fun _ h => (sq_cells h)) 7 (h := ?_)
  refine Tk.one 8 (h := fun K hK => ?_)
  have hcl := HSD.out.rw.cells
  (try dsimp only at hcl)
  obtain ⟨⟨hcl0, hcl1, hcl2, hcl3⟩, hfl0, hfl1, hfl2, hfl3⟩ := hcl
  go_simp
  have HSc := Lib.hid (HSD.out.setRest y)
  refine hK.out _ _ ?_ (fun hHeld => Tk.wrk ?_)
  · (try dsimp only); exact sq_of HSc.out
  clear hK K hcl0 hcl1 hcl2 hcl3 hfl0 hfl1 hfl2 hfl3
  refine wpAnyH_done (by kernel_rfl) ?_ _
  refine NoPanic.normal ?_
  clear hHeld HSD
  go_wp2
  refine at_world (p := fun W => ST w0 b w _ lf ⟨7, z4, (p2 : Nat), 0, 0, 0, g + 1⟩ _ _ W) HSc.out (fun W hW => ?_)
  have HSD := Lib.hid (hW.below (Below.refl _ _).drew)
  clear hW
  refine wp_region_noPanic ?_
  refine wp_region_held_drew (S := fun w' => SQ w b ⟨7, z4, (p2 : Nat), 0, 0, 0, g + 1⟩ w') (by kernel_rfl) ?_ (fun hHeld => ?_)
  · (try dsimp only); exact sq_of HSD.out
  revert HSD hHeld
  generalize World.drew _ = W8
  intro HSD hHeld
  refine Tk.fk (fun _ h => (sq_cells h)) 0 (h := ?_)
  refine Tk.fk (fun _ h => (sq_cells h)) 1 (h := ?_)
  refine Tk.fk (fun _ h => (sq_cells h)) 2 (h := ?_)
  refine Tk.fk (fun _ h => (sq_cells h)) 3 (h := ?_)
  refine Tk.fk (fun _ h => (sq_cells h)) 5 (h := ?_)
  refine wpAnyH_ready (rs := [4, 6]) (by kernel_rfl) (by simp) ?_
  refine AllReadyH.cons (o := ?o4t10) ?hi4t10 (fun K hK => ?st4t10) (AllReadyH.cons (o := ?o6t10) ?hi6t10 (fun K hK => ?st6t10) AllReadyH.nil)
  case hi4t10 => simp only [List.getElem?_toArray, List.getElem?_cons_succ, List.getElem?_cons_zero]; rfl
  case hi6t10 => simp only [List.getElem?_toArray, List.getElem?_cons_succ, List.getElem?_cons_zero]; rfl
  case st4t10 =>
   have hPrev := hHeld
   have hcl := HSD.out.rw.cells.1.2.1
   (try dsimp only at hcl)
   go_simp
   refine hK.out _ _ ?_ (fun hHeld => Tk.wrk ?_)
   · (try dsimp only); exact hPrev
   clear hK K hcl
   refine Tk.one 6 (h := fun K hK => ?_)
   go_simp
   have HSA := Lib.hid (HSD.out.below ((Below.refl _ _).alloc (Nat.le_refl _) (.cells (NC ⟨7, z4, (p2 : Nat), 0, 0, 0, g + 1⟩) 55)))
   refine hK.out _ _ ?_ (fun hHeld => Tk.wrk ?_)
   · (try dsimp only); exact sq_of HSA.out
   clear hK K
   have HNW := Lib.hid (@news_row W8 ⟨7, z4, (p2 : Nat), 0, 0, 0, g + 1⟩)
   revert HSA hHeld HNW
   generalize World.alloc _ _ = W9
   intro HSA hHeld HNW
   refine Tk.one 7 (h := fun K hK => ?_)
   (refine step_append_lies _ rfl _ _ 22 rfl w0.heap.size 55 i0 _ 10 80 Tryz.underlying22 hi hz0 hz1 hz2 rfl (by decide) _ _ _ rfl HSA.out.rw.own ⟨_, 0, none⟩ 1 1 (NC ⟨7, z4, (p2 : Nat), 0, 0, 0, g + 1⟩).toList rfl rfl HNW.out (one_row _) (by decide) (by have := HLEN.out; (try dsimp only at this ⊢); unfold maxLen; omega) (by have := HLEN.out; (try dsimp only at this ⊢); omega) HSA.out.rw.bel.size _ rfl ?_; intro gg gcap w4 hown hgrow hat hlt4)
   have HP0 := rw_push HSA.out.rw hown hgrow hat
   have HP := Lib.hid HP0
   clear HP0
   have hq8 := sq_grown HSA.out hgrow
   refine hK.out _ _ ?_ (fun hHeld => Tk.wrk ?_)
   · (try dsimp only); exact hq8
   clear hK K hq8
   refine Tk.fk (fun _ h => (sq_cells h)) 8 (h := ?_)
   refine Tk.fk (fun _ h => (sq_cells h)) 9 (h := ?_)
   refine Tk.one 10 (h := fun K hK => ?_)
   have hf4 := fz_grown HSA.out hgrow 1
   have hc4 := cell_grown HSA.out hgrow
   go_simp
   have HZ := Lib.hid (HSA.out.step HP.out.1 HP.out.2)
   refine hK.out _ _ ?_ (fun hHeld => Tk.wrk ?_)
   · (try dsimp only); exact sq_of HZ.out
   clear hK K hf4 hc4
   refine wpAnyH_done (by kernel_rfl) ?_ _
   refine NoPanic.normal ?_
   clear hHeld hgrow hown hat hlt4 HP HSA HSD HNW
   revert HZ
   generalize World.setCell _ _ _ = W10
   intro HZ
   obtain ⟨⟨p0, p1⟩, _, _⟩ := HZ.out.facts
   obtain ⟨⟨y0, y1, y2, y3⟩, _, _, _, _⟩ := HZ.out.rw.cells
   (try dsimp only at y0 y1 y2 y3)
   have hw1 : IntKind.i64.wrap ((((l2).length + 1 : Nat) : Int) - 1) = (((l2).length : Nat) : Int) := by have := HLEN.out; rw [IntKind.wrap_i64]; omega
   have hlen9 := HLEN.out
   go_wp2
   go_ret
   refine ⟨_, ?_, ?_, HZ.out.kr⟩
   · rw [HO.out]; rfl
   · rw [HO.out]; exact HZ.out.rw
  case st6t10 =>
   go_simp
   have HSA := Lib.hid (HSD.out.below ((Below.refl _ _).alloc (Nat.le_refl _) (.cells (NC ⟨7, z4, (p2 : Nat), 0, 0, 0, g + 1⟩) 55)))
   refine hK.out _ _ ?_ (fun hHeld => Tk.wrk ?_)
   · (try dsimp only); exact sq_of HSA.out
   clear hK K
   have HNW := Lib.hid (@news_row W8 ⟨7, z4, (p2 : Nat), 0, 0, 0, g + 1⟩)
   revert HSA hHeld HNW
   generalize World.alloc _ _ = W9
   intro HSA hHeld HNW
   have hPrev := hHeld
   refine Tk.one 4 (h := fun K hK => ?_)
   have hcl := HSA.out.rw.cells.1.2.1
   (try dsimp only at hcl)
   go_simp
   refine hK.out _ _ ?_ (fun hHeld => Tk.wrk ?_)
   · (try dsimp only); exact hPrev
   clear hK K hcl
   refine Tk.one 7 (h := fun K hK => ?_)
   (refine step_append_lies _ rfl _ _ 22 rfl w0.heap.size 55 i0 _ 10 80 Tryz.underlying22 hi hz0 hz1 hz2 rfl (by decide) _ _ _ rfl HSA.out.rw.own ⟨_, 0, none⟩ 1 1 (NC ⟨7, z4, (p2 : Nat), 0, 0, 0, g + 1⟩).toList rfl rfl HNW.out (one_row _) (by decide) (by have := HLEN.out; (try dsimp only at this ⊢); unfold maxLen; omega) (by have := HLEN.out; (try dsimp only at this ⊢); omega) HSA.out.rw.bel.size _ rfl ?_; intro gg gcap w4 hown hgrow hat hlt4)
   have HP0 := rw_push HSA.out.rw hown hgrow hat
   have HP := Lib.hid HP0
   clear HP0
   have hq8 := sq_grown HSA.out hgrow
   refine hK.out _ _ ?_ (fun hHeld => Tk.wrk ?_)
   · (try dsimp only); exact hq8
   clear hK K hq8
   refine Tk.fk (fun _ h => (sq_cells h)) 8 (h := ?_)
   refine Tk.fk (fun _ h => (sq_cells h)) 9 (h := ?_)
   refine Tk.one 10 (h := fun K hK => ?_)
   have hf4 := fz_grown HSA.out hgrow 1
   have hc4 := cell_grown HSA.out hgrow
   go_simp
   have HZ := Lib.hid (HSA.out.step HP.out.1 HP.out.2)
   refine hK.out _ _ ?_ (fun hHeld => Tk.wrk ?_)
   · (try dsimp only); exact sq_of HZ.out
   clear hK K hf4 hc4
   refine wpAnyH_done (by kernel_rfl) ?_ _
   refine NoPanic.normal ?_
   clear hHeld hgrow hown hat hlt4 HP HSA HSD HNW
   revert HZ
   generalize World.setCell _ _ _ = W10
   intro HZ
   obtain ⟨⟨p0, p1⟩, _, _⟩ := HZ.out.facts
   obtain ⟨⟨y0, y1, y2, y3⟩, _, _, _, _⟩ := HZ.out.rw.cells
   (try dsimp only at y0 y1 y2 y3)
   have hw1 : IntKind.i64.wrap ((((l2).length + 1 : Nat) : Int) - 1) = (((l2).length : Nat) : Int) := by have := HLEN.out; rw [IntKind.wrap_i64]; omega
   have hlen9 := HLEN.out
   go_wp2
   go_ret
   refine ⟨_, ?_, ?_, HZ.out.kr⟩
   · rw [HO.out]; rfl
   · rw [HO.out]; exact HZ.out.rw
 ·
  skip
  refine at_world (p := fun W => ST w0 b w _ lf ⟨7, z4, (p2 : Nat), 0, 0, 0, g + 1⟩ _ _ W) HSa.out (fun W hW => ?_)
  have HSD := Lib.hid (hW.below (Below.refl _ _).drew)
  clear hW
  refine wp_region_noPanic ?_
  refine wp_region_held_drew (S := fun w' => SR w b ⟨7, z4, (p2 : Nat), 0, 0, 0, g + 1⟩ x w') (by kernel_rfl) ?_ (fun hHeld => ?_)
  · (try dsimp only); exact sr_of HSD.out
  revert HSD hHeld
  generalize World.drew _ = W8
  intro HSD hHeld
  refine Tk.fk (fun _ h => And.intro h.2 ((sq_cells h.1))) 0 (h := ?_)
  refine Tk.fk (fun _ h => And.intro h.2 ((sq_cells h.1))) 1 (h := ?_)
  refine Tk.fk (fun _ h => And.intro h.2 ((sq_cells h.1))) 2 (h := ?_)
  refine Tk.fk (fun _ h => And.intro h.2 ((sq_cells h.1))) 3 (h := ?_)
  refine Tk.one 4 (h := fun K hK => ?_)
  have hPrev := hHeld
  have hcl := HSD.out.rw.cells.1
  (try dsimp only at hcl)
  obtain ⟨hcl0, hcl1, hcl2, hcl3⟩ := hcl
  go_simp
  refine hK.out _ _ ?_ (fun hHeld => Tk.wrk ?_)
  · (try dsimp only); exact hPrev
  clear hK K hcl0 hcl1 hcl2 hcl3 hPrev
  refine Tk.fk (fun _ h => And.intro h.2 ((sq_cells h.1))) 5 (h := ?_)
  refine Tk.pass 6 (h := ?_)
  refine Tk.pass 7 (h := ?_)
  refine Tk.pass 8 (h := ?_)
  refine Tk.pass 9 (h := ?_)
  refine Tk.pass 10 (h := ?_)
  refine Tk.pass 11 (h := ?_)
  refine Tk.fk (fun _ h => And.intro h.2 ((sq_cells h.1))) 12 (h := ?_)
  refine Tk.fk (fun _ h => And.intro h.2 ((sq_cells h.1))) 13 (h := ?_)
  refine Tk.fk (fun _ h => And.intro h.2 ((sq_cells h.1))) 14 (h := ?_)
  refine Tk.one 15 (h := fun K hK => ?_)
  have hcl := HSD.out.rw.cells
  (try dsimp only at hcl)
  obtain ⟨⟨hcl0, hcl1, hcl2, hcl3⟩, hfl0, hfl1, hfl2, hfl3⟩ := hcl
  go_simp
  have HSb := Lib.hid (HSD.out.setBad true)
  refine hK.out _ _ ?_ (fun hHeld => Tk.wrk ?_)
  · (try dsimp only); exact sr_of HSb.out
  clear hK K hcl0 hcl1 hcl2 hcl3 hfl0 hfl1 hfl2 hfl3
  refine wpAnyH_done (by kernel_rfl) ?_ _
  refine NoPanic.normal ?_
  clear hHeld HSD
  go_wp2
  refine at_world (p := fun W => ST w0 b w _ lf ⟨7, z4, (p2 : Nat), 0, 0, 0, g + 1⟩ _ _ W) HSb.out (fun W hW => ?_)
  have HSD := Lib.hid (hW.below (Below.refl _ _).drew)
  clear hW
  refine wp_region_noPanic ?_
  refine wp_region_held_drew (S := fun w' => SQ w b ⟨7, z4, (p2 : Nat), 0, 0, 0, g + 1⟩ w') (by kernel_rfl) ?_ (fun hHeld => ?_)
  · (try dsimp only); exact sq_of HSD.out
  revert HSD hHeld
  generalize World.drew _ = W8
  intro HSD hHeld
  refine Tk.fk (fun _ h => (sq_cells h)) 0 (h := ?_)
  refine Tk.fk (fun _ h => (sq_cells h)) 1 (h := ?_)
  refine Tk.fk (fun _ h => (sq_cells h)) 2 (h := ?_)
  refine Tk.fk (fun _ h => (sq_cells h)) 3 (h := ?_)
  refine Tk.one 4 (h := fun K hK => ?_)
  have hPrev := hHeld
  have hcl := HSD.out.rw.cells.1
  (try dsimp only at hcl)
  obtain ⟨hcl0, hcl1, hcl2, hcl3⟩ := hcl
  go_simp
  refine hK.out _ _ ?_ (fun hHeld => Tk.wrk ?_)
  · (try dsimp only); exact hPrev
  clear hK K hcl0 hcl1 hcl2 hcl3 hPrev
  refine Tk.one 5 (h := fun K hK => ?_)
  go_simp
  (go_at_call 62; refine (HTP.out _).mono ?_; rintro e w9 ⟨rfl, rfl⟩)
  refine hK.out _ _ ?_ (fun hHeld => Tk.wrk ?_)
  · (try dsimp only); (exact hHeld)
  clear hK K
  refine Tk.fk (fun _ h => (sq_cells h)) 6 (h := ?_)
  refine Tk.fk (fun _ h => (sq_cells h)) 7 (h := ?_)
  refine Tk.one 8 (h := fun K hK => ?_)
  have hcl := HSD.out.rw.cells
  (try dsimp only at hcl)
  obtain ⟨⟨hcl0, hcl1, hcl2, hcl3⟩, hfl0, hfl1, hfl2, hfl3⟩ := hcl
  go_simp
  have HSc := Lib.hid (HSD.out.setRest y)
  refine hK.out _ _ ?_ (fun hHeld => Tk.wrk ?_)
  · (try dsimp only); exact sq_of HSc.out
  clear hK K hcl0 hcl1 hcl2 hcl3 hfl0 hfl1 hfl2 hfl3
  refine wpAnyH_done (by kernel_rfl) ?_ _
  refine NoPanic.normal ?_
  clear hHeld HSD
  go_wp2
  refine at_world (p := fun W => ST w0 b w _ lf ⟨7, z4, (p2 : Nat), 0, 0, 0, g + 1⟩ _ _ W) HSc.out (fun W hW => ?_)
  have HSD := Lib.hid (hW.below (Below.refl _ _).drew)
  clear hW
  refine wp_region_noPanic ?_
  refine wp_region_held_drew (S := fun w' => SQ w b ⟨7, z4, (p2 : Nat), 0, 0, 0, g + 1⟩ w') (by kernel_rfl) ?_ (fun hHeld => ?_)
  · (try dsimp only); exact sq_of HSD.out
  revert HSD hHeld
  generalize World.drew _ = W8
  intro HSD hHeld
  refine Tk.fk (fun _ h => (sq_cells h)) 0 (h := ?_)
  refine Tk.fk (fun _ h => (sq_cells h)) 1 (h := ?_)
  refine Tk.fk (fun _ h => (sq_cells h)) 2 (h := ?_)
  refine Tk.fk (fun _ h => (sq_cells h)) 3 (h := ?_)
  refine Tk.fk (fun _ h => (sq_cells h)) 5 (h := ?_)
  refine wpAnyH_ready (rs := [4, 6]) (by kernel_rfl) (by simp) ?_
  refine AllReadyH.cons (o := ?o4t11) ?hi4t11 (fun K hK => ?st4t11) (AllReadyH.cons (o := ?o6t11) ?hi6t11 (fun K hK => ?st6t11) AllReadyH.nil)
  case hi4t11 => simp only [List.getElem?_toArray, List.getElem?_cons_succ, List.getElem?_cons_zero]; rfl
  case hi6t11 => simp only [List.getElem?_toArray, List.getElem?_cons_succ, List.getElem?_cons_zero]; rfl
  case st4t11 =>
   have hPrev := hHeld
   have hcl := HSD.out.rw.cells.1.2.1
   (try dsimp only at hcl)
   go_simp
   refine hK.out _ _ ?_ (fun hHeld => Tk.wrk ?_)
   · (try dsimp only); exact hPrev
   clear hK K hcl
   refine Tk.one 6 (h := fun K hK => ?_)
   go_simp
   have HSA := Lib.hid (HSD.out.below ((Below.refl _ _).alloc (Nat.le_refl _) (.cells (NC ⟨7, z4, (p2 : Nat), 0, 0, 0, g + 1⟩) 55)))
   refine hK.out _ _ ?_ (fun hHeld => Tk.wrk ?_)
   · (try dsimp only); exact sq_of HSA.out
   clear hK K
   have HNW := Lib.hid (@news_row W8 ⟨7, z4, (p2 : Nat), 0, 0, 0, g + 1⟩)
   revert HSA hHeld HNW
   generalize World.alloc _ _ = W9
   intro HSA hHeld HNW
   refine Tk.one 7 (h := fun K hK => ?_)
   (refine step_append_lies _ rfl _ _ 22 rfl w0.heap.size 55 i0 _ 10 80 Tryz.underlying22 hi hz0 hz1 hz2 rfl (by decide) _ _ _ rfl HSA.out.rw.own ⟨_, 0, none⟩ 1 1 (NC ⟨7, z4, (p2 : Nat), 0, 0, 0, g + 1⟩).toList rfl rfl HNW.out (one_row _) (by decide) (by have := HLEN.out; (try dsimp only at this ⊢); unfold maxLen; omega) (by have := HLEN.out; (try dsimp only at this ⊢); omega) HSA.out.rw.bel.size _ rfl ?_; intro gg gcap w4 hown hgrow hat hlt4)
   have HP0 := rw_push HSA.out.rw hown hgrow hat
   have HP := Lib.hid HP0
   clear HP0
   have hq8 := sq_grown HSA.out hgrow
   refine hK.out _ _ ?_ (fun hHeld => Tk.wrk ?_)
   · (try dsimp only); exact hq8
   clear hK K hq8
   refine Tk.fk (fun _ h => (sq_cells h)) 8 (h := ?_)
   refine Tk.fk (fun _ h => (sq_cells h)) 9 (h := ?_)
   refine Tk.one 10 (h := fun K hK => ?_)
   have hf4 := fz_grown HSA.out hgrow 1
   have hc4 := cell_grown HSA.out hgrow
   go_simp
   have HZ := Lib.hid (HSA.out.step HP.out.1 HP.out.2)
   refine hK.out _ _ ?_ (fun hHeld => Tk.wrk ?_)
   · (try dsimp only); exact sq_of HZ.out
   clear hK K hf4 hc4
   refine wpAnyH_done (by kernel_rfl) ?_ _
   refine NoPanic.normal ?_
   clear hHeld hgrow hown hat hlt4 HP HSA HSD HNW
   revert HZ
   generalize World.setCell _ _ _ = W10
   intro HZ
   obtain ⟨⟨p0, p1⟩, _, _⟩ := HZ.out.facts
   obtain ⟨⟨y0, y1, y2, y3⟩, _, _, _, _⟩ := HZ.out.rw.cells
   (try dsimp only at y0 y1 y2 y3)
   have hw1 : IntKind.i64.wrap ((((l2).length + 1 : Nat) : Int) - 1) = (((l2).length : Nat) : Int) := by have := HLEN.out; rw [IntKind.wrap_i64]; omega
   have hlen9 := HLEN.out
   go_wp2
   go_ret
   refine ⟨_, ?_, ?_, HZ.out.kr⟩
   · rw [HO.out]; rfl
   · rw [HO.out]; exact HZ.out.rw
  case st6t11 =>
   go_simp
   have HSA := Lib.hid (HSD.out.below ((Below.refl _ _).alloc (Nat.le_refl _) (.cells (NC ⟨7, z4, (p2 : Nat), 0, 0, 0, g + 1⟩) 55)))
   refine hK.out _ _ ?_ (fun hHeld => Tk.wrk ?_)
   · (try dsimp only); exact sq_of HSA.out
   clear hK K
   have HNW := Lib.hid (@news_row W8 ⟨7, z4, (p2 : Nat), 0, 0, 0, g + 1⟩)
   revert HSA hHeld HNW
   generalize World.alloc _ _ = W9
   intro HSA hHeld HNW
   have hPrev := hHeld
   refine Tk.one 4 (h := fun K hK => ?_)
   have hcl := HSA.out.rw.cells.1.2.1
   (try dsimp only at hcl)
   go_simp
   refine hK.out _ _ ?_ (fun hHeld => Tk.wrk ?_)
   · (try dsimp only); exact hPrev
   clear hK K hcl
   refine Tk.one 7 (h := fun K hK => ?_)
   (refine step_append_lies _ rfl _ _ 22 rfl w0.heap.size 55 i0 _ 10 80 Tryz.underlying22 hi hz0 hz1 hz2 rfl (by decide) _ _ _ rfl HSA.out.rw.own ⟨_, 0, none⟩ 1 1 (NC ⟨7, z4, (p2 : Nat), 0, 0, 0, g + 1⟩).toList rfl rfl HNW.out (one_row _) (by decide) (by have := HLEN.out; (try dsimp only at this ⊢); unfold maxLen; omega) (by have := HLEN.out; (try dsimp only at this ⊢); omega) HSA.out.rw.bel.size _ rfl ?_; intro gg gcap w4 hown hgrow hat hlt4)
   have HP0 := rw_push HSA.out.rw hown hgrow hat
   have HP := Lib.hid HP0
   clear HP0
   have hq8 := sq_grown HSA.out hgrow
   refine hK.out _ _ ?_ (fun hHeld => Tk.wrk ?_)
   · (try dsimp only); exact hq8
   clear hK K hq8
   refine Tk.fk (fun _ h => (sq_cells h)) 8 (h := ?_)
   refine Tk.fk (fun _ h => (sq_cells h)) 9 (h := ?_)
   refine Tk.one 10 (h := fun K hK => ?_)
   have hf4 := fz_grown HSA.out hgrow 1
   have hc4 := cell_grown HSA.out hgrow
   go_simp
   have HZ := Lib.hid (HSA.out.step HP.out.1 HP.out.2)
   refine hK.out _ _ ?_ (fun hHeld => Tk.wrk ?_)
   · (try dsimp only); exact sq_of HZ.out
   clear hK K hf4 hc4
   refine wpAnyH_done (by kernel_rfl) ?_ _
   refine NoPanic.normal ?_
   clear hHeld hgrow hown hat hlt4 HP HSA HSD HNW
   revert HZ
   generalize World.setCell _ _ _ = W10
   intro HZ
   obtain ⟨⟨p0, p1⟩, _, _⟩ := HZ.out.facts
   obtain ⟨⟨y0, y1, y2, y3⟩, _, _, _, _⟩ := HZ.out.rw.cells
   (try dsimp only at y0 y1 y2 y3)
   have hw1 : IntKind.i64.wrap ((((l2).length + 1 : Nat) : Int) - 1) = (((l2).length : Nat) : Int) := by have := HLEN.out; rw [IntKind.wrap_i64]; omega
   have hlen9 := HLEN.out
   go_wp2
   go_ret
   refine ⟨_, ?_, ?_, HZ.out.kr⟩
   · rw [HO.out]; rfl
   · rw [HO.out]; exact HZ.out.rw
 ·
  skip
  refine at_world (p := fun W => ST w0 b w _ lf ⟨7, z4, (p2 : Nat), 0, 0, 0, g + 1⟩ _ _ W) HSa.out (fun W hW => ?_)
  have HSD := Lib.hid (hW.below (Below.refl _ _).drew)
  clear hW
  refine wp_region_noPanic ?_
  refine wp_region_held_drew (S := fun w' => SR w b ⟨7, z4, (p2 : Nat), 0, 0, 0, g + 1⟩ x w') (by kernel_rfl) ?_ (fun hHeld => ?_)
  · (try dsimp only); exact sr_of HSD.out
  revert HSD hHeld
  generalize World.drew _ = W8
  intro HSD hHeld
  refine Tk.fk (fun _ h => And.intro h.2 ((sq_cells h.1))) 0 (h := ?_)
  refine Tk.fk (fun _ h => And.intro h.2 ((sq_cells h.1))) 1 (h := ?_)
  refine Tk.fk (fun _ h => And.intro h.2 ((sq_cells h.1))) 2 (h := ?_)
  refine Tk.fk (fun _ h => And.intro h.2 ((sq_cells h.1))) 3 (h := ?_)
  refine Tk.one 4 (h := fun K hK => ?_)
  have hPrev := hHeld
  have hcl := HSD.out.rw.cells.1
  (try dsimp only at hcl)
  obtain ⟨hcl0, hcl1, hcl2, hcl3⟩ := hcl
  go_simp
  refine hK.out _ _ ?_ (fun hHeld => Tk.wrk ?_)
  · (try dsimp only); exact hPrev
  clear hK K hcl0 hcl1 hcl2 hcl3 hPrev
  refine Tk.fk (fun _ h => And.intro h.2 ((sq_cells h.1))) 5 (h := ?_)
  refine Tk.pass 6 (h := ?_)
  refine Tk.pass 7 (h := ?_)
  refine Tk.pass 8 (h := ?_)
  refine Tk.pass 9 (h := ?_)
  refine Tk.pass 10 (h := ?_)
  refine Tk.pass 11 (h := ?_)
  refine Tk.fk (fun _ h => And.intro h.2 ((sq_cells h.1))) 12 (h := ?_)
  refine Tk.fk (fun _ h => And.intro h.2 ((sq_cells h.1))) 13 (h := ?_)
  refine Tk.fk (fun _ h => And.intro h.2 ((sq_cells h.1))) 14 (h := ?_)
  refine Tk.one 15 (h := fun K hK => ?_)
  have hcl := HSD.out.rw.cells
  (try dsimp only at hcl)
  obtain ⟨⟨hcl0, hcl1, hcl2, hcl3⟩, hfl0, hfl1, hfl2, hfl3⟩ := hcl
  go_simp
  have HSb := Lib.hid (HSD.out.setBad true)
  refine hK.out _ _ ?_ (fun hHeld => Tk.wrk ?_)
  · (try dsimp only); exact sr_of HSb.out
  clear hK K hcl0 hcl1 hcl2 hcl3 hfl0 hfl1 hfl2 hfl3
  refine wpAnyH_done (by kernel_rfl) ?_ _
  refine NoPanic.normal ?_
  clear hHeld HSD
  go_wp2
  refine at_world (p := fun W => ST w0 b w _ lf ⟨7, z4, (p2 : Nat), 0, 0, 0, g + 1⟩ _ _ W) HSb.out (fun W hW => ?_)
  have HSD := Lib.hid (hW.below (Below.refl _ _).drew)
  clear hW
  refine wp_region_noPanic ?_
  refine wp_region_held_drew (S := fun w' => SQ w b ⟨7, z4, (p2 : Nat), 0, 0, 0, g + 1⟩ w') (by kernel_rfl) ?_ (fun hHeld => ?_)
  · (try dsimp only); exact sq_of HSD.out
  revert HSD hHeld
  generalize World.drew _ = W8
  intro HSD hHeld
  refine Tk.fk (fun _ h => (sq_cells h)) 0 (h := ?_)
  refine Tk.fk (fun _ h => (sq_cells h)) 1 (h := ?_)
  refine Tk.fk (fun _ h => (sq_cells h)) 2 (h := ?_)
  refine Tk.fk (fun _ h => (sq_cells h)) 3 (h := ?_)
  refine Tk.one 4 (h := fun K hK => ?_)
  have hPrev := hHeld
  have hcl := HSD.out.rw.cells.1
  (try dsimp only at hcl)
  obtain ⟨hcl0, hcl1, hcl2, hcl3⟩ := hcl
  go_simp
  refine hK.out _ _ ?_ (fun hHeld => Tk.wrk ?_)
  · (try dsimp only); exact hPrev
  clear hK K hcl0 hcl1 hcl2 hcl3 hPrev
  refine Tk.one 5 (h := fun K hK => ?_)
  go_simp
  (go_at_call 62; refine (HTP.out _).mono ?_; rintro e w9 ⟨rfl, rfl⟩)
  refine hK.out _ _ ?_ (fun hHeld => Tk.wrk ?_)
  · (try dsimp only); (exact hHeld)
  clear hK K
  refine Tk.fk (fun _ h => (sq_cells h)) 6 (h := ?_)
  refine Tk.fk (fun _ h => (sq_cells h)) 7 (h := ?_)
  refine Tk.one 8 (h := fun K hK => ?_)
  have hcl := HSD.out.rw.cells
  (try dsimp only at hcl)
  obtain ⟨⟨hcl0, hcl1, hcl2, hcl3⟩, hfl0, hfl1, hfl2, hfl3⟩ := hcl
  go_simp
  have HSc := Lib.hid (HSD.out.setRest y)
  refine hK.out _ _ ?_ (fun hHeld => Tk.wrk ?_)
  · (try dsimp only); exact sq_of HSc.out
  clear hK K hcl0 hcl1 hcl2 hcl3 hfl0 hfl1 hfl2 hfl3
  refine wpAnyH_done (by kernel_rfl) ?_ _
  refine NoPanic.normal ?_
  clear hHeld HSD
  go_wp2
  refine at_world (p := fun W => ST w0 b w _ lf ⟨7, z4, (p2 : Nat), 0, 0, 0, g + 1⟩ _ _ W) HSc.out (fun W hW => ?_)
  have HSD := Lib.hid (hW.below (Below.refl _ _).drew)
  clear hW
  refine wp_region_noPanic ?_
  refine wp_region_held_drew (S := fun w' => SQ w b ⟨7, z4, (p2 : Nat), 0, 0, 0, g + 1⟩ w') (by kernel_rfl) ?_ (fun hHeld => ?_)
  · (try dsimp only); exact sq_of HSD.out
  revert HSD hHeld
  generalize World.drew _ = W8
  intro HSD hHeld
  refine Tk.fk (fun _ h => (sq_cells h)) 0 (h := ?_)
  refine Tk.fk (fun _ h => (sq_cells h)) 1 (h := ?_)
  refine Tk.fk (fun _ h => (sq_cells h)) 2 (h := ?_)
  refine Tk.fk (fun _ h => (sq_cells h)) 3 (h := ?_)
  refine Tk.fk (fun _ h => (sq_cells h)) 5 (h := ?_)
  refine wpAnyH_ready (rs := [4, 6]) (by kernel_rfl) (by simp) ?_
  refine AllReadyH.cons (o := ?o4t12) ?hi4t12 (fun K hK => ?st4t12) (AllReadyH.cons (o := ?o6t12) ?hi6t12 (fun K hK => ?st6t12) AllReadyH.nil)
  case hi4t12 => simp only [List.getElem?_toArray, List.getElem?_cons_succ, List.getElem?_cons_zero]; rfl
  case hi6t12 => simp only [List.getElem?_toArray, List.getElem?_cons_succ, List.getElem?_cons_zero]; rfl
  case st4t12 =>
   have hPrev := hHeld
   have hcl := HSD.out.rw.cells.1.2.1
   (try dsimp only at hcl)
   go_simp
   refine hK.out _ _ ?_ (fun hHeld => Tk.wrk ?_)
   · (try dsimp only); exact hPrev
   clear hK K hcl
   refine Tk.one 6 (h := fun K hK => ?_)
   go_simp
   have HSA := Lib.hid (HSD.out.below ((Below.refl _ _).alloc (Nat.le_refl _) (.cells (NC ⟨7, z4, (p2 : Nat), 0, 0, 0, g + 1⟩) 55)))
   refine hK.out _ _ ?_ (fun hHeld => Tk.wrk ?_)
   · (try dsimp only); exact sq_of HSA.out
   clear hK K
   have HNW := Lib.hid (@news_row W8 ⟨7, z4, (p2 : Nat), 0, 0, 0, g + 1⟩)
   revert HSA hHeld HNW
   generalize World.alloc _ _ = W9
   intro HSA hHeld HNW
   refine Tk.one 7 (h := fun K hK => ?_)
   (refine step_append_lies _ rfl _ _ 22 rfl w0.heap.size 55 i0 _ 10 80 Tryz.underlying22 hi hz0 hz1 hz2 rfl (by decide) _ _ _ rfl HSA.out.rw.own ⟨_, 0, none⟩ 1 1 (NC ⟨7, z4, (p2 : Nat), 0, 0, 0, g + 1⟩).toList rfl rfl HNW.out (one_row _) (by decide) (by have := HLEN.out; (try dsimp only at this ⊢); unfold maxLen; omega) (by have := HLEN.out; (try dsimp only at this ⊢); omega) HSA.out.rw.bel.size _ rfl ?_; intro gg gcap w4 hown hgrow hat hlt4)
   have HP0 := rw_push HSA.out.rw hown hgrow hat
   have HP := Lib.hid HP0
   clear HP0
   have hq8 := sq_grown HSA.out hgrow
   refine hK.out _ _ ?_ (fun hHeld => Tk.wrk ?_)
   · (try dsimp only); exact hq8
   clear hK K hq8
   refine Tk.fk (fun _ h => (sq_cells h)) 8 (h := ?_)
   refine Tk.fk (fun _ h => (sq_cells h)) 9 (h := ?_)
   refine Tk.one 10 (h := fun K hK => ?_)
   have hf4 := fz_grown HSA.out hgrow 1
   have hc4 := cell_grown HSA.out hgrow
   go_simp
   have HZ := Lib.hid (HSA.out.step HP.out.1 HP.out.2)
   refine hK.out _ _ ?_ (fun hHeld => Tk.wrk ?_)
   · (try dsimp only); exact sq_of HZ.out
   clear hK K hf4 hc4
   refine wpAnyH_done (by kernel_rfl) ?_ _
   refine NoPanic.normal ?_
   clear hHeld hgrow hown hat hlt4 HP HSA HSD HNW
   revert HZ
   generalize World.setCell _ _ _ = W10
   intro HZ
   obtain ⟨⟨p0, p1⟩, _, _⟩ := HZ.out.facts
   obtain ⟨⟨y0, y1, y2, y3⟩, _, _, _, _⟩ := HZ.out.rw.cells
   (try dsimp only at y0 y1 y2 y3)
   have hw1 : IntKind.i64.wrap ((((l2).length + 1 : Nat) : Int) - 1) = (((l2).length : Nat) : Int) := by have := HLEN.out; rw [IntKind.wrap_i64]; omega
   have hlen9 := HLEN.out
   go_wp2
   go_ret
   refine ⟨_, ?_, ?_, HZ.out.kr⟩
   · rw [HO.out]; rfl
   · rw [HO.out]; exact HZ.out.rw
  case st6t12 =>
   go_simp
   have HSA := Lib.hid (HSD.out.below ((Below.refl _ _).alloc (Nat.le_refl _) (.cells (NC ⟨7, z4, (p2 : Nat), 0, 0, 0, g + 1⟩) 55)))
   refine hK.out _ _ ?_ (fun hHeld => Tk.wrk ?_)
   · (try dsimp only); exact sq_of HSA.out
   clear hK K
   have HNW := Lib.hid (@news_row W8 ⟨7, z4, (p2 : Nat), 0, 0, 0, g + 1⟩)
   revert HSA hHeld HNW
   generalize World.alloc _ _ = W9
   intro HSA hHeld HNW
   have hPrev := hHeld
   refine Tk.one 4 (h := fun K hK => ?_)
   have hcl := HSA.out.rw.cells.1.2.1
   (try dsimp only at hcl)
   go_simp
   refine hK.out _ _ ?_ (fun hHeld => Tk.wrk ?_)
   · (try dsimp only); exact hPrev
   clear hK K hcl
   refine Tk.one 7 (h := fun K hK => ?_)
   (refine step_append_lies _ rfl _ _ 22 rfl w0.heap.size 55 i0 _ 10 80 Tryz.underlying22 hi hz0 hz1 hz2 rfl (by decide) _ _ _ rfl HSA.out.rw.own ⟨_, 0, none⟩ 1 1 (NC ⟨7, z4, (p2 : Nat), 0, 0, 0, g + 1⟩).toList rfl rfl HNW.out (one_row _) (by decide) (by have := HLEN.out; (try dsimp only at this ⊢); unfold maxLen; omega) (by have := HLEN.out; (try dsimp only at this ⊢); omega) HSA.out.rw.bel.size _ rfl ?_; intro gg gcap w4 hown hgrow hat hlt4)
   have HP0 := rw_push HSA.out.rw hown hgrow hat
   have HP := Lib.hid HP0
   clear HP0
   have hq8 := sq_grown HSA.out hgrow
   refine hK.out _ _ ?_ (fun hHeld => Tk.wrk ?_)
   · (try dsimp only); exact hq8
   clear hK K hq8
   refine Tk.fk (fun _ h => (sq_cells h)) 8 (h := ?_)
   refine Tk.fk (fun _ h => (sq_cells h)) 9 (h := ?_)
   refine Tk.one 10 (h := fun K hK => ?_)
   have hf4 := fz_grown HSA.out hgrow 1
   have hc4 := cell_grown HSA.out hgrow
   go_simp
   have HZ := Lib.hid (HSA.out.step HP.out.1 HP.out.2)
   refine hK.out _ _ ?_ (fun hHeld => Tk.wrk ?_)
   · (try dsimp only); exact sq_of HZ.out
   clear hK K hf4 hc4
   refine wpAnyH_done (by kernel_rfl) ?_ _
   refine NoPanic.normal ?_
   clear hHeld hgrow hown hat hlt4 HP HSA HSD HNW
   revert HZ
   generalize World.setCell _ _ _ = W10
   intro HZ
   obtain ⟨⟨p0, p1⟩, _, _⟩ := HZ.out.facts
   obtain ⟨⟨y0, y1, y2, y3⟩, _, _, _, _⟩ := HZ.out.rw.cells
   (try dsimp only at y0 y1 y2 y3)
   have hw1 : IntKind.i64.wrap ((((l2).length + 1 : Nat) : Int) - 1) = (((l2).length : Nat) : Int) := by have := HLEN.out; rw [IntKind.wrap_i64]; omega
   have hlen9 := HLEN.out
   go_wp2
   go_ret
   refine ⟨_, ?_, ?_, HZ.out.kr⟩
   · rw [HO.out]; rfl
   · rw [HO.out]; exact HZ.out.rw
end Go.Proofs.YtlicoffnjphphaaGreatDoor.Rx
