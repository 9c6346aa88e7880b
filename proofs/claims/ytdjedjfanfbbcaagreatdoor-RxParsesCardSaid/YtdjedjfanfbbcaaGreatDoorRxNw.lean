/- Patterns: the reader of one node: the walk of one byte. Patterns: the reader of one node: the walk of one byte. -/
import Derived.Test.YtdjedjfanfbbcaaGreatDoorTk
import Derived.Test.YtdjedjfanfbbcaaGreatDoorRxR3
namespace Go.Proofs.YtdjedjfanfbbcaaGreatDoor.Rx
open Go.RowKit Go.Shelf
open Go.Proofs.YtdjedjfanfbbcaaGreatDoor.St (Wf word zeroW Tab SV SV_eq)
open Go.Proofs.YtdjedjfanfbbcaaGreatDoor.Ad (cutB atoiV)
set_option linter.unusedVariables false
set_option linter.unusedSimpArgs false
set_option maxRecDepth 100000 in
set_option maxHeartbeats 3200000 in
theorem node_r (w0 : World) (b left : Nat) (lf : Int) (c : UInt8) (t s : List UInt8) (l : List Nd) (g : Int) (v : Value) (w : World) (hs : s = c :: t) (h : RW w0 b ⟨s, l, g, false⟩ v w) (hL : Lay w0) (hlen : s.length + l.length ≤ 100000) (hl : l.length ≤ 120) (hg0 : 0 ≤ g) (hg1 : g + s.length ≤ 100000) (hlf : lf = ((left + 1 : Nat) : Int)) (hle : left ≤ 1000) (IH : Below1 w0 b left)
    (hc : c = 92) (ht : t = []) :
    Calls Tryz.prog 21 #[PT b, E lf] w (NodeAns w0 b (left + 1) ⟨s, l, g, false⟩ v w) := by
  obtain ⟨ao, cap, rfl⟩ : ∃ ao cap, v = .slice ao l.length cap := own_slice h.own
  obtain ⟨i0, hi, hz0, hz1, hz2⟩ := info_parts infoNd
  have HO := Lib.hid (show nodeP (left + 1) ⟨s, l, g, false⟩ = (⟨⟨t, l ++ [⟨8, z4, 0, 0, 0, 0, 0⟩], g, true⟩, l.length⟩ : Rd × Nat) from by
    rw [hs]; rw [node_step hl]; subst hc; subst ht; rfl)
  have hne : (s == []) = false := by rw [hs]; rfl
  have hlt : 0 < s.length := by rw [hs]; simp
  have hx : ((ByteArray.mk s.toArray)[0]'hlt) = c := by subst hs; rfl
  have hsz : (ByteArray.mk s.toArray).size = s.length := by simp [ByteArray.size]
  have hlt' : (0 : Int) < ((s.length : Nat) : Int) := by omega
  have e2 := ex_drop (l := s) 1
  have hr : s.drop 1 = t := by rw [hs]; rfl
  have htl : t.length + 1 = s.length := by rw [hs]; rfl
  rw [hr] at e2
  have h1' : (1 : Int) ≤ ((s.length : Nat) : Int) := by omega
  have h0 : (lf == 0) = false := by rw [beq_eq_false_iff_ne]; omega
  have hgt : ¬ (120 : Int) < ((l.length : Nat) : Int) := by omega
  have HL := Lib.hid hL
  have HR0 := Lib.hid h
  have HS0 := Lib.hid (st_start HR0.out lf t N0)
  dsimp only at HS0
  obtain ⟨⟨c0, c1, c2, c3⟩, f0, f1, f2, f3⟩ := HR0.out.cells
  skip
  dsimp only at c0 c1 c2 c3
  have hlb := HR0.out.lt
  have HLF := Lib.hid hlf
  clear hs h hL hr hlf
  subst hc
  have htn : (t == []) = true := by rw [ht]; rfl
  clear ht
  go_enter Tryz.func21, Tryz.ntmps21
  rw [show Code.region 36 = Fz 36 from rfl]
  go_wp2
  go_region
  go_wp2
  refine at_world (p := fun W => ST w0 b w _ lf N0 _ _ W) HS0.out (fun W hW => ?_)
  have HS1 := Lib.hid hW
  clear hW HS0
  obtain ⟨⟨x1p, x1l⟩, ⟨x10, x11, x12, x13, x14, x15, x16, x17, x18, x19⟩, x1z⟩ := HS1.out.facts; obtain ⟨⟨x1a, x1b, x1c, x1d⟩, x1e, x1f, x1g, x1h⟩ := HS1.out.rw.cells; (try dsimp only at x1a x1b x1c x1d)
  rw [show Fz 36 = Code.region 36 from rfl]
  go_wp2
  have HSa := Lib.hid (HS1.out.node (i := 0) (u := E 8) (m := ⟨8, z4, 0, 0, 0, 0, 0⟩) rfl)
  clear x1p x1l x10 x11 x12 x13 x14 x15 x16 x17 x18 x19 x1z x1a x1b x1c x1d x1e x1f x1g x1h
  refine at_world (p := fun W => ST w0 b w _ lf ⟨8, z4, 0, 0, 0, 0, 0⟩ _ _ W) HSa.out (fun W hW => ?_)
  have HSD := Lib.hid (hW.below (Below.refl _ _).drew)
  clear hW
  refine wp_region_noPanic ?_
  refine wp_region_held_drew (S := fun w' => SR w b ⟨8, z4, 0, 0, 0, 0, 0⟩ t w') (by kernel_rfl) ?_ (fun hHeld => ?_)
  · (try dsimp only); exact sr_of HSD.out
  revert HSD hHeld
  generalize World.drew _ = W8
  intro HSD hHeld
  refine Tk.take 0 (hy := by (intro w hSw; (try dsimp only at hSw); (have hq := sq_cells hSw.1; have qr := hSw.2; obtain ⟨⟨q0, q1, q2, q3, q4, q5, q6, q7, q8, q9⟩, qp⟩ := hq); go_simp) <;> with_reducible rfl) (h := ?_)
  refine Tk.take 1 (hy := by (intro w hSw; (try dsimp only at hSw); (have hq := sq_cells hSw.1; have qr := hSw.2; obtain ⟨⟨q0, q1, q2, q3, q4, q5, q6, q7, q8, q9⟩, qp⟩ := hq); go_simp) <;> with_reducible rfl) (h := ?_)
  refine Tk.take 2 (hy := by (intro w hSw; (try dsimp only at hSw); (have hq := sq_cells hSw.1; have qr := hSw.2; obtain ⟨⟨q0, q1, q2, q3, q4, q5, q6, q7, q8, q9⟩, qp⟩ := hq); go_simp) <;> with_reducible rfl) (h := ?_)
  refine Tk.take 3 (hy := by (intro w hSw; (try dsimp only at hSw); (have hq := sq_cells hSw.1; have qr := hSw.2; obtain ⟨⟨q0, q1, q2, q3, q4, q5, q6, q7, q8, q9⟩, qp⟩ := hq); go_simp) <;> with_reducible rfl) (h := ?_)
  refine Tk.take 4 (hy := by (intro w hSw; (try dsimp only at hSw); (have hq := sq_cells hSw.1; have qr := hSw.2; obtain ⟨⟨q0, q1, q2, q3, q4, q5, q6, q7, q8, q9⟩, qp⟩ := hq); go_simp) <;> with_reducible rfl) (h := ?_)
  refine Tk.take 5 (hy := by (intro w hSw; (try dsimp only at hSw); (have hq := sq_cells hSw.1; have qr := hSw.2; obtain ⟨⟨q0, q1, q2, q3, q4, q5, q6, q7, q8, q9⟩, qp⟩ := hq); go_simp) <;> with_reducible rfl) (h := ?_)
  refine Tk.take 6 (hy := by (intro w hSw; (try dsimp only at hSw); (have hq := sq_cells hSw.1; have qr := hSw.2; obtain ⟨⟨q0, q1, q2, q3, q4, q5, q6, q7, q8, q9⟩, qp⟩ := hq); go_simp) <;> with_reducible rfl) (h := ?_)
  refine Tk.take 7 (hy := by (intro w hSw; (try dsimp only at hSw); (have hq := sq_cells hSw.1; have qr := hSw.2; obtain ⟨⟨q0, q1, q2, q3, q4, q5, q6, q7, q8, q9⟩, qp⟩ := hq); go_simp) <;> with_reducible rfl) (h := ?_)
  refine wpAnyH_ready (rs := [8]) (by kernel_rfl) (by simp) ?_
  refine AllReadyH.cons (o := ?o8r9) ?hi8r9 (fun K hK => ?st8r9) AllReadyH.nil
  case hi8r9 => simp only [List.getElem?_toArray, List.getElem?_cons_succ, List.getElem?_cons_zero]; rfl
  have hcl := HSD.out.rw.cells
  (try dsimp only at hcl)
  obtain ⟨⟨hcl0, hcl1, hcl2, hcl3⟩, hfl0, hfl1, hfl2, hfl3⟩ := hcl
  go_simp
  have HSb := Lib.hid (HSD.out.setBad true)
  refine hK.out _ _ ?_ (fun hHeld => ?_)
  · (try dsimp only); exact sr_of HSb.out
  clear hK K hcl0 hcl1 hcl2 hcl3 hfl0 hfl1 hfl2 hfl3
  try simp only [Act.put, List.setIfInBounds_toArray, List.set_cons_zero, List.set_cons_succ]
  refine wpAnyH_done (by kernel_rfl) ?_ _
  refine NoPanic.normal ?_
  clear hHeld HSD
  revert HSb
  generalize World.setCell _ _ _ = W9
  intro HSb
  have HS2 := HSb
  clear HSb
  obtain ⟨⟨x2p, x2l⟩, ⟨x20, x21, x22, x23, x24, x25, x26, x27, x28, x29⟩, x2z⟩ := HS2.out.facts; obtain ⟨⟨x2a, x2b, x2c, x2d⟩, x2e, x2f, x2g, x2h⟩ := HS2.out.rw.cells; (try dsimp only at x2a x2b x2c x2d)
  go_wp2
  clear x2p x2l x20 x21 x22 x23 x24 x25 x26 x27 x28 x29 x2z x2a x2b x2c x2d x2e x2f x2g x2h
  have HLEN := Lib.hid (show l.length ≤ 200000 by omega)
  refine at_world (p := fun W => ST w0 b w _ lf ⟨8, z4, 0, 0, 0, 0, 0⟩ _ _ W) HS2.out (fun W hW => ?_)
  have HSD := Lib.hid (hW.below (Below.refl _ _).drew)
  clear hW
  refine wp_region_noPanic ?_
  refine wp_region_held_drew (S := fun w' => SQ w b ⟨8, z4, 0, 0, 0, 0, 0⟩ w') (by kernel_rfl) ?_ (fun hHeld => ?_)
  · (try dsimp only); exact sq_of HSD.out
  revert HSD hHeld
  generalize World.drew _ = W8
  intro HSD hHeld
  refine Tk.take 0 (hy := by (intro w hSw; (try dsimp only at hSw); (have hq := sq_cells hSw; obtain ⟨⟨q0, q1, q2, q3, q4, q5, q6, q7, q8, q9⟩, qp⟩ := hq); go_simp) <;> with_reducible rfl) (h := ?_)
  refine Tk.take 1 (hy := by (intro w hSw; (try dsimp only at hSw); (have hq := sq_cells hSw; obtain ⟨⟨q0, q1, q2, q3, q4, q5, q6, q7, q8, q9⟩, qp⟩ := hq); go_simp) <;> with_reducible rfl) (h := ?_)
  refine Tk.take 2 (hy := by (intro w hSw; (try dsimp only at hSw); (have hq := sq_cells hSw; obtain ⟨⟨q0, q1, q2, q3, q4, q5, q6, q7, q8, q9⟩, qp⟩ := hq); go_simp) <;> with_reducible rfl) (h := ?_)
  refine Tk.take 3 (hy := by (intro w hSw; (try dsimp only at hSw); (have hq := sq_cells hSw; obtain ⟨⟨q0, q1, q2, q3, q4, q5, q6, q7, q8, q9⟩, qp⟩ := hq); go_simp) <;> with_reducible rfl) (h := ?_)
  refine Tk.take 5 (hy := by (intro w hSw; (try dsimp only at hSw); (have hq := sq_cells hSw; obtain ⟨⟨q0, q1, q2, q3, q4, q5, q6, q7, q8, q9⟩, qp⟩ := hq); go_simp) <;> with_reducible rfl) (h := ?_)
  refine wpAnyH_ready (rs := [4, 6]) (by kernel_rfl) (by simp) ?_
  refine AllReadyH.cons (o := ?o4t13) ?hi4t13 (fun K hK => ?st4t13) (AllReadyH.cons (o := ?o6t13) ?hi6t13 (fun K hK => ?st6t13) AllReadyH.nil)
  case hi4t13 => simp only [List.getElem?_toArray, List.getElem?_cons_succ, List.getElem?_cons_zero]; rfl
  case hi6t13 => simp only [List.getElem?_toArray, List.getElem?_cons_succ, List.getElem?_cons_zero]; rfl
  case st4t13 =>
    have hPrev := hHeld
    have hcl := HSD.out.rw.cells.1.2.1
    (try dsimp only at hcl)
    go_simp
    refine hK.out _ _ ?_ (fun hHeld => ?_)
    · (try dsimp only); exact hPrev
    clear hK K hcl
    try simp only [Act.put, List.setIfInBounds_toArray, List.set_cons_zero, List.set_cons_succ]
    refine wpAnyH_ready (rs := [6]) (by kernel_rfl) (by simp) ?_
    refine AllReadyH.cons (o := ?o6at13) ?hi6at13 (fun K hK => ?st6at13) AllReadyH.nil
    case hi6at13 => simp only [List.getElem?_toArray, List.getElem?_cons_succ, List.getElem?_cons_zero]; rfl
    go_simp
    have HSA := Lib.hid (HSD.out.below ((Below.refl _ _).alloc (Nat.le_refl _) (.cells (NC ⟨8, z4, 0, 0, 0, 0, 0⟩) 45)))
    refine hK.out _ _ ?_ (fun hHeld => ?_)
    · (try dsimp only); exact sq_of HSA.out
    clear hK K
    try simp only [Act.put, List.setIfInBounds_toArray, List.set_cons_zero, List.set_cons_succ]
    have HNW := Lib.hid (@news_row W8 ⟨8, z4, 0, 0, 0, 0, 0⟩)
    revert HSA hHeld HNW
    generalize World.alloc _ _ = W9
    intro HSA hHeld HNW
    refine wpAnyH_ready (rs := [7]) (by kernel_rfl) (by simp) ?_
    refine AllReadyH.cons (o := ?o7at13) ?hi7at13 (fun K hK => ?st7at13) AllReadyH.nil
    case hi7at13 => simp only [List.getElem?_toArray, List.getElem?_cons_succ, List.getElem?_cons_zero]; rfl
    (refine step_append_lies _ rfl _ _ 23 rfl w0.heap.size 45 i0 _ 10 80 Tryz.underlying23 hi hz0 hz1 hz2 rfl (by decide) _ _ _ rfl HSA.out.rw.own ⟨_, 0, none⟩ 1 1 (NC ⟨8, z4, 0, 0, 0, 0, 0⟩).toList rfl rfl HNW.out (one_row _) (by decide) (by have := HLEN.out; (try dsimp only at this ⊢); unfold maxLen; omega) (by have := HLEN.out; (try dsimp only at this ⊢); omega) HSA.out.rw.bel.size _ rfl ?_; intro gg gcap w4 hown hgrow hat hlt4)
    have HP0 := rw_push HSA.out.rw hown hgrow hat
    have HP := Lib.hid HP0
    clear HP0
    have hq8 := sq_grown HSA.out hgrow
    refine hK.out _ _ ?_ (fun hHeld => ?_)
    · (try dsimp only); exact hq8
    clear hK K hq8
    try simp only [Act.put, List.setIfInBounds_toArray, List.set_cons_zero, List.set_cons_succ]
    refine Tk.take 8 (hy := by (intro w hSw; (try dsimp only at hSw); (have hq := sq_cells hSw; obtain ⟨⟨q0, q1, q2, q3, q4, q5, q6, q7, q8, q9⟩, qp⟩ := hq); go_simp) <;> with_reducible rfl) (h := ?_)
    refine Tk.take 9 (hy := by (intro w hSw; (try dsimp only at hSw); (have hq := sq_cells hSw; obtain ⟨⟨q0, q1, q2, q3, q4, q5, q6, q7, q8, q9⟩, qp⟩ := hq); go_simp) <;> with_reducible rfl) (h := ?_)
    refine wpAnyH_ready (rs := [10]) (by kernel_rfl) (by simp) ?_
    refine AllReadyH.cons (o := ?o10at13) ?hi10at13 (fun K hK => ?st10at13) AllReadyH.nil
    case hi10at13 => simp only [List.getElem?_toArray, List.getElem?_cons_succ, List.getElem?_cons_zero]; rfl
    have hf4 := fz_grown HSA.out hgrow 1
    have hc4 := cell_grown HSA.out hgrow
    go_simp
    have HZ := Lib.hid (HSA.out.step HP.out.1 HP.out.2)
    refine hK.out _ _ ?_ (fun hHeld => ?_)
    · (try dsimp only); exact sq_of HZ.out
    clear hK K hf4 hc4
    try simp only [Act.put, List.setIfInBounds_toArray, List.set_cons_zero, List.set_cons_succ]
    refine wpAnyH_done (by kernel_rfl) ?_ _
    refine NoPanic.normal ?_
    clear hHeld hgrow hown hat hlt4 HP HSA HSD HNW
    revert HZ
    generalize World.setCell _ _ _ = W10
    intro HZ
    obtain ⟨⟨p0, p1⟩, _, _⟩ := HZ.out.facts
    obtain ⟨⟨y0, y1, y2, y3⟩, _, _, _, _⟩ := HZ.out.rw.cells
    (try dsimp only at y0 y1 y2 y3)
    have hw1 : IntKind.i64.wrap ((((l).length + 1 : Nat) : Int) - 1) = (((l).length : Nat) : Int) := by have := HLEN.out; rw [IntKind.wrap_i64]; omega
    have hlen9 := HLEN.out
    go_wp2
    go_ret
    refine ⟨_, ?_, ?_, HZ.out.kr⟩
    · rw [HO.out]; rfl
    · rw [HO.out]; exact HZ.out.rw
  case st6t13 =>
    go_simp
    have HSA := Lib.hid (HSD.out.below ((Below.refl _ _).alloc (Nat.le_refl _) (.cells (NC ⟨8, z4, 0, 0, 0, 0, 0⟩) 45)))
    refine hK.out _ _ ?_ (fun hHeld => ?_)
    · (try dsimp only); exact sq_of HSA.out
    clear hK K
    try simp only [Act.put, List.setIfInBounds_toArray, List.set_cons_zero, List.set_cons_succ]
    have HNW := Lib.hid (@news_row W8 ⟨8, z4, 0, 0, 0, 0, 0⟩)
    revert HSA hHeld HNW
    generalize World.alloc _ _ = W9
    intro HSA hHeld HNW
    have hPrev := hHeld
    refine wpAnyH_ready (rs := [4]) (by kernel_rfl) (by simp) ?_
    refine AllReadyH.cons (o := ?o4bt13) ?hi4bt13 (fun K hK => ?st4bt13) AllReadyH.nil
    case hi4bt13 => simp only [List.getElem?_toArray, List.getElem?_cons_succ, List.getElem?_cons_zero]; rfl
    have hcl := HSA.out.rw.cells.1.2.1
    (try dsimp only at hcl)
    go_simp
    refine hK.out _ _ ?_ (fun hHeld => ?_)
    · (try dsimp only); exact hPrev
    clear hK K hcl
    try simp only [Act.put, List.setIfInBounds_toArray, List.set_cons_zero, List.set_cons_succ]
    refine wpAnyH_ready (rs := [7]) (by kernel_rfl) (by simp) ?_
    refine AllReadyH.cons (o := ?o7bt13) ?hi7bt13 (fun K hK => ?st7bt13) AllReadyH.nil
    case hi7bt13 => simp only [List.getElem?_toArray, List.getElem?_cons_succ, List.getElem?_cons_zero]; rfl
    (refine step_append_lies _ rfl _ _ 23 rfl w0.heap.size 45 i0 _ 10 80 Tryz.underlying23 hi hz0 hz1 hz2 rfl (by decide) _ _ _ rfl HSA.out.rw.own ⟨_, 0, none⟩ 1 1 (NC ⟨8, z4, 0, 0, 0, 0, 0⟩).toList rfl rfl HNW.out (one_row _) (by decide) (by have := HLEN.out; (try dsimp only at this ⊢); unfold maxLen; omega) (by have := HLEN.out; (try dsimp only at this ⊢); omega) HSA.out.rw.bel.size _ rfl ?_; intro gg gcap w4 hown hgrow hat hlt4)
    have HP0 := rw_push HSA.out.rw hown hgrow hat
    have HP := Lib.hid HP0
    clear HP0
    have hq8 := sq_grown HSA.out hgrow
    refine hK.out _ _ ?_ (fun hHeld => ?_)
    · (try dsimp only); exact hq8
    clear hK K hq8
    try simp only [Act.put, List.setIfInBounds_toArray, List.set_cons_zero, List.set_cons_succ]
    refine Tk.take 8 (hy := by (intro w hSw; (try dsimp only at hSw); (have hq := sq_cells hSw; obtain ⟨⟨q0, q1, q2, q3, q4, q5, q6, q7, q8, q9⟩, qp⟩ := hq); go_simp) <;> with_reducible rfl) (h := ?_)
    refine Tk.take 9 (hy := by (intro w hSw; (try dsimp only at hSw); (have hq := sq_cells hSw; obtain ⟨⟨q0, q1, q2, q3, q4, q5, q6, q7, q8, q9⟩, qp⟩ := hq); go_simp) <;> with_reducible rfl) (h := ?_)
    refine wpAnyH_ready (rs := [10]) (by kernel_rfl) (by simp) ?_
    refine AllReadyH.cons (o := ?o10bt13) ?hi10bt13 (fun K hK => ?st10bt13) AllReadyH.nil
    case hi10bt13 => simp only [List.getElem?_toArray, List.getElem?_cons_succ, List.getElem?_cons_zero]; rfl
    have hf4 := fz_grown HSA.out hgrow 1
    have hc4 := cell_grown HSA.out hgrow
    go_simp
    have HZ := Lib.hid (HSA.out.step HP.out.1 HP.out.2)
    refine hK.out _ _ ?_ (fun hHeld => ?_)
    · (try dsimp only); exact sq_of HZ.out
    clear hK K hf4 hc4
    try simp only [Act.put, List.setIfInBounds_toArray, List.set_cons_zero, List.set_cons_succ]
    refine wpAnyH_done (by kernel_rfl) ?_ _
    refine NoPanic.normal ?_
    clear hHeld hgrow hown hat hlt4 HP HSA HSD HNW
    revert HZ
    generalize World.setCell _ _ _ = W10
    intro HZ
    obtain ⟨⟨p0, p1⟩, _, _⟩ := HZ.out.facts
    obtain ⟨⟨y0, y1, y2, y3⟩, _, _, _, _⟩ := HZ.out.rw.cells
    (try dsimp only at y0 y1 y2 y3)
    have hw1 : IntKind.i64.wrap ((((l).length + 1 : Nat) : Int) - 1) = (((l).length : Nat) : Int) := by have := HLEN.out; rw [IntKind.wrap_i64]; omega
    have hlen9 := HLEN.out
    go_wp2
    go_ret
    refine ⟨_, ?_, ?_, HZ.out.kr⟩
    · rw [HO.out]; rfl
    · rw [HO.out]; exact HZ.out.rw
end Go.Proofs.YtdjedjfanfbbcaaGreatDoor.Rx
namespace Go.Proofs.YtdjedjfanfbbcaaGreatDoor.Rx
open Go.RowKit Go.Shelf
open Go.Proofs.YtdjedjfanfbbcaaGreatDoor.St (Wf word zeroW Tab SV SV_eq)
open Go.Proofs.YtdjedjfanfbbcaaGreatDoor.Ad (cutB atoiV)
set_option linter.unusedVariables false
set_option linter.unusedSimpArgs false
set_option maxRecDepth 100000 in
set_option maxHeartbeats 3200000 in
theorem node_q (w0 : World) (b left : Nat) (lf : Int) (c : UInt8) (t s : List UInt8) (l : List Nd) (g : Int) (v : Value) (w : World) (hs : s = c :: t) (h : RW w0 b ⟨s, l, g, false⟩ v w) (hL : Lay w0) (hlen : s.length + l.length ≤ 100000) (hl : l.length ≤ 120) (hg0 : 0 ≤ g) (hg1 : g + s.length ≤ 100000) (hlf : lf = ((left + 1 : Nat) : Int)) (hle : left ≤ 1000) (IH : Below1 w0 b left)
    (hc : c = 92) (d : UInt8) (t2 : List UInt8) (ht : t = d :: t2) :
    Calls Tryz.prog 21 #[PT b, E lf] w (NodeAns w0 b (left + 1) ⟨s, l, g, false⟩ v w) := by
  obtain ⟨ao, cap, rfl⟩ : ∃ ao cap, v = .slice ao l.length cap := own_slice h.own
  obtain ⟨i0, hi, hz0, hz1, hz2⟩ := info_parts infoNd
  have HO := Lib.hid (show nodeP (left + 1) ⟨s, l, g, false⟩ = pushP ⟨t2, l, g, false⟩ ⟨8, z4, 0, 0, 0, 0, (d.toNat : Int) - 48⟩ from by
    rw [hs]; rw [node_step hl]; subst hc; subst ht; rfl)
  have hne : (s == []) = false := by rw [hs]; rfl
  have hlt : 0 < s.length := by rw [hs]; simp
  have hx : ((ByteArray.mk s.toArray)[0]'hlt) = c := by subst hs; rfl
  have hsz : (ByteArray.mk s.toArray).size = s.length := by simp [ByteArray.size]
  have hlt' : (0 : Int) < ((s.length : Nat) : Int) := by omega
  have e2 := ex_drop (l := s) 1
  have hr : s.drop 1 = t := by rw [hs]; rfl
  have htl : t.length + 1 = s.length := by rw [hs]; rfl
  rw [hr] at e2
  have h1' : (1 : Int) ≤ ((s.length : Nat) : Int) := by omega
  have h0 : (lf == 0) = false := by rw [beq_eq_false_iff_ne]; omega
  have hgt : ¬ (120 : Int) < ((l.length : Nat) : Int) := by omega
  have HL := Lib.hid hL
  have HR0 := Lib.hid h
  have HS0 := Lib.hid (st_start HR0.out lf t N0)
  dsimp only at HS0
  obtain ⟨⟨c0, c1, c2, c3⟩, f0, f1, f2, f3⟩ := HR0.out.cells
  skip
  dsimp only at c0 c1 c2 c3
  have hlb := HR0.out.lt
  have HLF := Lib.hid hlf
  clear hs h hL hr hlf
  subst hc
  have hdb := UInt8.toNat_lt d
  have hlt2 : 0 < t.length := by rw [ht]; simp
  have hx2 : ((ByteArray.mk t.toArray)[0]'hlt2) = d := by subst ht; rfl
  have hsz2 : (ByteArray.mk t.toArray).size = t.length := by simp [ByteArray.size]
  have hlt2' : (0 : Int) < ((t.length : Nat) : Int) := by omega
  have e3 := ex_drop (l := t) 1
  have hr2 : t.drop 1 = t2 := by rw [ht]; rfl
  rw [hr2] at e3
  clear hr2
  have h2' : (1 : Int) ≤ ((t.length : Nat) : Int) := by omega
  have htn : (t == []) = false := by rw [ht]; rfl
  clear ht
  go_enter Tryz.func21, Tryz.ntmps21
  rw [show Code.region 36 = Fz 36 from rfl]
  go_wp2
  go_region
  go_wp2
  refine at_world (p := fun W => ST w0 b w _ lf N0 _ _ W) HS0.out (fun W hW => ?_)
  have HS1 := Lib.hid hW
  clear hW HS0
  obtain ⟨⟨x1p, x1l⟩, ⟨x10, x11, x12, x13, x14, x15, x16, x17, x18, x19⟩, x1z⟩ := HS1.out.facts; obtain ⟨⟨x1a, x1b, x1c, x1d⟩, x1e, x1f, x1g, x1h⟩ := HS1.out.rw.cells; (try dsimp only at x1a x1b x1c x1d)
  rw [show Fz 36 = Code.region 36 from rfl]
  go_wp2
  have HSa := Lib.hid (HS1.out.node (i := 0) (u := E 8) (m := ⟨8, z4, 0, 0, 0, 0, 0⟩) rfl)
  clear x1p x1l x10 x11 x12 x13 x14 x15 x16 x17 x18 x19 x1z x1a x1b x1c x1d x1e x1f x1g x1h
  refine at_world (p := fun W => ST w0 b w _ lf ⟨8, z4, 0, 0, 0, 0, 0⟩ _ _ W) HSa.out (fun W hW => ?_)
  have HSD := Lib.hid (hW.below (Below.refl _ _).drew)
  clear hW
  refine wp_region_noPanic ?_
  refine wp_region_held_drew (S := fun w' => SR w b ⟨8, z4, 0, 0, 0, 0, 0⟩ t w') (by kernel_rfl) ?_ (fun hHeld => ?_)
  · (try dsimp only); exact sr_of HSD.out
  revert HSD hHeld
  generalize World.drew _ = W8
  intro HSD hHeld
  refine Tk.take 0 (hy := by (intro w hSw; (try dsimp only at hSw); (have hq := sq_cells hSw.1; have qr := hSw.2; obtain ⟨⟨q0, q1, q2, q3, q4, q5, q6, q7, q8, q9⟩, qp⟩ := hq); go_simp) <;> with_reducible rfl) (h := ?_)
  refine Tk.take 1 (hy := by (intro w hSw; (try dsimp only at hSw); (have hq := sq_cells hSw.1; have qr := hSw.2; obtain ⟨⟨q0, q1, q2, q3, q4, q5, q6, q7, q8, q9⟩, qp⟩ := hq); go_simp) <;> with_reducible rfl) (h := ?_)
  refine Tk.take 2 (hy := by (intro w hSw; (try dsimp only at hSw); (have hq := sq_cells hSw.1; have qr := hSw.2; obtain ⟨⟨q0, q1, q2, q3, q4, q5, q6, q7, q8, q9⟩, qp⟩ := hq); go_simp) <;> with_reducible rfl) (h := ?_)
  refine Tk.take 3 (hy := by (intro w hSw; (try dsimp only at hSw); (have hq := sq_cells hSw.1; have qr := hSw.2; obtain ⟨⟨q0, q1, q2, q3, q4, q5, q6, q7, q8, q9⟩, qp⟩ := hq); go_simp) <;> with_reducible rfl) (h := ?_)
  refine Tk.take 4 (hy := by (intro w hSw; (try dsimp only at hSw); (have hq := sq_cells hSw.1; have qr := hSw.2; obtain ⟨⟨q0, q1, q2, q3, q4, q5, q6, q7, q8, q9⟩, qp⟩ := hq); go_simp) <;> with_reducible rfl) (h := ?_)
  refine Tk.take 5 (hy := by (intro w hSw; (try dsimp only at hSw); (have hq := sq_cells hSw.1; have qr := hSw.2; obtain ⟨⟨q0, q1, q2, q3, q4, q5, q6, q7, q8, q9⟩, qp⟩ := hq); go_simp) <;> with_reducible rfl) (h := ?_)
  refine Tk.take 6 (hy := by (intro w hSw; (try dsimp only at hSw); (have hq := sq_cells hSw.1; have qr := hSw.2; obtain ⟨⟨q0, q1, q2, q3, q4, q5, q6, q7, q8, q9⟩, qp⟩ := hq); go_simp) <;> with_reducible rfl) (h := ?_)
  refine Tk.take 7 (hy := by (intro w hSw; (try dsimp only at hSw); (have hq := sq_cells hSw.1; have qr := hSw.2; obtain ⟨⟨q0, q1, q2, q3, q4, q5, q6, q7, q8, q9⟩, qp⟩ := hq); go_simp) <;> with_reducible rfl) (h := ?_)
  refine wpAnyH_ready (rs := [8]) (by kernel_rfl) (by simp) ?_
  refine AllReadyH.cons (o := ?o8r10) ?hi8r10 (fun K hK => ?st8r10) AllReadyH.nil
  case hi8r10 => simp only [List.getElem?_toArray, List.getElem?_cons_succ, List.getElem?_cons_zero]; rfl
  have hcl := HSD.out.rw.cells
  (try dsimp only at hcl)
  obtain ⟨⟨hcl0, hcl1, hcl2, hcl3⟩, hfl0, hfl1, hfl2, hfl3⟩ := hcl
  go_simp
  have HSb := Lib.hid (HSD.out.setBad false)
  refine hK.out _ _ ?_ (fun hHeld => ?_)
  · (try dsimp only); exact sr_of HSb.out
  clear hK K hcl0 hcl1 hcl2 hcl3 hfl0 hfl1 hfl2 hfl3
  try simp only [Act.put, List.setIfInBounds_toArray, List.set_cons_zero, List.set_cons_succ]
  refine wpAnyH_done (by kernel_rfl) ?_ _
  refine NoPanic.normal ?_
  clear hHeld HSD
  revert HSb
  generalize World.setCell _ _ _ = W9
  intro HSb
  have HS2 := HSb
  clear HSb
  obtain ⟨⟨x2p, x2l⟩, ⟨x20, x21, x22, x23, x24, x25, x26, x27, x28, x29⟩, x2z⟩ := HS2.out.facts; obtain ⟨⟨x2a, x2b, x2c, x2d⟩, x2e, x2f, x2g, x2h⟩ := HS2.out.rw.cells; (try dsimp only at x2a x2b x2c x2d)
  go_wp2
  go_region
  go_wp2
  have HSc := Lib.hid (((HS2.out.node (i := 9) (u := E ((d.toNat : Int) - 48)) (m := ⟨8, z4, 0, 0, 0, 0, (d.toNat : Int) - 48⟩) rfl).setRest t2).dr)
  have HLEN := Lib.hid (show l.length ≤ 200000 by omega)
  refine at_world (p := fun W => ST w0 b w _ lf ⟨8, z4, 0, 0, 0, 0, (d.toNat : Int) - 48⟩ _ _ W) HSc.out (fun W hW => ?_)
  have HSD := Lib.hid (hW.below (Below.refl _ _).drew)
  clear hW
  refine wp_region_noPanic ?_
  refine wp_region_held_drew (S := fun w' => SQ w b ⟨8, z4, 0, 0, 0, 0, (d.toNat : Int) - 48⟩ w') (by kernel_rfl) ?_ (fun hHeld => ?_)
  · (try dsimp only); exact sq_of HSD.out
  revert HSD hHeld
  generalize World.drew _ = W8
  intro HSD hHeld
  refine Tk.take 0 (hy := by (intro w hSw; (try dsimp only at hSw); (have hq := sq_cells hSw; obtain ⟨⟨q0, q1, q2, q3, q4, q5, q6, q7, q8, q9⟩, qp⟩ := hq); go_simp) <;> with_reducible rfl) (h := ?_)
  refine Tk.take 1 (hy := by (intro w hSw; (try dsimp only at hSw); (have hq := sq_cells hSw; obtain ⟨⟨q0, q1, q2, q3, q4, q5, q6, q7, q8, q9⟩, qp⟩ := hq); go_simp) <;> with_reducible rfl) (h := ?_)
  refine Tk.take 2 (hy := by (intro w hSw; (try dsimp only at hSw); (have hq := sq_cells hSw; obtain ⟨⟨q0, q1, q2, q3, q4, q5, q6, q7, q8, q9⟩, qp⟩ := hq); go_simp) <;> with_reducible rfl) (h := ?_)
  refine Tk.take 3 (hy := by (intro w hSw; (try dsimp only at hSw); (have hq := sq_cells hSw; obtain ⟨⟨q0, q1, q2, q3, q4, q5, q6, q7, q8, q9⟩, qp⟩ := hq); go_simp) <;> with_reducible rfl) (h := ?_)
  refine Tk.take 5 (hy := by (intro w hSw; (try dsimp only at hSw); (have hq := sq_cells hSw; obtain ⟨⟨q0, q1, q2, q3, q4, q5, q6, q7, q8, q9⟩, qp⟩ := hq); go_simp) <;> with_reducible rfl) (h := ?_)
  refine wpAnyH_ready (rs := [4, 6]) (by kernel_rfl) (by simp) ?_
  refine AllReadyH.cons (o := ?o4t14) ?hi4t14 (fun K hK => ?st4t14) (AllReadyH.cons (o := ?o6t14) ?hi6t14 (fun K hK => ?st6t14) AllReadyH.nil)
  case hi4t14 => simp only [List.getElem?_toArray, List.getElem?_cons_succ, List.getElem?_cons_zero]; rfl
  case hi6t14 => simp only [List.getElem?_toArray, List.getElem?_cons_succ, List.getElem?_cons_zero]; rfl
  case st4t14 =>
    have hPrev := hHeld
    have hcl := HSD.out.rw.cells.1.2.1
    (try dsimp only at hcl)
    go_simp
    refine hK.out _ _ ?_ (fun hHeld => ?_)
    · (try dsimp only); exact hPrev
    clear hK K hcl
    try simp only [Act.put, List.setIfInBounds_toArray, List.set_cons_zero, List.set_cons_succ]
    refine wpAnyH_ready (rs := [6]) (by kernel_rfl) (by simp) ?_
    refine AllReadyH.cons (o := ?o6at14) ?hi6at14 (fun K hK => ?st6at14) AllReadyH.nil
    case hi6at14 => simp only [List.getElem?_toArray, List.getElem?_cons_succ, List.getElem?_cons_zero]; rfl
    go_simp
    have HSA := Lib.hid (HSD.out.below ((Below.refl _ _).alloc (Nat.le_refl _) (.cells (NC ⟨8, z4, 0, 0, 0, 0, (d.toNat : Int) - 48⟩) 45)))
    refine hK.out _ _ ?_ (fun hHeld => ?_)
    · (try dsimp only); exact sq_of HSA.out
    clear hK K
    try simp only [Act.put, List.setIfInBounds_toArray, List.set_cons_zero, List.set_cons_succ]
    have HNW := Lib.hid (@news_row W8 ⟨8, z4, 0, 0, 0, 0, (d.toNat : Int) - 48⟩)
    revert HSA hHeld HNW
    generalize World.alloc _ _ = W9
    intro HSA hHeld HNW
    refine wpAnyH_ready (rs := [7]) (by kernel_rfl) (by simp) ?_
    refine AllReadyH.cons (o := ?o7at14) ?hi7at14 (fun K hK => ?st7at14) AllReadyH.nil
    case hi7at14 => simp only [List.getElem?_toArray, List.getElem?_cons_succ, List.getElem?_cons_zero]; rfl
    (refine step_append_lies _ rfl _ _ 23 rfl w0.heap.size 45 i0 _ 10 80 Tryz.underlying23 hi hz0 hz1 hz2 rfl (by decide) _ _ _ rfl HSA.out.rw.own ⟨_, 0, none⟩ 1 1 (NC ⟨8, z4, 0, 0, 0, 0, (d.toNat : Int) - 48⟩).toList rfl rfl HNW.out (one_row _) (by decide) (by have := HLEN.out; (try dsimp only at this ⊢); unfold maxLen; omega) (by have := HLEN.out; (try dsimp only at this ⊢); omega) HSA.out.rw.bel.size _ rfl ?_; intro gg gcap w4 hown hgrow hat hlt4)
    have HP0 := rw_push HSA.out.rw hown hgrow hat
    have HP := Lib.hid HP0
    clear HP0
    have hq8 := sq_grown HSA.out hgrow
    refine hK.out _ _ ?_ (fun hHeld => ?_)
    · (try dsimp only); exact hq8
    clear hK K hq8
    try simp only [Act.put, List.setIfInBounds_toArray, List.set_cons_zero, List.set_cons_succ]
    refine Tk.take 8 (hy := by (intro w hSw; (try dsimp only at hSw); (have hq := sq_cells hSw; obtain ⟨⟨q0, q1, q2, q3, q4, q5, q6, q7, q8, q9⟩, qp⟩ := hq); go_simp) <;> with_reducible rfl) (h := ?_)
    refine Tk.take 9 (hy := by (intro w hSw; (try dsimp only at hSw); (have hq := sq_cells hSw; obtain ⟨⟨q0, q1, q2, q3, q4, q5, q6, q7, q8, q9⟩, qp⟩ := hq); go_simp) <;> with_reducible rfl) (h := ?_)
    refine wpAnyH_ready (rs := [10]) (by kernel_rfl) (by simp) ?_
    refine AllReadyH.cons (o := ?o10at14) ?hi10at14 (fun K hK => ?st10at14) AllReadyH.nil
    case hi10at14 => simp only [List.getElem?_toArray, List.getElem?_cons_succ, List.getElem?_cons_zero]; rfl
    have hf4 := fz_grown HSA.out hgrow 1
    have hc4 := cell_grown HSA.out hgrow
    go_simp
    have HZ := Lib.hid (HSA.out.step HP.out.1 HP.out.2)
    refine hK.out _ _ ?_ (fun hHeld => ?_)
    · (try dsimp only); exact sq_of HZ.out
    clear hK K hf4 hc4
    try simp only [Act.put, List.setIfInBounds_toArray, List.set_cons_zero, List.set_cons_succ]
    refine wpAnyH_done (by kernel_rfl) ?_ _
    refine NoPanic.normal ?_
    clear hHeld hgrow hown hat hlt4 HP HSA HSD HNW
    revert HZ
    generalize World.setCell _ _ _ = W10
    intro HZ
    obtain ⟨⟨p0, p1⟩, _, _⟩ := HZ.out.facts
    obtain ⟨⟨y0, y1, y2, y3⟩, _, _, _, _⟩ := HZ.out.rw.cells
    (try dsimp only at y0 y1 y2 y3)
    have hw1 : IntKind.i64.wrap ((((l).length + 1 : Nat) : Int) - 1) = (((l).length : Nat) : Int) := by have := HLEN.out; rw [IntKind.wrap_i64]; omega
    have hlen9 := HLEN.out
    go_wp2
    go_ret
    refine ⟨_, ?_, ?_, HZ.out.kr⟩
    · rw [HO.out]; rfl
    · rw [HO.out]; exact HZ.out.rw
  case st6t14 =>
    go_simp
    have HSA := Lib.hid (HSD.out.below ((Below.refl _ _).alloc (Nat.le_refl _) (.cells (NC ⟨8, z4, 0, 0, 0, 0, (d.toNat : Int) - 48⟩) 45)))
    refine hK.out _ _ ?_ (fun hHeld => ?_)
    · (try dsimp only); exact sq_of HSA.out
    clear hK K
    try simp only [Act.put, List.setIfInBounds_toArray, List.set_cons_zero, List.set_cons_succ]
    have HNW := Lib.hid (@news_row W8 ⟨8, z4, 0, 0, 0, 0, (d.toNat : Int) - 48⟩)
    revert HSA hHeld HNW
    generalize World.alloc _ _ = W9
    intro HSA hHeld HNW
    have hPrev := hHeld
    refine wpAnyH_ready (rs := [4]) (by kernel_rfl) (by simp) ?_
    refine AllReadyH.cons (o := ?o4bt14) ?hi4bt14 (fun K hK => ?st4bt14) AllReadyH.nil
    case hi4bt14 => simp only [List.getElem?_toArray, List.getElem?_cons_succ, List.getElem?_cons_zero]; rfl
    have hcl := HSA.out.rw.cells.1.2.1
    (try dsimp only at hcl)
    go_simp
    refine hK.out _ _ ?_ (fun hHeld => ?_)
    · (try dsimp only); exact hPrev
    clear hK K hcl
    try simp only [Act.put, List.setIfInBounds_toArray, List.set_cons_zero, List.set_cons_succ]
    refine wpAnyH_ready (rs := [7]) (by kernel_rfl) (by simp) ?_
    refine AllReadyH.cons (o := ?o7bt14) ?hi7bt14 (fun K hK => ?st7bt14) AllReadyH.nil
    case hi7bt14 => simp only [List.getElem?_toArray, List.getElem?_cons_succ, List.getElem?_cons_zero]; rfl
    (refine step_append_lies _ rfl _ _ 23 rfl w0.heap.size 45 i0 _ 10 80 Tryz.underlying23 hi hz0 hz1 hz2 rfl (by decide) _ _ _ rfl HSA.out.rw.own ⟨_, 0, none⟩ 1 1 (NC ⟨8, z4, 0, 0, 0, 0, (d.toNat : Int) - 48⟩).toList rfl rfl HNW.out (one_row _) (by decide) (by have := HLEN.out; (try dsimp only at this ⊢); unfold maxLen; omega) (by have := HLEN.out; (try dsimp only at this ⊢); omega) HSA.out.rw.bel.size _ rfl ?_; intro gg gcap w4 hown hgrow hat hlt4)
    have HP0 := rw_push HSA.out.rw hown hgrow hat
    have HP := Lib.hid HP0
    clear HP0
    have hq8 := sq_grown HSA.out hgrow
    refine hK.out _ _ ?_ (fun hHeld => ?_)
    · (try dsimp only); exact hq8
    clear hK K hq8
    try simp only [Act.put, List.setIfInBounds_toArray, List.set_cons_zero, List.set_cons_succ]
    refine Tk.take 8 (hy := by (intro w hSw; (try dsimp only at hSw); (have hq := sq_cells hSw; obtain ⟨⟨q0, q1, q2, q3, q4, q5, q6, q7, q8, q9⟩, qp⟩ := hq); go_simp) <;> with_reducible rfl) (h := ?_)
    refine Tk.take 9 (hy := by (intro w hSw; (try dsimp only at hSw); (have hq := sq_cells hSw; obtain ⟨⟨q0, q1, q2, q3, q4, q5, q6, q7, q8, q9⟩, qp⟩ := hq); go_simp) <;> with_reducible rfl) (h := ?_)
    refine wpAnyH_ready (rs := [10]) (by kernel_rfl) (by simp) ?_
    refine AllReadyH.cons (o := ?o10bt14) ?hi10bt14 (fun K hK => ?st10bt14) AllReadyH.nil
    case hi10bt14 => simp only [List.getElem?_toArray, List.getElem?_cons_succ, List.getElem?_cons_zero]; rfl
    have hf4 := fz_grown HSA.out hgrow 1
    have hc4 := cell_grown HSA.out hgrow
    go_simp
    have HZ := Lib.hid (HSA.out.step HP.out.1 HP.out.2)
    refine hK.out _ _ ?_ (fun hHeld => ?_)
    · (try dsimp only); exact sq_of HZ.out
    clear hK K hf4 hc4
    try simp only [Act.put, List.setIfInBounds_toArray, List.set_cons_zero, List.set_cons_succ]
    refine wpAnyH_done (by kernel_rfl) ?_ _
    refine NoPanic.normal ?_
    clear hHeld hgrow hown hat hlt4 HP HSA HSD HNW
    revert HZ
    generalize World.setCell _ _ _ = W10
    intro HZ
    obtain ⟨⟨p0, p1⟩, _, _⟩ := HZ.out.facts
    obtain ⟨⟨y0, y1, y2, y3⟩, _, _, _, _⟩ := HZ.out.rw.cells
    (try dsimp only at y0 y1 y2 y3)
    have hw1 : IntKind.i64.wrap ((((l).length + 1 : Nat) : Int) - 1) = (((l).length : Nat) : Int) := by have := HLEN.out; rw [IntKind.wrap_i64]; omega
    have hlen9 := HLEN.out
    go_wp2
    go_ret
    refine ⟨_, ?_, ?_, HZ.out.kr⟩
    · rw [HO.out]; rfl
    · rw [HO.out]; exact HZ.out.rw
end Go.Proofs.YtdjedjfanfbbcaaGreatDoor.Rx
