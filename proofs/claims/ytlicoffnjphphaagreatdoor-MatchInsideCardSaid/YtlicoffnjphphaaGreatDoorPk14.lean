/- The texts RxNx. -/
import Derived.Test.YtlicoffnjphphaaGreatDoorPk06
import Derived.Test.YtlicoffnjphphaaGreatDoorPk13
set_option linter.unusedVariables false
set_option linter.unusedSimpArgs false
namespace Go.Proofs.YtlicoffnjphphaaGreatDoor.Rx
open Go.RowKit Go.Shelf
open Go.Proofs.YtlicoffnjphphaaGreatDoor.St (Wf word zeroW Tab SV SV_eq)
open Go.Proofs.YtlicoffnjphphaaGreatDoor.Ad (cutB atoiV)
set_option maxRecDepth 100000 in
set_option maxHeartbeats 800000 in
theorem node_out (w0 : World) (b left : Nat) (s : List UInt8) (l : List Nd) (g : Int) (bad : Bool) (v : Value) (w : World) (h : RW w0 b ⟨s, l, g, bad⟩ v w)
  (hc : bad = true ∨ s = [] ∨ left = 0 ∨ 120 < l.length) :
  Calls Tryz.prog 44 #[PT b, E (left : Nat)] w (NodeAns w0 b left ⟨s, l, g, bad⟩ v w) := by
 obtain ⟨ao, cap, rfl⟩ : ∃ ao cap, v = .slice ao l.length cap := own_slice h.own
 have HO := Lib.hid (show nodeP left ⟨s, l, g, bad⟩ = (⟨s, l, g, true⟩, 0) from by
  cases left with
  | zero => rfl
  | succ k =>
   unfold nodeP
   by_cases hq : bad = true ∨ 120 < l.length
   · rw [if_pos hq]
   ·
    rw [if_neg hq]
    rcases hc with h1 | h1 | h1 | h1
    · exact absurd (Or.inl h1) hq
    · subst h1; rfl
    · cases h1
    · exact absurd (Or.inr h1) hq)
 have hlb := h.lt
 have HA := ((Below.refl (w.setCell ⟨b, 3, none⟩ (.bool true)).heap.size (w.setCell ⟨b, 3, none⟩ (.bool true))).alloc (Nat.le_refl _) (.cells #[PT b] 86)).alloc (by simp) (.cells #[E (left : Nat)] 3)
 have HR := Lib.hid ((h.setBad true).below HA)
 have HK := Lib.hid (((Kr.refl b w (.slice ao l.length cap)).set 3 (.bool true)).below HA)
 obtain ⟨⟨c0, c1, c2, c3⟩, f0, f1, f2, f3⟩ := h.cells
 dsimp only at c0 c1 c2 c3
 clear h HA
 by_cases hb : bad = true
 ·
  subst hb
  clear hc
  go_enter Tryz.func44, Tryz.ntmps44
  go_wp2
  go_ret
  refine ⟨_, ?_, ?_, HK.out⟩
  · rw [HO.out]; rfl
  · rw [HO.out]; exact HR.out
 have hbf : bad = false := by cases bad; rfl; exact absurd rfl hb
 subst hbf
 by_cases hs : s = []
 ·
  have hsb : (s == []) = true := by rw [hs]; rfl
  clear hc hb hs
  go_enter Tryz.func44, Tryz.ntmps44
  go_wp2
  go_ret
  refine ⟨_, ?_, ?_, HK.out⟩
  · rw [HO.out]; rfl
  · rw [HO.out]; exact HR.out
 have hsb : (s == []) = false := by rw [beq_eq_false_iff_ne]; exact hs
 by_cases h0 : left = 0
 ·
  subst h0
  clear hc hb hs
  go_enter Tryz.func44, Tryz.ntmps44
  go_wp2
  go_ret
  refine ⟨_, ?_, ?_, HK.out⟩
  · rw [HO.out]; rfl
  · rw [HO.out]; exact HR.out
 ·
  have hgt : (120 : Int) < ((l.length : Nat) : Int) := by
   rcases hc with h1 | h1 | h1 | h1
   · exact absurd h1 hb
   · exact absurd h1 hs
   · exact absurd h1 h0
   · omega
  have h0b : (((left : Nat) : Int) == 0) = false := by rw [beq_eq_false_iff_ne]; omega
  clear hc hb hs h0
  go_enter Tryz.func44, Tryz.ntmps44
  go_wp2
  go_ret
  refine ⟨_, ?_, ?_, HK.out⟩
  · rw [HO.out]; rfl
  · rw [HO.out]; exact HR.out
set_option maxRecDepth 100000 in
set_option maxHeartbeats 3200000 in
theorem node_e (w0 : World) (b left : Nat) (lf : Int) (c : UInt8) (t s : List UInt8) (l : List Nd) (g : Int) (v : Value) (w : World) (hs : s = c :: t) (h : RW w0 b ⟨s, l, g, false⟩ v w) (hL : Lay w0) (hlen : s.length + l.length ≤ 100000) (hl : l.length ≤ 120) (hg0 : 0 ≤ g) (hg1 : g + s.length ≤ 100000) (hlf : lf = ((left + 1 : Nat) : Int)) (hle : left ≤ 1000) (IH : Below1 w0 b left)
  (hc : c = 101) :
  Calls Tryz.prog 44 #[PT b, E lf] w (NodeAns w0 b (left + 1) ⟨s, l, g, false⟩ v w) := by
 obtain ⟨ao, cap, rfl⟩ : ∃ ao cap, v = .slice ao l.length cap := own_slice h.own
 obtain ⟨i0, hi, hz0, hz1, hz2⟩ := info_parts infoNd
 have HO := Lib.hid (show nodeP (left + 1) ⟨s, l, g, false⟩ = pushP ⟨t, l, g, false⟩ N0 from by
  rw [hs]; rw [node_step hl]; rw [if_pos hc])
 have hne : (s == []) = false := by rw [hs]; rfl
 have hlt : 0 < s.length := by rw [hs]; simp
 have hx : ((ByteArray.mk s.toArray)[0]'hlt) = c := by subst hs; rfl
 have hsz : (ByteArray.mk s.toArray).size = s.length := by simp [ByteArray.size]
 have hlt' : (0 : Int) < ((s.length : Nat) : Int) := by omega
 have e2 := ex_drop (l := s) 1
 have hr : s.drop 1 = t := by rw [hs]; rfl
 have htl : t.length + 1 = s.length := by rw [hs]; rfl
 rw [hr] at e2
 have h1' : (1 : Int) ≤ ((s.length : Nat) : Int) := by omega
 have h0 : (lf == 0) = false := by rw [beq_eq_false_iff_ne]; omega
 have hgt : ¬ (120 : Int) < ((l.length : Nat) : Int) := by omega
 have HL := Lib.hid hL
 have HR0 := Lib.hid h
 have HS0 := Lib.hid (st_start HR0.out lf t N0)
 dsimp only at HS0
 obtain ⟨⟨c0, c1, c2, c3⟩, f0, f1, f2, f3⟩ := HR0.out.cells
 skip
 dsimp only at c0 c1 c2 c3
 have hlb := HR0.out.lt
 have HLF := Lib.hid hlf
 clear hs h hL hr hlf
 subst hc
 skip
 go_enter Tryz.func44, Tryz.ntmps44
 skip
 go_wp2
 go_region
 go_wp2
 have HLEN := Lib.hid (show l.length ≤ 200000 by omega)
 refine at_world (p := fun W => ST w0 b w _ lf N0 _ _ W) HS0.out (fun W hW => ?_)
 have HSD := Lib.hid (hW.below (Below.refl _ _).drew)
 clear hW
 refine wp_region_noPanic ?_
 refine wp_region_held_drew (S := fun w' => SQ w b N0 w') (by kernel_rfl) ?_ (fun hHeld => ?_)
 · (try dsimp only); exact sq_of HSD.out
 revert HSD hHeld
 generalize World.drew _ = W8
 intro HSD hHeld
 refine Tk.fk (fun _ h => (sq_cells h)) 0 (h := ?_)
 refine Tk.fk (fun _ h => (sq_cells h)) 1 (h := ?_)
 refine Tk.fk (fun _ h => (sq_cells h)) 2 (h := ?_)
 refine Tk.fk (fun _ h => (sq_cells h)) 3 (h := ?_)
 refine Tk.fk (fun _ h => (sq_cells h)) 5 (h := ?_)
 refine wpAnyH_ready (rs := [4, 6]) (by kernel_rfl) (by simp) ?_
 refine AllReadyH.cons (o := ?o4t1) ?hi4t1 (fun K hK => ?st4t1) (AllReadyH.cons (o := ?o6t1) ?hi6t1 (fun K hK => ?st6t1) AllReadyH.nil)
 case hi4t1 => simp only [List.getElem?_toArray, List.getElem?_cons_succ, List.getElem?_cons_zero]; rfl
 case hi6t1 => simp only [List.getElem?_toArray, List.getElem?_cons_succ, List.getElem?_cons_zero]; rfl
 case st4t1 =>
  have hPrev := hHeld
  have hcl := HSD.out.rw.cells.1.2.1
  (try dsimp only at hcl)
  go_simp
  refine hK.out _ _ ?_ (fun hHeld => Tk.wrk ?_)
  · (try dsimp only); exact hPrev
  clear hK K hcl
  refine Tk.one 6 (h := fun K hK => ?_)
  go_simp
  have HSA := Lib.hid (HSD.out.below ((Below.refl _ _).alloc (Nat.le_refl _) (.cells (NC N0) 55)))
  refine hK.out _ _ ?_ (fun hHeld => Tk.wrk ?_)
  · (try dsimp only); exact sq_of HSA.out
  clear hK K
  have HNW := Lib.hid (@news_row W8 N0)
  revert HSA hHeld HNW
  generalize World.alloc _ _ = W9
  intro HSA hHeld HNW
  refine Tk.one 7 (h := fun K hK => ?_)
  (refine step_append_lies _ rfl _ _ 22 rfl w0.heap.size 55 i0 _ 10 80 Tryz.underlying22 hi hz0 hz1 hz2 rfl (by decide) _ _ _ rfl HSA.out.rw.own ⟨_, 0, none⟩ 1 1 (NC N0).toList rfl rfl HNW.out (one_row _) (by decide) (by have := HLEN.out; (try dsimp only at this ⊢); unfold maxLen; omega) (by have := HLEN.out; (try dsimp only at this ⊢); omega) HSA.out.rw.bel.size _ rfl ?_; intro gg gcap w4 hown hgrow hat hlt4)
  have HP0 := rw_push HSA.out.rw hown hgrow hat
  have HP := Lib.hid HP0
  clear HP0
  have hq8 := sq_grown HSA.out hgrow
  refine hK.out _ _ ?_ (fun hHeld => Tk.wrk ?_)
  · (try dsimp only); exact hq8
  clear hK K hq8
  refine Tk.fk (fun _ h => (sq_cells h)) 8 (h := ?_)
  refine Tk.fk (fun _ h => (sq_cells h)) 9 (h := ?_)
  refine Tk.one 10 (h := fun K hK => ?_)
  have hf4 := fz_grown HSA.out hgrow 1
  have hc4 := cell_grown HSA.out hgrow
  go_simp
  have HZ := Lib.hid (HSA.out.step HP.out.1 HP.out.2)
  refine hK.out _ _ ?_ (fun hHeld => Tk.wrk ?_)
  · (try dsimp only); exact sq_of HZ.out
  clear hK K hf4 hc4
  refine wpAnyH_done (by kernel_rfl) ?_ _
  refine NoPanic.normal ?_
  clear hHeld hgrow hown hat hlt4 HP HSA HSD HNW
  revert HZ
  generalize World.setCell _ _ _ = W10
  intro HZ
  obtain ⟨⟨p0, p1⟩, _, _⟩ := HZ.out.facts
  obtain ⟨⟨y0, y1, y2, y3⟩, _, _, _, _⟩ := HZ.out.rw.cells
  (try dsimp only at y0 y1 y2 y3)
  have hw1 : IntKind.i64.wrap ((((l).length + 1 : Nat) : Int) - 1) = (((l).length : Nat) : Int) := by have := HLEN.out; rw [IntKind.wrap_i64]; omega
  have hlen9 := HLEN.out
  go_wp2
  go_ret
  refine ⟨_, ?_, ?_, HZ.out.kr⟩
  · rw [HO.out]; rfl
  · rw [HO.out]; exact HZ.out.rw
 case st6t1 =>
  go_simp
  have HSA := Lib.hid (HSD.out.below ((Below.refl _ _).alloc (Nat.le_refl _) (.cells (NC N0) 55)))
  refine hK.out _ _ ?_ (fun hHeld => Tk.wrk ?_)
  · (try dsimp only); exact sq_of HSA.out
  clear hK K
  have HNW := Lib.hid (@news_row W8 N0)
  revert HSA hHeld HNW
  generalize World.alloc _ _ = W9
  intro HSA hHeld HNW
  have hPrev := hHeld
  refine Tk.one 4 (h := fun K hK => ?_)
  have hcl := HSA.out.rw.cells.1.2.1
  (try dsimp only at hcl)
  go_simp
  refine hK.out _ _ ?_ (fun hHeld => Tk.wrk ?_)
  · (try dsimp only); exact hPrev
  clear hK K hcl
  refine Tk.one 7 (h := fun K hK => ?_)
  (refine step_append_lies _ rfl _ _ 22 rfl w0.heap.size 55 i0 _ 10 80 Tryz.underlying22 hi hz0 hz1 hz2 rfl (by decide) _ _ _ rfl HSA.out.rw.own ⟨_, 0, none⟩ 1 1 (NC N0).toList rfl rfl HNW.out (one_row _) (by decide) (by have := HLEN.out; (try dsimp only at this ⊢); unfold maxLen; omega) (by have := HLEN.out; (try dsimp only at this ⊢); omega) HSA.out.rw.bel.size _ rfl ?_; intro gg gcap w4 hown hgrow hat hlt4)
  have HP0 := rw_push HSA.out.rw hown hgrow hat
  have HP := Lib.hid HP0
  clear HP0
  have hq8 := sq_grown HSA.out hgrow
  refine hK.out _ _ ?_ (fun hHeld => Tk.wrk ?_)
  · (try dsimp only); exact hq8
  clear hK K hq8
  refine Tk.fk (fun _ h => (sq_cells h)) 8 (h := ?_)
  refine Tk.fk (fun _ h => (sq_cells h)) 9 (h := ?_)
  refine Tk.one 10 (h := fun K hK => ?_)
  have hf4 := fz_grown HSA.out hgrow 1
  have hc4 := cell_grown HSA.out hgrow
  go_simp
  have HZ := Lib.hid (HSA.out.step HP.out.1 HP.out.2)
  refine hK.out _ _ ?_ (fun hHeld => Tk.wrk ?_)
  · (try dsimp only); exact sq_of HZ.out
  clear hK K hf4 hc4
  refine wpAnyH_done (by kernel_rfl) ?_ _
  refine NoPanic.normal ?_
  clear hHeld hgrow hown hat hlt4 HP HSA HSD HNW
  revert HZ
  generalize World.setCell _ _ _ = W10
  intro HZ
  obtain ⟨⟨p0, p1⟩, _, _⟩ := HZ.out.facts
  obtain ⟨⟨y0, y1, y2, y3⟩, _, _, _, _⟩ := HZ.out.rw.cells
  (try dsimp only at y0 y1 y2 y3)
  have hw1 : IntKind.i64.wrap ((((l).length + 1 : Nat) : Int) - 1) = (((l).length : Nat) : Int) := by have := HLEN.out; rw [IntKind.wrap_i64]; omega
  have hlen9 := HLEN.out
  go_wp2
  go_ret
  refine ⟨_, ?_, ?_, HZ.out.kr⟩
  · rw [HO.out]; rfl
  · rw [HO.out]; exact HZ.out.rw
set_option maxRecDepth 100000 in
set_option maxHeartbeats 3200000 in
theorem node_b (w0 : World) (b left : Nat) (lf : Int) (c : UInt8) (t s : List UInt8) (l : List Nd) (g : Int) (v : Value) (w : World) (hs : s = c :: t) (h : RW w0 b ⟨s, l, g, false⟩ v w) (hL : Lay w0) (hlen : s.length + l.length ≤ 100000) (hl : l.length ≤ 120) (hg0 : 0 ≤ g) (hg1 : g + s.length ≤ 100000) (hlf : lf = ((left + 1 : Nat) : Int)) (hle : left ≤ 1000) (IH : Below1 w0 b left)
  (hc : c = 94) :
  Calls Tryz.prog 44 #[PT b, E lf] w (NodeAns w0 b (left + 1) ⟨s, l, g, false⟩ v w) := by
 obtain ⟨ao, cap, rfl⟩ : ∃ ao cap, v = .slice ao l.length cap := own_slice h.own
 obtain ⟨i0, hi, hz0, hz1, hz2⟩ := info_parts infoNd
 have HO := Lib.hid (show nodeP (left + 1) ⟨s, l, g, false⟩ = pushP ⟨t, l, g, false⟩ ⟨2, z4, 0, 0, 0, 0, 0⟩ from by
  rw [hs]; rw [node_step hl]; subst hc; rfl)
 have hne : (s == []) = false := by rw [hs]; rfl
 have hlt : 0 < s.length := by rw [hs]; simp
 have hx : ((ByteArray.mk s.toArray)[0]'hlt) = c := by subst hs; rfl
 have hsz : (ByteArray.mk s.toArray).size = s.length := by simp [ByteArray.size]
 have hlt' : (0 : Int) < ((s.length : Nat) : Int) := by omega
 have e2 := ex_drop (l := s) 1
 have hr : s.drop 1 = t := by rw [hs]; rfl
 have htl : t.length + 1 = s.length := by rw [hs]; rfl
 rw [hr] at e2
 have h1' : (1 : Int) ≤ ((s.length : Nat) : Int) := by omega
 have h0 : (lf == 0) = false := by rw [beq_eq_false_iff_ne]; omega
 have hgt : ¬ (120 : Int) < ((l.length : Nat) : Int) := by omega
 have HL := Lib.hid hL
 have HR0 := Lib.hid h
 have HS0 := Lib.hid (st_start HR0.out lf t ⟨2, z4, 0, 0, 0, 0, 0⟩)
 dsimp only at HS0
 obtain ⟨⟨c0, c1, c2, c3⟩, f0, f1, f2, f3⟩ := HR0.out.cells
 skip
 dsimp only at c0 c1 c2 c3
 have hlb := HR0.out.lt
 have HLF := Lib.hid hlf
 clear hs h hL hr hlf
 subst hc
 skip
 go_enter Tryz.func44, Tryz.ntmps44
 skip
 go_wp2
 go_region
 go_wp2
 have HLEN := Lib.hid (show l.length ≤ 200000 by omega)
 refine at_world (p := fun W => ST w0 b w _ lf ⟨2, z4, 0, 0, 0, 0, 0⟩ _ _ W) HS0.out (fun W hW => ?_)
 have HSD := Lib.hid (hW.below (Below.refl _ _).drew)
 clear hW
 refine wp_region_noPanic ?_
 refine wp_region_held_drew (S := fun w' => SQ w b ⟨2, z4, 0, 0, 0, 0, 0⟩ w') (by kernel_rfl) ?_ (fun hHeld => ?_)
 · (try dsimp only); exact sq_of HSD.out
 revert HSD hHeld
 generalize World.drew _ = W8
 intro HSD hHeld
 refine Tk.fk (fun _ h => (sq_cells h)) 0 (h := ?_)
 refine Tk.fk (fun _ h => (sq_cells h)) 1 (h := ?_)
 refine Tk.fk (fun _ h => (sq_cells h)) 2 (h := ?_)
 refine Tk.fk (fun _ h => (sq_cells h)) 3 (h := ?_)
 refine Tk.fk (fun _ h => (sq_cells h)) 5 (h := ?_)
 refine wpAnyH_ready (rs := [4, 6]) (by kernel_rfl) (by simp) ?_
 refine AllReadyH.cons (o := ?o4t2) ?hi4t2 (fun K hK => ?st4t2) (AllReadyH.cons (o := ?o6t2) ?hi6t2 (fun K hK => ?st6t2) AllReadyH.nil)
 case hi4t2 => simp only [List.getElem?_toArray, List.getElem?_cons_succ, List.getElem?_cons_zero]; rfl
 case hi6t2 => simp only [List.getElem?_toArray, List.getElem?_cons_succ, List.getElem?_cons_zero]; rfl
 case st4t2 =>
  have hPrev := hHeld
  have hcl := HSD.out.rw.cells.1.2.1
  (try dsimp only at hcl)
  go_simp
  refine hK.out _ _ ?_ (fun hHeld => Tk.wrk ?_)
  · (try dsimp only); exact hPrev
  clear hK K hcl
  refine Tk.one 6 (h := fun K hK => ?_)
  go_simp
  have HSA := Lib.hid (HSD.out.below ((Below.refl _ _).alloc (Nat.le_refl _) (.cells (NC ⟨2, z4, 0, 0, 0, 0, 0⟩) 55)))
  refine hK.out _ _ ?_ (fun hHeld => Tk.wrk ?_)
  · (try dsimp only); exact sq_of HSA.out
  clear hK K
  have HNW := Lib.hid (@news_row W8 ⟨2, z4, 0, 0, 0, 0, 0⟩)
  revert HSA hHeld HNW
  generalize World.alloc _ _ = W9
  intro HSA hHeld HNW
  refine Tk.one 7 (h := fun K hK => ?_)
  (refine step_append_lies _ rfl _ _ 22 rfl w0.heap.size 55 i0 _ 10 80 Tryz.underlying22 hi hz0 hz1 hz2 rfl (by decide) _ _ _ rfl HSA.out.rw.own ⟨_, 0, none⟩ 1 1 (NC ⟨2, z4, 0, 0, 0, 0, 0⟩).toList rfl rfl HNW.out (one_row _) (by decide) (by have := HLEN.out; (try dsimp only at this ⊢); unfold maxLen; omega) (by have := HLEN.out; (try dsimp only at this ⊢); omega) HSA.out.rw.bel.size _ rfl ?_; intro gg gcap w4 hown hgrow hat hlt4)
  have HP0 := rw_push HSA.out.rw hown hgrow hat
  have HP := Lib.hid HP0
  clear HP0
  have hq8 := sq_grown HSA.out hgrow
  refine hK.out _ _ ?_ (fun hHeld => Tk.wrk ?_)
  · (try dsimp only); exact hq8
  clear hK K hq8
  refine Tk.fk (fun _ h => (sq_cells h)) 8 (h := ?_)
  refine Tk.fk (fun _ h => (sq_cells h)) 9 (h := ?_)
  refine Tk.one 10 (h := fun K hK => ?_)
  have hf4 := fz_grown HSA.out hgrow 1
  have hc4 := cell_grown HSA.out hgrow
  go_simp
  have HZ := Lib.hid (HSA.out.step HP.out.1 HP.out.2)
  refine hK.out _ _ ?_ (fun hHeld => Tk.wrk ?_)
  · (try dsimp only); exact sq_of HZ.out
  clear hK K hf4 hc4
  refine wpAnyH_done (by kernel_rfl) ?_ _
  refine NoPanic.normal ?_
  clear hHeld hgrow hown hat hlt4 HP HSA HSD HNW
  revert HZ
  generalize World.setCell _ _ _ = W10
  intro HZ
  obtain ⟨⟨p0, p1⟩, _, _⟩ := HZ.out.facts
  obtain ⟨⟨y0, y1, y2, y3⟩, _, _, _, _⟩ := HZ.out.rw.cells
  (try dsimp only at y0 y1 y2 y3)
  have hw1 : IntKind.i64.wrap ((((l).length + 1 : Nat) : Int) - 1) = (((l).length : Nat) : Int) := by have := HLEN.out; rw [IntKind.wrap_i64]; omega
  have hlen9 := HLEN.out
  go_wp2
  go_ret
  refine ⟨_, ?_, ?_, HZ.out.kr⟩
  · rw [HO.out]; rfl
  · rw [HO.out]; exact HZ.out.rw
 case st6t2 =>
  go_simp
  have HSA := Lib.hid (HSD.out.below ((Below.refl _ _).alloc (Nat.le_refl _) (.cells (NC ⟨2, z4, 0, 0, 0, 0, 0⟩) 55)))
  refine hK.out _ _ ?_ (fun hHeld => Tk.wrk ?_)
  · (try dsimp only); exact sq_of HSA.out
  clear hK K
  have HNW := Lib.hid (@news_row W8 ⟨2, z4, 0, 0, 0, 0, 0⟩)
  revert HSA hHeld HNW
  generalize World.alloc _ _ = W9
  intro HSA hHeld HNW
  have hPrev := hHeld
  refine Tk.one 4 (h := fun K hK => ?_)
  have hcl := HSA.out.rw.cells.1.2.1
  (try dsimp only at hcl)
  go_simp
  refine hK.out _ _ ?_ (fun hHeld => Tk.wrk ?_)
  · (try dsimp only); exact hPrev
  clear hK K hcl
  refine Tk.one 7 (h := fun K hK => ?_)
  (refine step_append_lies _ rfl _ _ 22 rfl w0.heap.size 55 i0 _ 10 80 Tryz.underlying22 hi hz0 hz1 hz2 rfl (by decide) _ _ _ rfl HSA.out.rw.own ⟨_, 0, none⟩ 1 1 (NC ⟨2, z4, 0, 0, 0, 0, 0⟩).toList rfl rfl HNW.out (one_row _) (by decide) (by have := HLEN.out; (try dsimp only at this ⊢); unfold maxLen; omega) (by have := HLEN.out; (try dsimp only at this ⊢); omega) HSA.out.rw.bel.size _ rfl ?_; intro gg gcap w4 hown hgrow hat hlt4)
  have HP0 := rw_push HSA.out.rw hown hgrow hat
  have HP := Lib.hid HP0
  clear HP0
  have hq8 := sq_grown HSA.out hgrow
  refine hK.out _ _ ?_ (fun hHeld => Tk.wrk ?_)
  · (try dsimp only); exact hq8
  clear hK K hq8
  refine Tk.fk (fun _ h => (sq_cells h)) 8 (h := ?_)
  refine Tk.fk (fun _ h => (sq_cells h)) 9 (h := ?_)
  refine Tk.one 10 (h := fun K hK => ?_)
  have hf4 := fz_grown HSA.out hgrow 1
  have hc4 := cell_grown HSA.out hgrow
  go_simp
  have HZ := Lib.hid (HSA.out.step HP.out.1 HP.out.2)
  refine hK.out _ _ ?_ (fun hHeld => Tk.wrk ?_)
  · (try dsimp only); exact sq_of HZ.out
  clear hK K hf4 hc4
  refine wpAnyH_done (by kernel_rfl) ?_ _
  refine NoPanic.normal ?_
  clear hHeld hgrow hown hat hlt4 HP HSA HSD HNW
  revert HZ
  generalize World.setCell _ _ _ = W10
  intro HZ
  obtain ⟨⟨p0, p1⟩, _, _⟩ := HZ.out.facts
  obtain ⟨⟨y0, y1, y2, y3⟩, _, _, _, _⟩ := HZ.out.rw.cells
  (try dsimp only at y0 y1 y2 y3)
  have hw1 : IntKind.i64.wrap ((((l).length + 1 : Nat) : Int) - 1) = (((l).length : Nat) : Int) := by have := HLEN.out; rw [IntKind.wrap_i64]; omega
  have hlen9 := HLEN.out
  go_wp2
  go_ret
  refine ⟨_, ?_, ?_, HZ.out.kr⟩
  · rw [HO.out]; rfl
  · rw [HO.out]; exact HZ.out.rw
set_option maxRecDepth 100000 in
set_option maxHeartbeats 3200000 in
theorem node_d (w0 : World) (b left : Nat) (lf : Int) (c : UInt8) (t s : List UInt8) (l : List Nd) (g : Int) (v : Value) (w : World) (hs : s = c :: t) (h : RW w0 b ⟨s, l, g, false⟩ v w) (hL : Lay w0) (hlen : s.length + l.length ≤ 100000) (hl : l.length ≤ 120) (hg0 : 0 ≤ g) (hg1 : g + s.length ≤ 100000) (hlf : lf = ((left + 1 : Nat) : Int)) (hle : left ≤ 1000) (IH : Below1 w0 b left)
  (hc : c = 36) :
  Calls Tryz.prog 44 #[PT b, E lf] w (NodeAns w0 b (left + 1) ⟨s, l, g, false⟩ v w) := by
 obtain ⟨ao, cap, rfl⟩ : ∃ ao cap, v = .slice ao l.length cap := own_slice h.own
 obtain ⟨i0, hi, hz0, hz1, hz2⟩ := info_parts infoNd
 have HO := Lib.hid (show nodeP (left + 1) ⟨s, l, g, false⟩ = pushP ⟨t, l, g, false⟩ ⟨3, z4, 0, 0, 0, 0, 0⟩ from by
  rw [hs]; rw [node_step hl]; subst hc; rfl)
 have hne : (s == []) = false := by rw [hs]; rfl
 have hlt : 0 < s.length := by rw [hs]; simp
 have hx : ((ByteArray.mk s.toArray)[0]'hlt) = c := by subst hs; rfl
 have hsz : (ByteArray.mk s.toArray).size = s.length := by simp [ByteArray.size]
 have hlt' : (0 : Int) < ((s.length : Nat) : Int) := by omega
 have e2 := ex_drop (l := s) 1
 have hr : s.drop 1 = t := by rw [hs]; rfl
 have htl : t.length + 1 = s.length := by rw [hs]; rfl
 rw [hr] at e2
 have h1' : (1 : Int) ≤ ((s.length : Nat) : Int) := by omega
 have h0 : (lf == 0) = false := by rw [beq_eq_false_iff_ne]; omega
 have hgt : ¬ (120 : Int) < ((l.length : Nat) : Int) := by omega
 have HL := Lib.hid hL
 have HR0 := Lib.hid h
 have HS0 := Lib.hid (st_start HR0.out lf t ⟨3, z4, 0, 0, 0, 0, 0⟩)
 dsimp only at HS0
 obtain ⟨⟨c0, c1, c2, c3⟩, f0, f1, f2, f3⟩ := HR0.out.cells
 skip
 dsimp only at c0 c1 c2 c3
 have hlb := HR0.out.lt
 have HLF := Lib.hid hlf
 clear hs h hL hr hlf
 subst hc
 skip
 go_enter Tryz.func44, Tryz.ntmps44
 skip
 go_wp2
 go_region
 go_wp2
 have HLEN := Lib.hid (show l.length ≤ 200000 by omega)
 refine at_world (p := fun W => ST w0 b w _ lf ⟨3, z4, 0, 0, 0, 0, 0⟩ _ _ W) HS0.out (fun W hW => ?_)
 have HSD := Lib.hid (hW.below (Below.refl _ _).drew)
 clear hW
 refine wp_region_noPanic ?_
 refine wp_region_held_drew (S := fun w' => SQ w b ⟨3, z4, 0, 0, 0, 0, 0⟩ w') (by kernel_rfl) ?_ (fun hHeld => ?_)
 · (try dsimp only); exact sq_of HSD.out
 revert HSD hHeld
 generalize World.drew _ = W8
 intro HSD hHeld
 refine Tk.fk (fun _ h => (sq_cells h)) 0 (h := ?_)
 refine Tk.fk (fun _ h => (sq_cells h)) 1 (h := ?_)
 refine Tk.fk (fun _ h => (sq_cells h)) 2 (h := ?_)
 refine Tk.fk (fun _ h => (sq_cells h)) 3 (h := ?_)
 refine Tk.fk (fun _ h => (sq_cells h)) 5 (h := ?_)
 refine wpAnyH_ready (rs := [4, 6]) (by kernel_rfl) (by simp) ?_
 refine AllReadyH.cons (o := ?o4t3) ?hi4t3 (fun K hK => ?st4t3) (AllReadyH.cons (o := ?o6t3) ?hi6t3 (fun K hK => ?st6t3) AllReadyH.nil)
 case hi4t3 => simp only [List.getElem?_toArray, List.getElem?_cons_succ, List.getElem?_cons_zero]; rfl
 case hi6t3 => simp only [List.getElem?_toArray, List.getElem?_cons_succ, List.getElem?_cons_zero]; rfl
 case st4t3 =>
  have hPrev := hHeld
  have hcl := HSD.out.rw.cells.1.2.1
  (try dsimp only at hcl)
  go_simp
  refine hK.out _ _ ?_ (fun hHeld => Tk.wrk ?_)
  · (try dsimp only); exact hPrev
  clear hK K hcl
  refine Tk.one 6 (h := fun K hK => ?_)
  go_simp
  have HSA := Lib.hid (HSD.out.below ((Below.refl _ _).alloc (Nat.le_refl _) (.cells (NC ⟨3, z4, 0, 0, 0, 0, 0⟩) 55)))
  refine hK.out _ _ ?_ (fun hHeld => Tk.wrk ?_)
  · (try dsimp only); exact sq_of HSA.out
  clear hK K
  have HNW := Lib.hid (@news_row W8 ⟨3, z4, 0, 0, 0, 0, 0⟩)
  revert HSA hHeld HNW
  generalize World.alloc _ _ = W9
  intro HSA hHeld HNW
  refine Tk.one 7 (h := fun K hK => ?_)
  (refine step_append_lies _ rfl _ _ 22 rfl w0.heap.size 55 i0 _ 10 80 Tryz.underlying22 hi hz0 hz1 hz2 rfl (by decide) _ _ _ rfl HSA.out.rw.own ⟨_, 0, none⟩ 1 1 (NC ⟨3, z4, 0, 0, 0, 0, 0⟩).toList rfl rfl HNW.out (one_row _) (by decide) (by have := HLEN.out; (try dsimp only at this ⊢); unfold maxLen; omega) (by have := HLEN.out; (try dsimp only at this ⊢); omega) HSA.out.rw.bel.size _ rfl ?_; intro gg gcap w4 hown hgrow hat hlt4)
  have HP0 := rw_push HSA.out.rw hown hgrow hat
  have HP := Lib.hid HP0
  clear HP0
  have hq8 := sq_grown HSA.out hgrow
  refine hK.out _ _ ?_ (fun hHeld => Tk.wrk ?_)
  · (try dsimp only); exact hq8
  clear hK K hq8
  refine Tk.fk (fun _ h => (sq_cells h)) 8 (h := ?_)
  refine Tk.fk (fun _ h => (sq_cells h)) 9 (h := ?_)
  refine Tk.one 10 (h := fun K hK => ?_)
  have hf4 := fz_grown HSA.out hgrow 1
  have hc4 := cell_grown HSA.out hgrow
  go_simp
  have HZ := Lib.hid (HSA.out.step HP.out.1 HP.out.2)
  refine hK.out _ _ ?_ (fun hHeld => Tk.wrk ?_)
  · (try dsimp only); exact sq_of HZ.out
  clear hK K hf4 hc4
  refine wpAnyH_done (by kernel_rfl) ?_ _
  refine NoPanic.normal ?_
  clear hHeld hgrow hown hat hlt4 HP HSA HSD HNW
  revert HZ
  generalize World.setCell _ _ _ = W10
  intro HZ
  obtain ⟨⟨p0, p1⟩, _, _⟩ := HZ.out.facts
  obtain ⟨⟨y0, y1, y2, y3⟩, _, _, _, _⟩ := HZ.out.rw.cells
  (try dsimp only at y0 y1 y2 y3)
  have hw1 : IntKind.i64.wrap ((((l).length + 1 : Nat) : Int) - 1) = (((l).length : Nat) : Int) := by have := HLEN.out; rw [IntKind.wrap_i64]; omega
  have hlen9 := HLEN.out
  go_wp2
  go_ret
  refine ⟨_, ?_, ?_, HZ.out.kr⟩
  · rw [HO.out]; rfl
  · rw [HO.out]; exact HZ.out.rw
 case st6t3 =>
  go_simp
  have HSA := Lib.hid (HSD.out.below ((Below.refl _ _).alloc (Nat.le_refl _) (.cells (NC ⟨3, z4, 0, 0, 0, 0, 0⟩) 55)))
  refine hK.out _ _ ?_ (fun hHeld => Tk.wrk ?_)
  · (try dsimp only); exact sq_of HSA.out
  clear hK K
  have HNW := Lib.hid (@news_row W8 ⟨3, z4, 0, 0, 0, 0, 0⟩)
  revert HSA hHeld HNW
  generalize World.alloc _ _ = W9
  intro HSA hHeld HNW
  have hPrev := hHeld
  refine Tk.one 4 (h := fun K hK => ?_)
  have hcl := HSA.out.rw.cells.1.2.1
  (try dsimp only at hcl)
  go_simp
  refine hK.out _ _ ?_ (fun hHeld => Tk.wrk ?_)
  · (try dsimp only); exact hPrev
  clear hK K hcl
  refine Tk.one 7 (h := fun K hK => ?_)
  (refine step_append_lies _ rfl _ _ 22 rfl w0.heap.size 55 i0 _ 10 80 Tryz.underlying22 hi hz0 hz1 hz2 rfl (by decide) _ _ _ rfl HSA.out.rw.own ⟨_, 0, none⟩ 1 1 (NC ⟨3, z4, 0, 0, 0, 0, 0⟩).toList rfl rfl HNW.out (one_row _) (by decide) (by have := HLEN.out; (try dsimp only at this ⊢); unfold maxLen; omega) (by have := HLEN.out; (try dsimp only at this ⊢); omega) HSA.out.rw.bel.size _ rfl ?_; intro gg gcap w4 hown hgrow hat hlt4)
  have HP0 := rw_push HSA.out.rw hown hgrow hat
  have HP := Lib.hid HP0
  clear HP0
  have hq8 := sq_grown HSA.out hgrow
  refine hK.out _ _ ?_ (fun hHeld => Tk.wrk ?_)
  · (try dsimp only); exact hq8
  clear hK K hq8
  refine Tk.fk (fun _ h => (sq_cells h)) 8 (h := ?_)
  refine Tk.fk (fun _ h => (sq_cells h)) 9 (h := ?_)
  refine Tk.one 10 (h := fun K hK => ?_)
  have hf4 := fz_grown HSA.out hgrow 1
  have hc4 := cell_grown HSA.out hgrow
  go_simp
  have HZ := Lib.hid (HSA.out.step HP.out.1 HP.out.2)
  refine hK.out _ _ ?_ (fun hHeld => Tk.wrk ?_)
  · (try dsimp only); exact sq_of HZ.out
  clear hK K hf4 hc4
  refine wpAnyH_done (by kernel_rfl) ?_ _
  refine NoPanic.normal ?_
  clear hHeld hgrow hown hat hlt4 HP HSA HSD HNW
  revert HZ
  generalize World.setCell _ _ _ = W10
  intro HZ
  obtain ⟨⟨p0, p1⟩, _, _⟩ := HZ.out.facts
  obtain ⟨⟨y0, y1, y2, y3⟩, _, _, _, _⟩ := HZ.out.rw.cells
  (try dsimp only at y0 y1 y2 y3)
  have hw1 : IntKind.i64.wrap ((((l).length + 1 : Nat) : Int) - 1) = (((l).length : Nat) : Int) := by have := HLEN.out; rw [IntKind.wrap_i64]; omega
  have hlen9 := HLEN.out
  go_wp2
  go_ret
  refine ⟨_, ?_, ?_, HZ.out.kr⟩
  · rw [HO.out]; rfl
  · rw [HO.out]; exact HZ.out.rw
set_option maxRecDepth 100000 in
set_option maxHeartbeats 3200000 in
theorem node_z (w0 : World) (b left : Nat) (lf : Int) (c : UInt8) (t s : List UInt8) (l : List Nd) (g : Int) (v : Value) (w : World) (hs : s = c :: t) (h : RW w0 b ⟨s, l, g, false⟩ v w) (hL : Lay w0) (hlen : s.length + l.length ≤ 100000) (hl : l.length ≤ 120) (hg0 : 0 ≤ g) (hg1 : g + s.length ≤ 100000) (hlf : lf = ((left + 1 : Nat) : Int)) (hle : left ≤ 1000) (IH : Below1 w0 b left)
  (h101 : c ≠ 101) (h91 : c ≠ 91) (h94 : c ≠ 94) (h36 : c ≠ 36) (h38 : c ≠ 38) (h124 : c ≠ 124) (h42 : c ≠ 42) (h40 : c ≠ 40) (h92 : c ≠ 92) :
  Calls Tryz.prog 44 #[PT b, E lf] w (NodeAns w0 b (left + 1) ⟨s, l, g, false⟩ v w) := by
 obtain ⟨ao, cap, rfl⟩ : ∃ ao cap, v = .slice ao l.length cap := own_slice h.own
 obtain ⟨i0, hi, hz0, hz1, hz2⟩ := info_parts infoNd
 have HO := Lib.hid (show nodeP (left + 1) ⟨s, l, g, false⟩ = pushP ⟨t, l, g, true⟩ N0 from by
  rw [hs]; rw [node_step hl]; rw [if_neg h101, if_neg h91, if_neg h94, if_neg h36, if_neg (by rintro (q | q); exact h38 q; exact h124 q), if_neg h42, if_neg h40, if_neg h92])
 have hne : (s == []) = false := by rw [hs]; rfl
 have hlt : 0 < s.length := by rw [hs]; simp
 have hx : ((ByteArray.mk s.toArray)[0]'hlt) = c := by subst hs; rfl
 have hsz : (ByteArray.mk s.toArray).size = s.length := by simp [ByteArray.size]
 have hlt' : (0 : Int) < ((s.length : Nat) : Int) := by omega
 have e2 := ex_drop (l := s) 1
 have hr : s.drop 1 = t := by rw [hs]; rfl
 have htl : t.length + 1 = s.length := by rw [hs]; rfl
 rw [hr] at e2
 have h1' : (1 : Int) ≤ ((s.length : Nat) : Int) := by omega
 have h0 : (lf == 0) = false := by rw [beq_eq_false_iff_ne]; omega
 have hgt : ¬ (120 : Int) < ((l.length : Nat) : Int) := by omega
 have HL := Lib.hid hL
 have HR0 := Lib.hid h
 have HS0 := Lib.hid (st_bad HR0.out lf t N0 true)
 dsimp only at HS0
 obtain ⟨⟨c0, c1, c2, c3⟩, f0, f1, f2, f3⟩ := HR0.out.cells
 have hr9 := (st_start0 HR0.out lf t ⟨0, z4, 0, 0, 0, 0, 0⟩).rw.cells
 have hz3 : ((((w.setCell ⟨b, 0, none⟩ (.string ⟨t.toArray⟩)).alloc (.cells #[PT b] 86)).alloc (.cells #[E lf] 3)).alloc (.cells #[.int .i64 0, .int .u64 0, .int .u64 0, .int .u64 0, .int .u64 0, .int .i64 0, .int .i64 0, .int .i64 0, .int .i64 0, .int .i64 0] 55)).frozen? ⟨b, 3, none⟩ = false := hr9.2.2.2.2
 have hc3 : ((((w.setCell ⟨b, 0, none⟩ (.string ⟨t.toArray⟩)).alloc (.cells #[PT b] 86)).alloc (.cells #[E lf] 3)).alloc (.cells #[.int .i64 0, .int .u64 0, .int .u64 0, .int .u64 0, .int .u64 0, .int .i64 0, .int .i64 0, .int .i64 0, .int .i64 0, .int .i64 0] 55)).cell? ⟨b, 3, none⟩ = some (.bool false) := hr9.1.2.2.2
 clear hr9
 dsimp only at c0 c1 c2 c3
 have hlb := HR0.out.lt
 have HLF := Lib.hid hlf
 clear hs h hL hr hlf
 have k101 : (((c.toNat : Nat) : Int) == 101) = false := by rw [beq_eq_false_iff_ne]; intro q; exact h101 (UInt8.toNat_inj.1 (by show c.toNat = 101; omega))
 have k91 : (((c.toNat : Nat) : Int) == 91) = false := by rw [beq_eq_false_iff_ne]; intro q; exact h91 (UInt8.toNat_inj.1 (by show c.toNat = 91; omega))
 have k94 : (((c.toNat : Nat) : Int) == 94) = false := by rw [beq_eq_false_iff_ne]; intro q; exact h94 (UInt8.toNat_inj.1 (by show c.toNat = 94; omega))
 have k36 : (((c.toNat : Nat) : Int) == 36) = false := by rw [beq_eq_false_iff_ne]; intro q; exact h36 (UInt8.toNat_inj.1 (by show c.toNat = 36; omega))
 have k38 : (((c.toNat : Nat) : Int) == 38) = false := by rw [beq_eq_false_iff_ne]; intro q; exact h38 (UInt8.toNat_inj.1 (by show c.toNat = 38; omega))
 have k124 : (((c.toNat : Nat) : Int) == 124) = false := by rw [beq_eq_false_iff_ne]; intro q; exact h124 (UInt8.toNat_inj.1 (by show c.toNat = 124; omega))
 have k42 : (((c.toNat : Nat) : Int) == 42) = false := by rw [beq_eq_false_iff_ne]; intro q; exact h42 (UInt8.toNat_inj.1 (by show c.toNat = 42; omega))
 have k40 : (((c.toNat : Nat) : Int) == 40) = false := by rw [beq_eq_false_iff_ne]; intro q; exact h40 (UInt8.toNat_inj.1 (by show c.toNat = 40; omega))
 have k92 : (((c.toNat : Nat) : Int) == 92) = false := by rw [beq_eq_false_iff_ne]; intro q; exact h92 (UInt8.toNat_inj.1 (by show c.toNat = 92; omega))
 clear h101 h91 h94 h36 h38 h124 h42 h40 h92
 skip
 go_enter Tryz.func44, Tryz.ntmps44
 skip
 go_wp2
 go_region
 go_wp2
 have HLEN := Lib.hid (show l.length ≤ 200000 by omega)
 refine at_world (p := fun W => ST w0 b w _ lf N0 _ _ W) HS0.out (fun W hW => ?_)
 have HSD := Lib.hid (hW.below (Below.refl _ _).drew)
 clear hW
 refine wp_region_noPanic ?_
 refine wp_region_held_drew (S := fun w' => SQ w b N0 w') (by kernel_rfl) ?_ (fun hHeld => ?_)
 · (try dsimp only); exact sq_of HSD.out
 revert HSD hHeld
 generalize World.drew _ = W8
 intro HSD hHeld
 refine Tk.fk (fun _ h => (sq_cells h)) 0 (h := ?_)
 refine Tk.fk (fun _ h => (sq_cells h)) 1 (h := ?_)
 refine Tk.fk (fun _ h => (sq_cells h)) 2 (h := ?_)
 refine Tk.fk (fun _ h => (sq_cells h)) 3 (h := ?_)
 refine Tk.fk (fun _ h => (sq_cells h)) 5 (h := ?_)
 refine wpAnyH_ready (rs := [4, 6]) (by kernel_rfl) (by simp) ?_
 refine AllReadyH.cons (o := ?o4t4) ?hi4t4 (fun K hK => ?st4t4) (AllReadyH.cons (o := ?o6t4) ?hi6t4 (fun K hK => ?st6t4) AllReadyH.nil)
 case hi4t4 => simp only [List.getElem?_toArray, List.getElem?_cons_succ, List.getElem?_cons_zero]; rfl
 case hi6t4 => simp only [List.getElem?_toArray, List.getElem?_cons_succ, List.getElem?_cons_zero]; rfl
 case st4t4 =>
  have hPrev := hHeld
  have hcl := HSD.out.rw.cells.1.2.1
  (try dsimp only at hcl)
  go_simp
  refine hK.out _ _ ?_ (fun hHeld => Tk.wrk ?_)
  · (try dsimp only); exact hPrev
  clear hK K hcl
  refine Tk.one 6 (h := fun K hK => ?_)
  go_simp
  have HSA := Lib.hid (HSD.out.below ((Below.refl _ _).alloc (Nat.le_refl _) (.cells (NC N0) 55)))
  refine hK.out _ _ ?_ (fun hHeld => Tk.wrk ?_)
  · (try dsimp only); exact sq_of HSA.out
  clear hK K
  have HNW := Lib.hid (@news_row W8 N0)
  revert HSA hHeld HNW
  generalize World.alloc _ _ = W9
  intro HSA hHeld HNW
  refine Tk.one 7 (h := fun K hK => ?_)
  (refine step_append_lies _ rfl _ _ 22 rfl w0.heap.size 55 i0 _ 10 80 Tryz.underlying22 hi hz0 hz1 hz2 rfl (by decide) _ _ _ rfl HSA.out.rw.own ⟨_, 0, none⟩ 1 1 (NC N0).toList rfl rfl HNW.out (one_row _) (by decide) (by have := HLEN.out; (try dsimp only at this ⊢); unfold maxLen; omega) (by have := HLEN.out; (try dsimp only at this ⊢); omega) HSA.out.rw.bel.size _ rfl ?_; intro gg gcap w4 hown hgrow hat hlt4)
  have HP0 := rw_push HSA.out.rw hown hgrow hat
  have HP := Lib.hid HP0
  clear HP0
  have hq8 := sq_grown HSA.out hgrow
  refine hK.out _ _ ?_ (fun hHeld => Tk.wrk ?_)
  · (try dsimp only); exact hq8
  clear hK K hq8
  refine Tk.fk (fun _ h => (sq_cells h)) 8 (h := ?_)
  refine Tk.fk (fun _ h => (sq_cells h)) 9 (h := ?_)
  refine Tk.one 10 (h := fun K hK => ?_)
  have hf4 := fz_grown HSA.out hgrow 1
  have hc4 := cell_grown HSA.out hgrow
  go_simp
  have HZ := Lib.hid (HSA.out.step HP.out.1 HP.out.2)
  refine hK.out _ _ ?_ (fun hHeld => Tk.wrk ?_)
  · (try dsimp only); exact sq_of HZ.out
  clear hK K hf4 hc4
  refine wpAnyH_done (by kernel_rfl) ?_ _
  refine NoPanic.normal ?_
  clear hHeld hgrow hown hat hlt4 HP HSA HSD HNW
  revert HZ
  generalize World.setCell _ _ _ = W10
  intro HZ
  obtain ⟨⟨p0, p1⟩, _, _⟩ := HZ.out.facts
  obtain ⟨⟨y0, y1, y2, y3⟩, _, _, _, _⟩ := HZ.out.rw.cells
  (try dsimp only at y0 y1 y2 y3)
  have hw1 : IntKind.i64.wrap ((((l).length + 1 : Nat) : Int) - 1) = (((l).length : Nat) : Int) := by have := HLEN.out; rw [IntKind.wrap_i64]; omega
  have hlen9 := HLEN.out
  go_wp2
  go_ret
  refine ⟨_, ?_, ?_, HZ.out.kr⟩
  · rw [HO.out]; rfl
  · rw [HO.out]; exact HZ.out.rw
 case st6t4 =>
  go_simp
  have HSA := Lib.hid (HSD.out.below ((Below.refl _ _).alloc (Nat.le_refl _) (.cells (NC N0) 55)))
  refine hK.out _ _ ?_ (fun hHeld => Tk.wrk ?_)
  · (try dsimp only); exact sq_of HSA.out
  clear hK K
  have HNW := Lib.hid (@news_row W8 N0)
  revert HSA hHeld HNW
  generalize World.alloc _ _ = W9
  intro HSA hHeld HNW
  have hPrev := hHeld
  refine Tk.one 4 (h := fun K hK => ?_)
  have hcl := HSA.out.rw.cells.1.2.1
  (try dsimp only at hcl)
  go_simp
  refine hK.out _ _ ?_ (fun hHeld => Tk.wrk ?_)
  · (try dsimp only); exact hPrev
  clear hK K hcl
  refine Tk.one 7 (h := fun K hK => ?_)
  (refine step_append_lies _ rfl _ _ 22 rfl w0.heap.size 55 i0 _ 10 80 Tryz.underlying22 hi hz0 hz1 hz2 rfl (by decide) _ _ _ rfl HSA.out.rw.own ⟨_, 0, none⟩ 1 1 (NC N0).toList rfl rfl HNW.out (one_row _) (by decide) (by have := HLEN.out; (try dsimp only at this ⊢); unfold maxLen; omega) (by have := HLEN.out; (try dsimp only at this ⊢); omega) HSA.out.rw.bel.size _ rfl ?_; intro gg gcap w4 hown hgrow hat hlt4)
  have HP0 := rw_push HSA.out.rw hown hgrow hat
  have HP := Lib.hid HP0
  clear HP0
  have hq8 := sq_grown HSA.out hgrow
  refine hK.out _ _ ?_ (fun hHeld => Tk.wrk ?_)
  · (try dsimp only); exact hq8
  clear hK K hq8
  refine Tk.fk (fun _ h => (sq_cells h)) 8 (h := ?_)
  refine Tk.fk (fun _ h => (sq_cells h)) 9 (h := ?_)
  refine Tk.one 10 (h := fun K hK => ?_)
  have hf4 := fz_grown HSA.out hgrow 1
  have hc4 := cell_grown HSA.out hgrow
  go_simp
  have HZ := Lib.hid (HSA.out.step HP.out.1 HP.out.2)
  refine hK.out _ _ ?_ (fun hHeld => Tk.wrk ?_)
  · (try dsimp only); exact sq_of HZ.out
  clear hK K hf4 hc4
  refine wpAnyH_done (by kernel_rfl) ?_ _
  refine NoPanic.normal ?_
  clear hHeld hgrow hown hat hlt4 HP HSA HSD HNW
  revert HZ
  generalize World.setCell _ _ _ = W10
  intro HZ
  obtain ⟨⟨p0, p1⟩, _, _⟩ := HZ.out.facts
  obtain ⟨⟨y0, y1, y2, y3⟩, _, _, _, _⟩ := HZ.out.rw.cells
  (try dsimp only at y0 y1 y2 y3)
  have hw1 : IntKind.i64.wrap ((((l).length + 1 : Nat) : Int) - 1) = (((l).length : Nat) : Int) := by have := HLEN.out; rw [IntKind.wrap_i64]; omega
  have hlen9 := HLEN.out
  go_wp2
  go_ret
  refine ⟨_, ?_, ?_, HZ.out.kr⟩
  · rw [HO.out]; rfl
  · rw [HO.out]; exact HZ.out.rw
set_option maxRecDepth 100000 in
set_option maxHeartbeats 3200000 in
theorem node_s (w0 : World) (b left : Nat) (lf : Int) (c : UInt8) (t s : List UInt8) (l : List Nd) (g : Int) (v : Value) (w : World) (hs : s = c :: t) (h : RW w0 b ⟨s, l, g, false⟩ v w) (hL : Lay w0) (hlen : s.length + l.length ≤ 100000) (hl : l.length ≤ 120) (hg0 : 0 ≤ g) (hg1 : g + s.length ≤ 100000) (hlf : lf = ((left + 1 : Nat) : Int)) (hle : left ≤ 1000) (IH : Below1 w0 b left)
  (hc : c = 91) :
  Calls Tryz.prog 44 #[PT b, E lf] w (NodeAns w0 b (left + 1) ⟨s, l, g, false⟩ v w) := by
 obtain ⟨ao, cap, rfl⟩ : ∃ ao cap, v = .slice ao l.length cap := own_slice h.own
 obtain ⟨i0, hi, hz0, hz1, hz2⟩ := info_parts infoNd
 have HO := Lib.hid (show nodeP (left + 1) ⟨s, l, g, false⟩ = pushP (setP ⟨t, l, g, false⟩).1 ⟨1, (setP ⟨t, l, g, false⟩).2, 0, 0, 0, 0, 0⟩ from by
  rw [hs]; rw [node_step hl]; subst hc; rfl)
 have hne : (s == []) = false := by rw [hs]; rfl
 have hlt : 0 < s.length := by rw [hs]; simp
 have hx : ((ByteArray.mk s.toArray)[0]'hlt) = c := by subst hs; rfl
 have hsz : (ByteArray.mk s.toArray).size = s.length := by simp [ByteArray.size]
 have hlt' : (0 : Int) < ((s.length : Nat) : Int) := by omega
 have e2 := ex_drop (l := s) 1
 have hr : s.drop 1 = t := by rw [hs]; rfl
 have htl : t.length + 1 = s.length := by rw [hs]; rfl
 rw [hr] at e2
 have h1' : (1 : Int) ≤ ((s.length : Nat) : Int) := by omega
 have h0 : (lf == 0) = false := by rw [beq_eq_false_iff_ne]; omega
 have hgt : ¬ (120 : Int) < ((l.length : Nat) : Int) := by omega
 have HL := Lib.hid hL
 have HR0 := Lib.hid h
 have HS0 := Lib.hid (st_start HR0.out lf t N0)
 dsimp only at HS0
 obtain ⟨⟨c0, c1, c2, c3⟩, f0, f1, f2, f3⟩ := HR0.out.cells
 skip
 dsimp only at c0 c1 c2 c3
 have hlb := HR0.out.lt
 have HLF := Lib.hid hlf
 clear hs h hL hr hlf
 subst hc
 skip
 go_enter Tryz.func44, Tryz.ntmps44
 skip
 go_wp2
 go_region
 have HB := Lib.hid (rbytes_any w0 b ⟨t, l, g, false⟩ _ _ HS0.out.rw HL.out (by dsimp only; omega))
 have HLL := Lib.hid (show (setP ⟨t, l, g, false⟩).1.l = l from rfl)
 have hsv := Go.Proofs.YtlicoffnjphphaaGreatDoor.St.SV_eq (wf_set ⟨t, l, g, false⟩)
 generalize setP ⟨t, l, g, false⟩ = q at *
 obtain ⟨r, z⟩ := q
 dsimp only at HB HLL hsv HO
 rw [hsv] at HB
 clear hsv
 go_wp2_with (go_at_call 59; refine HB.out.mono ?_; rintro e w2 ⟨rfl, hr2, hk2⟩; have HS2 := Lib.hid (HS0.out.step hr2 hk2); clear hr2 hk2; obtain ⟨⟨x2p, x2l⟩, ⟨x20, x21, x22, x23, x24, x25, x26, x27, x28, x29⟩, x2z⟩ := HS2.out.facts; obtain ⟨⟨x2a, x2b, x2c, x2d⟩, x2e, x2f, x2g, x2h⟩ := HS2.out.rw.cells; (try dsimp only at x2a x2b x2c x2d))
 have HSa := Lib.hid ((((((((((HS2.out.node (i := 0) (u := E 1) (m := ⟨1, [0, 0, 0, 0], 0, 0, 0, 0, 0⟩) rfl).node (i := 1) (u := U (word z 0)) (m := ⟨1, [word z 0, 0, 0, 0], 0, 0, 0, 0, 0⟩) rfl).node (i := 2) (u := U (word z 1)) (m := ⟨1, [word z 0, word z 1, 0, 0], 0, 0, 0, 0, 0⟩) rfl).node (i := 3) (u := U (word z 2)) (m := ⟨1, [word z 0, word z 1, word z 2, 0], 0, 0, 0, 0, 0⟩) rfl).node (i := 4) (u := U (word z 3)) (m := ⟨1, z, 0, 0, 0, 0, 0⟩) rfl).node (i := 5) (u := E 0) (m := ⟨1, z, 0, 0, 0, 0, 0⟩) rfl).node (i := 6) (u := E 0) (m := ⟨1, z, 0, 0, 0, 0, 0⟩) rfl).node (i := 7) (u := E 0) (m := ⟨1, z, 0, 0, 0, 0, 0⟩) rfl).node (i := 8) (u := E 0) (m := ⟨1, z, 0, 0, 0, 0, 0⟩) rfl).node (i := 9) (u := E 0) (m := ⟨1, z, 0, 0, 0, 0, 0⟩) rfl)
 clear x2p x2l x20 x21 x22 x23 x24 x25 x26 x27 x28 x29 x2z x2a x2b x2c x2d x2e x2f x2g x2h
 have HLEN := Lib.hid (show r.l.length ≤ 200000 by rw [HLL.out]; omega)
 refine at_world (p := fun W => ST w0 b w _ lf ⟨1, z, 0, 0, 0, 0, 0⟩ _ _ W) HSa.out (fun W hW => ?_)
 have HSD := Lib.hid (hW.below (Below.refl _ _).drew)
 clear hW
 refine wp_region_noPanic ?_
 refine wp_region_held_drew (S := fun w' => SQ w b ⟨1, z, 0, 0, 0, 0, 0⟩ w') (by kernel_rfl) ?_ (fun hHeld => ?_)
 · (try dsimp only); exact sq_of HSD.out
 revert HSD hHeld
 generalize World.drew _ = W8
 intro HSD hHeld
 refine Tk.fk (fun _ h => (sq_cells h)) 0 (h := ?_)
 refine Tk.fk (fun _ h => (sq_cells h)) 1 (h := ?_)
 refine Tk.fk (fun _ h => (sq_cells h)) 2 (h := ?_)
 refine Tk.fk (fun _ h => (sq_cells h)) 3 (h := ?_)
 refine Tk.fk (fun _ h => (sq_cells h)) 5 (h := ?_)
 refine wpAnyH_ready (rs := [4, 6]) (by kernel_rfl) (by simp) ?_
 refine AllReadyH.cons (o := ?o4t5) ?hi4t5 (fun K hK => ?st4t5) (AllReadyH.cons (o := ?o6t5) ?hi6t5 (fun K hK => ?st6t5) AllReadyH.nil)
 case hi4t5 => simp only [List.getElem?_toArray, List.getElem?_cons_succ, List.getElem?_cons_zero]; rfl
 case hi6t5 => simp only [List.getElem?_toArray, List.getElem?_cons_succ, List.getElem?_cons_zero]; rfl
 case st4t5 =>
  have hPrev := hHeld
  have hcl := HSD.out.rw.cells.1.2.1
  (try dsimp only at hcl)
  go_simp
  refine hK.out _ _ ?_ (fun hHeld => Tk.wrk ?_)
  · (try dsimp only); exact hPrev
  clear hK K hcl
  refine Tk.one 6 (h := fun K hK => ?_)
  go_simp
  have HSA := Lib.hid (HSD.out.below ((Below.refl _ _).alloc (Nat.le_refl _) (.cells (NC ⟨1, z, 0, 0, 0, 0, 0⟩) 55)))
  refine hK.out _ _ ?_ (fun hHeld => Tk.wrk ?_)
  · (try dsimp only); exact sq_of HSA.out
  clear hK K
  have HNW := Lib.hid (@news_row W8 ⟨1, z, 0, 0, 0, 0, 0⟩)
  revert HSA hHeld HNW
  generalize World.alloc _ _ = W9
  intro HSA hHeld HNW
  refine Tk.one 7 (h := fun K hK => ?_)
  (refine step_append_lies _ rfl _ _ 22 rfl w0.heap.size 55 i0 _ 10 80 Tryz.underlying22 hi hz0 hz1 hz2 rfl (by decide) _ _ _ rfl HSA.out.rw.own ⟨_, 0, none⟩ 1 1 (NC ⟨1, z, 0, 0, 0, 0, 0⟩).toList rfl rfl HNW.out (one_row _) (by decide) (by have := HLEN.out; (try dsimp only at this ⊢); unfold maxLen; omega) (by have := HLEN.out; (try dsimp only at this ⊢); omega) HSA.out.rw.bel.size _ rfl ?_; intro gg gcap w4 hown hgrow hat hlt4)
  have HP0 := rw_push HSA.out.rw hown hgrow hat
  have HP := Lib.hid HP0
  clear HP0
  have hq8 := sq_grown HSA.out hgrow
  refine hK.out _ _ ?_ (fun hHeld => Tk.wrk ?_)
  · (try dsimp only); exact hq8
  clear hK K hq8
  refine Tk.fk (fun _ h => (sq_cells h)) 8 (h := ?_)
  refine Tk.fk (fun _ h => (sq_cells h)) 9 (h := ?_)
  refine Tk.one 10 (h := fun K hK => ?_)
  have hf4 := fz_grown HSA.out hgrow 1
  have hc4 := cell_grown HSA.out hgrow
  go_simp
  have HZ := Lib.hid (HSA.out.step HP.out.1 HP.out.2)
  refine hK.out _ _ ?_ (fun hHeld => Tk.wrk ?_)
  · (try dsimp only); exact sq_of HZ.out
  clear hK K hf4 hc4
  refine wpAnyH_done (by kernel_rfl) ?_ _
  refine NoPanic.normal ?_
  clear hHeld hgrow hown hat hlt4 HP HSA HSD HNW
  revert HZ
  generalize World.setCell _ _ _ = W10
  intro HZ
  obtain ⟨⟨p0, p1⟩, _, _⟩ := HZ.out.facts
  obtain ⟨⟨y0, y1, y2, y3⟩, _, _, _, _⟩ := HZ.out.rw.cells
  (try dsimp only at y0 y1 y2 y3)
  have hw1 : IntKind.i64.wrap ((((r.l).length + 1 : Nat) : Int) - 1) = (((r.l).length : Nat) : Int) := by have := HLEN.out; rw [IntKind.wrap_i64]; omega
  have hlen9 := HLEN.out
  go_wp2
  go_ret
  refine ⟨_, ?_, ?_, HZ.out.kr⟩
  · rw [HO.out]; rfl
  · rw [HO.out]; exact HZ.out.rw
 case st6t5 =>
  go_simp
  have HSA := Lib.hid (HSD.out.below ((Below.refl _ _).alloc (Nat.le_refl _) (.cells (NC ⟨1, z, 0, 0, 0, 0, 0⟩) 55)))
  refine hK.out _ _ ?_ (fun hHeld => Tk.wrk ?_)
  · (try dsimp only); exact sq_of HSA.out
  clear hK K
  have HNW := Lib.hid (@news_row W8 ⟨1, z, 0, 0, 0, 0, 0⟩)
  revert HSA hHeld HNW
  generalize World.alloc _ _ = W9
  intro HSA hHeld HNW
  have hPrev := hHeld
  refine Tk.one 4 (h := fun K hK => ?_)
  have hcl := HSA.out.rw.cells.1.2.1
  (try dsimp only at hcl)
  go_simp
  refine hK.out _ _ ?_ (fun hHeld => Tk.wrk ?_)
  · (try dsimp only); exact hPrev
  clear hK K hcl
  refine Tk.one 7 (h := fun K hK => ?_)
  (refine step_append_lies _ rfl _ _ 22 rfl w0.heap.size 55 i0 _ 10 80 Tryz.underlying22 hi hz0 hz1 hz2 rfl (by decide) _ _ _ rfl HSA.out.rw.own ⟨_, 0, none⟩ 1 1 (NC ⟨1, z, 0, 0, 0, 0, 0⟩).toList rfl rfl HNW.out (one_row _) (by decide) (by have := HLEN.out; (try dsimp only at this ⊢); unfold maxLen; omega) (by have := HLEN.out; (try dsimp only at this ⊢); omega) HSA.out.rw.bel.size _ rfl ?_; intro gg gcap w4 hown hgrow hat hlt4)
  have HP0 := rw_push HSA.out.rw hown hgrow hat
  have HP := Lib.hid HP0
  clear HP0
  have hq8 := sq_grown HSA.out hgrow
  refine hK.out _ _ ?_ (fun hHeld => Tk.wrk ?_)
  · (try dsimp only); exact hq8
  clear hK K hq8
  refine Tk.fk (fun _ h => (sq_cells h)) 8 (h := ?_)
  refine Tk.fk (fun _ h => (sq_cells h)) 9 (h := ?_)
  refine Tk.one 10 (h := fun K hK => ?_)
  have hf4 := fz_grown HSA.out hgrow 1
  have hc4 := cell_grown HSA.out hgrow
  go_simp
  have HZ := Lib.hid (HSA.out.step HP.out.1 HP.out.2)
  refine hK.out _ _ ?_ (fun hHeld => Tk.wrk ?_)
  · (try dsimp only); exact sq_of HZ.out
  clear hK K hf4 hc4
  refine wpAnyH_done (by kernel_rfl) ?_ _
  refine NoPanic.normal ?_
  clear hHeld hgrow hown hat hlt4 HP HSA HSD HNW
  revert HZ
  generalize World.setCell _ _ _ = W10
  intro HZ
  obtain ⟨⟨p0, p1⟩, _, _⟩ := HZ.out.facts
  obtain ⟨⟨y0, y1, y2, y3⟩, _, _, _, _⟩ := HZ.out.rw.cells
  (try dsimp only at y0 y1 y2 y3)
  have hw1 : IntKind.i64.wrap ((((r.l).length + 1 : Nat) : Int) - 1) = (((r.l).length : Nat) : Int) := by have := HLEN.out; rw [IntKind.wrap_i64]; omega
  have hlen9 := HLEN.out
  go_wp2
  go_ret
  refine ⟨_, ?_, ?_, HZ.out.kr⟩
  · rw [HO.out]; rfl
  · rw [HO.out]; exact HZ.out.rw
end Go.Proofs.YtlicoffnjphphaaGreatDoor.Rx
