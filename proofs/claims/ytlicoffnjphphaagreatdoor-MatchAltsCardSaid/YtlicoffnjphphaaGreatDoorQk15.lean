/- The texts RxNw RxN RxGr RxTx RxNum2 RxLook. -/
import Derived.Laws.EntriesVeiled
import Derived.Test.YtlicoffnjphphaaGreatDoorQk02
import Derived.Test.YtlicoffnjphphaaGreatDoorQk06
import Derived.Test.YtlicoffnjphphaaGreatDoorQk07
import Derived.Test.YtlicoffnjphphaaGreatDoorQk09
import Derived.Test.YtlicoffnjphphaaGreatDoorQk11
import Derived.Test.YtlicoffnjphphaaGreatDoorQk12
import Derived.Test.YtlicoffnjphphaaGreatDoorQk13
import Derived.Test.YtlicoffnjphphaaGreatDoorQk14
set_option linter.unusedVariables false
set_option linter.unusedSimpArgs false
set_option maxHeartbeats 3200000
set_option maxRecDepth 100000
namespace Go.Proofs.YtlicoffnjphphaaGreatDoor.Rx
open Go.RowKit Go.Shelf
open Go.Proofs.YtlicoffnjphphaaGreatDoor.St (Wf word zeroW Tab SV SV_eq)
open Go.Proofs.YtlicoffnjphphaaGreatDoor.Ad (cutB atoiV)
theorem node_r (w0 : World) (b left : Nat) (lf : Int) (c : UInt8) (t s : List UInt8) (l : List Nd) (g : Int) (v : Value) (w : World) (hs : s = c :: t) (h : RW w0 b ⟨s, l, g, false⟩ v w) (hL : Lay w0) (hlen : s.length + l.length ≤ 100000) (hl : l.length ≤ 120) (hg0 : 0 ≤ g) (hg1 : g + s.length ≤ 100000) (hlf : lf = ((left + 1 : Nat) : Int)) (hle : left ≤ 1000) (IH : Below1 w0 b left)
  (hc : c = 92) (ht : t = []) :
  Calls Tryz.prog 44 #[PT b, E lf] w (NodeAns w0 b (left + 1) ⟨s, l, g, false⟩ v w) := by
 obtain ⟨ao, cap, rfl⟩ : ∃ ao cap, v = .slice ao l.length cap := own_slice h.own;obtain ⟨i0, hi, hz0, hz1, hz2⟩ := info_parts infoNd;have HO := Lib.hid (show nodeP (left + 1) ⟨s, l, g, false⟩ = (⟨⟨t, l ++ [⟨8, z4, 0, 0, 0, 0, 0⟩], g, true⟩, l.length⟩ : Rd × Nat) from by
  rw [hs]; rw [node_step hl]; subst hc; subst ht; rfl)
 (have hne : (s == []) = false := by rw [hs]; rfl);(have hlt : 0 < s.length := by rw [hs]; simp);(have hx : ((ByteArray.mk s.toArray)[0]'hlt) = c := by subst hs; rfl);(have hsz : (ByteArray.mk s.toArray).size = s.length := by simp [ByteArray.size]);(have hlt' : (0 : Int) < ((s.length : Nat) : Int) := by omega);have e2 := ex_drop (l := s) 1;(have hr : s.drop 1 = t := by rw [hs]; rfl);(have htl : t.length + 1 = s.length := by rw [hs]; rfl);rw [hr] at e2;(have h1' : (1 : Int) ≤ ((s.length : Nat) : Int) := by omega);(have h0 : (lf == 0) = false := by rw [beq_eq_false_iff_ne]; omega);(have hgt : ¬ (120 : Int) < ((l.length : Nat) : Int) := by omega);have HL := Lib.hid hL;have HR0 := Lib.hid h;have HS0 := Lib.hid (st_start HR0.out lf t N0);dsimp only at HS0;obtain ⟨⟨c0, c1, c2, c3⟩, f0, f1, f2, f3⟩ := HR0.out.cells
 skip
 dsimp only at c0 c1 c2 c3;have hlb := HR0.out.lt;have HLF := Lib.hid hlf;clear hs h hL hr hlf;subst hc;(have htn : (t == []) = true := by rw [ht]; rfl);clear ht;go_enter Tryz.func44, Tryz.ntmps44;rw [show Code.region 36 = Fz 36 from rfl];go_wp2;go_region;go_wp2;refine at_world (p := fun W => ST w0 b w _ lf N0 _ _ W) HS0.out (fun W hW => ?_);have HS1 := Lib.hid hW;clear hW HS0;obtain ⟨⟨x1p, x1l⟩, ⟨x10, x11, x12, x13, x14, x15, x16, x17, x18, x19⟩, x1z⟩ := HS1.out.facts; obtain ⟨⟨x1a, x1b, x1c, x1d⟩, x1e, x1f, x1g, x1h⟩ := HS1.out.rw.cells; (try dsimp only at x1a x1b x1c x1d);rw [show Fz 36 = Code.region 36 from rfl];go_wp2;have HSa := Lib.hid (HS1.out.node (i := 0) (u := E 8) (m := ⟨8, z4, 0, 0, 0, 0, 0⟩) rfl);clear x1p x1l x10 x11 x12 x13 x14 x15 x16 x17 x18 x19 x1z x1a x1b x1c x1d x1e x1f x1g x1h;refine at_world (p := fun W => ST w0 b w _ lf ⟨8, z4, 0, 0, 0, 0, 0⟩ _ _ W) HSa.out (fun W hW => ?_);have HSD := Lib.hid (hW.below (Below.refl _ _).drew);clear hW;refine wp_region_noPanic ?_;refine wp_region_held_drew (S := fun w' => SR w b ⟨8, z4, 0, 0, 0, 0, 0⟩ t w') (by kernel_rfl) ?_ (fun hHeld => ?_)
 · (try dsimp only); exact sr_of HSD.out
 revert HSD hHeld;generalize World.drew _ = W8;intro HSD hHeld;refine Tk.k (fun _ h => And.intro h.2 ((sq_cells h.1))) 0 ?_;refine Tk.k (fun _ h => And.intro h.2 ((sq_cells h.1))) 1 ?_;refine Tk.k (fun _ h => And.intro h.2 ((sq_cells h.1))) 2 ?_;refine Tk.k (fun _ h => And.intro h.2 ((sq_cells h.1))) 3 ?_;refine Tk.k (fun _ h => And.intro h.2 ((sq_cells h.1))) 4 ?_;refine Tk.k (fun _ h => And.intro h.2 ((sq_cells h.1))) 5 ?_;refine Tk.k (fun _ h => And.intro h.2 ((sq_cells h.1))) 6 ?_;refine Tk.k (fun _ h => And.intro h.2 ((sq_cells h.1))) 7 ?_;refine Tk.o 8 (fun K hK => ?_);have hcl := HSD.out.rw.cells;(try dsimp only at hcl);obtain ⟨⟨hcl0, hcl1, hcl2, hcl3⟩, hfl0, hfl1, hfl2, hfl3⟩ := hcl;go_simp;have HSb := Lib.hid (HSD.out.setBad true);(refine hK.out _ _ (by (try dsimp only); exact sr_of HSb.out) fun hHeld => Tk.w ?_);clear hK K hcl0 hcl1 hcl2 hcl3 hfl0 hfl1 hfl2 hfl3;refine Tk.d ?_;clear hHeld HSD;revert HSb;generalize World.setCell _ _ _ = W9;intro HSb;have HS2 := HSb;clear HSb;obtain ⟨⟨x2p, x2l⟩, ⟨x20, x21, x22, x23, x24, x25, x26, x27, x28, x29⟩, x2z⟩ := HS2.out.facts; obtain ⟨⟨x2a, x2b, x2c, x2d⟩, x2e, x2f, x2g, x2h⟩ := HS2.out.rw.cells; (try dsimp only at x2a x2b x2c x2d);go_wp2;clear x2p x2l x20 x21 x22 x23 x24 x25 x26 x27 x28 x29 x2z x2a x2b x2c x2d x2e x2f x2g x2h;have HLEN := Lib.hid (show l.length ≤ 200000 by omega);refine at_world (p := fun W => ST w0 b w _ lf ⟨8, z4, 0, 0, 0, 0, 0⟩ _ _ W) HS2.out (fun W hW => ?_);have HSD := Lib.hid (hW.below (Below.refl _ _).drew);clear hW;refine wp_region_noPanic ?_;refine wp_region_held_drew (S := fun w' => SQ w b ⟨8, z4, 0, 0, 0, 0, 0⟩ w') (by kernel_rfl) ?_ (fun hHeld => ?_)
 · (try dsimp only); exact sq_of HSD.out
 revert HSD hHeld;generalize World.drew _ = W8;intro HSD hHeld;refine Tk.k (fun _ h => (sq_cells h)) 0 ?_;refine Tk.k (fun _ h => (sq_cells h)) 1 ?_;refine Tk.k (fun _ h => (sq_cells h)) 2 ?_;refine Tk.k (fun _ h => (sq_cells h)) 3 ?_;refine Tk.k (fun _ h => (sq_cells h)) 5 ?_;refine wpAnyH_ready (rs := [4, 6]) (by kernel_rfl) (by simp) ?_;refine AllReadyH.cons (o := ?o4t13) ?hi4t13 (fun K hK => ?st4t13) (AllReadyH.cons (o := ?o6t13) ?hi6t13 (fun K hK => ?st6t13) AllReadyH.nil);(case hi4t13 => simp only [List.getElem?_toArray, List.getElem?_cons_succ, List.getElem?_cons_zero]; rfl);(case hi6t13 => simp only [List.getElem?_toArray, List.getElem?_cons_succ, List.getElem?_cons_zero]; rfl);case st4t13 =>
  have hPrev := hHeld;have hcl := HSD.out.rw.cells.1.2.1;(try dsimp only at hcl);go_simp;(refine hK.out _ _ (by (try dsimp only); exact hPrev) fun hHeld => Tk.w ?_);clear hK K hcl;refine Tk.o 6 (fun K hK => ?_);go_simp;have HSA := Lib.hid (HSD.out.below ((Below.refl _ _).alloc (Nat.le_refl _) (.cells (NC ⟨8, z4, 0, 0, 0, 0, 0⟩) 55)));(refine hK.out _ _ (by (try dsimp only); exact sq_of HSA.out) fun hHeld => Tk.w ?_);clear hK K;have HNW := Lib.hid (@news_row W8 ⟨8, z4, 0, 0, 0, 0, 0⟩);revert HSA hHeld HNW;generalize World.alloc _ _ = W9;intro HSA hHeld HNW;refine Tk.o 7 (fun K hK => ?_);(refine step_append_lies _ rfl _ _ 22 rfl w0.heap.size 55 i0 _ 10 80 Tryz.underlying22 hi hz0 hz1 hz2 rfl (by decide) _ _ _ rfl HSA.out.rw.own ⟨_, 0, none⟩ 1 1 (NC ⟨8, z4, 0, 0, 0, 0, 0⟩).toList rfl rfl HNW.out (one_row _) (by decide) (by have := HLEN.out; (try dsimp only at this ⊢); unfold maxLen; omega) (by have := HLEN.out; (try dsimp only at this ⊢); omega) HSA.out.rw.bel.size _ rfl ?_; intro gg gcap w4 hown hgrow hat hlt4);have HP0 := rw_push HSA.out.rw hown hgrow hat;have HP := Lib.hid HP0;clear HP0;have hq8 := sq_grown HSA.out hgrow;(refine hK.out _ _ (by (try dsimp only); exact hq8) fun hHeld => Tk.w ?_);clear hK K hq8;refine Tk.k (fun _ h => (sq_cells h)) 8 ?_;refine Tk.k (fun _ h => (sq_cells h)) 9 ?_;refine Tk.o 10 (fun K hK => ?_);have hf4 := fz_grown HSA.out hgrow 1;have hc4 := cell_grown HSA.out hgrow;go_simp;have HZ := Lib.hid (HSA.out.step HP.out.1 HP.out.2);(refine hK.out _ _ (by (try dsimp only); exact sq_of HZ.out) fun hHeld => Tk.w ?_);clear hK K hf4 hc4;refine Tk.d ?_;clear hHeld hgrow hown hat hlt4 HP HSA HSD HNW;revert HZ;generalize World.setCell _ _ _ = W10;intro HZ;obtain ⟨⟨p0, p1⟩, _, _⟩ := HZ.out.facts;obtain ⟨⟨y0, y1, y2, y3⟩, _, _, _, _⟩ := HZ.out.rw.cells;(try dsimp only at y0 y1 y2 y3);(have hw1 : IntKind.i64.wrap ((((l).length + 1 : Nat) : Int) - 1) = (((l).length : Nat) : Int) := by have := HLEN.out; rw [IntKind.wrap_i64]; omega);have hlen9 := HLEN.out;go_wp2;go_ret;refine ⟨_, ?_, ?_, HZ.out.kr⟩
  · rw [HO.out]; rfl
  · rw [HO.out]; exact HZ.out.rw
 case st6t13 =>
  go_simp;have HSA := Lib.hid (HSD.out.below ((Below.refl _ _).alloc (Nat.le_refl _) (.cells (NC ⟨8, z4, 0, 0, 0, 0, 0⟩) 55)));(refine hK.out _ _ (by (try dsimp only); exact sq_of HSA.out) fun hHeld => Tk.w ?_);clear hK K;have HNW := Lib.hid (@news_row W8 ⟨8, z4, 0, 0, 0, 0, 0⟩);revert HSA hHeld HNW;generalize World.alloc _ _ = W9;intro HSA hHeld HNW;have hPrev := hHeld;refine Tk.o 4 (fun K hK => ?_);have hcl := HSA.out.rw.cells.1.2.1;(try dsimp only at hcl);go_simp;(refine hK.out _ _ (by (try dsimp only); exact hPrev) fun hHeld => Tk.w ?_);clear hK K hcl;refine Tk.o 7 (fun K hK => ?_);(refine step_append_lies _ rfl _ _ 22 rfl w0.heap.size 55 i0 _ 10 80 Tryz.underlying22 hi hz0 hz1 hz2 rfl (by decide) _ _ _ rfl HSA.out.rw.own ⟨_, 0, none⟩ 1 1 (NC ⟨8, z4, 0, 0, 0, 0, 0⟩).toList rfl rfl HNW.out (one_row _) (by decide) (by have := HLEN.out; (try dsimp only at this ⊢); unfold maxLen; omega) (by have := HLEN.out; (try dsimp only at this ⊢); omega) HSA.out.rw.bel.size _ rfl ?_; intro gg gcap w4 hown hgrow hat hlt4);have HP0 := rw_push HSA.out.rw hown hgrow hat;have HP := Lib.hid HP0;clear HP0;have hq8 := sq_grown HSA.out hgrow;(refine hK.out _ _ (by (try dsimp only); exact hq8) fun hHeld => Tk.w ?_);clear hK K hq8;refine Tk.k (fun _ h => (sq_cells h)) 8 ?_;refine Tk.k (fun _ h => (sq_cells h)) 9 ?_;refine Tk.o 10 (fun K hK => ?_);have hf4 := fz_grown HSA.out hgrow 1;have hc4 := cell_grown HSA.out hgrow;go_simp;have HZ := Lib.hid (HSA.out.step HP.out.1 HP.out.2);(refine hK.out _ _ (by (try dsimp only); exact sq_of HZ.out) fun hHeld => Tk.w ?_);clear hK K hf4 hc4;refine Tk.d ?_;clear hHeld hgrow hown hat hlt4 HP HSA HSD HNW;revert HZ;generalize World.setCell _ _ _ = W10;intro HZ;obtain ⟨⟨p0, p1⟩, _, _⟩ := HZ.out.facts;obtain ⟨⟨y0, y1, y2, y3⟩, _, _, _, _⟩ := HZ.out.rw.cells;(try dsimp only at y0 y1 y2 y3);(have hw1 : IntKind.i64.wrap ((((l).length + 1 : Nat) : Int) - 1) = (((l).length : Nat) : Int) := by have := HLEN.out; rw [IntKind.wrap_i64]; omega);have hlen9 := HLEN.out;go_wp2;go_ret;refine ⟨_, ?_, ?_, HZ.out.kr⟩
  · rw [HO.out]; rfl
  · rw [HO.out]; exact HZ.out.rw
theorem node_q (w0 : World) (b left : Nat) (lf : Int) (c : UInt8) (t s : List UInt8) (l : List Nd) (g : Int) (v : Value) (w : World) (hs : s = c :: t) (h : RW w0 b ⟨s, l, g, false⟩ v w) (hL : Lay w0) (hlen : s.length + l.length ≤ 100000) (hl : l.length ≤ 120) (hg0 : 0 ≤ g) (hg1 : g + s.length ≤ 100000) (hlf : lf = ((left + 1 : Nat) : Int)) (hle : left ≤ 1000) (IH : Below1 w0 b left)
  (hc : c = 92) (d : UInt8) (t2 : List UInt8) (ht : t = d :: t2) :
  Calls Tryz.prog 44 #[PT b, E lf] w (NodeAns w0 b (left + 1) ⟨s, l, g, false⟩ v w) := by
 obtain ⟨ao, cap, rfl⟩ : ∃ ao cap, v = .slice ao l.length cap := own_slice h.own;obtain ⟨i0, hi, hz0, hz1, hz2⟩ := info_parts infoNd;have HO := Lib.hid (show nodeP (left + 1) ⟨s, l, g, false⟩ = pushP ⟨t2, l, g, false⟩ ⟨8, z4, 0, 0, 0, 0, (d.toNat : Int) - 48⟩ from by
  rw [hs]; rw [node_step hl]; subst hc; subst ht; rfl)
 (have hne : (s == []) = false := by rw [hs]; rfl);(have hlt : 0 < s.length := by rw [hs]; simp);(have hx : ((ByteArray.mk s.toArray)[0]'hlt) = c := by subst hs; rfl);(have hsz : (ByteArray.mk s.toArray).size = s.length := by simp [ByteArray.size]);(have hlt' : (0 : Int) < ((s.length : Nat) : Int) := by omega);have e2 := ex_drop (l := s) 1;(have hr : s.drop 1 = t := by rw [hs]; rfl);(have htl : t.length + 1 = s.length := by rw [hs]; rfl);rw [hr] at e2;(have h1' : (1 : Int) ≤ ((s.length : Nat) : Int) := by omega);(have h0 : (lf == 0) = false := by rw [beq_eq_false_iff_ne]; omega);(have hgt : ¬ (120 : Int) < ((l.length : Nat) : Int) := by omega);have HL := Lib.hid hL;have HR0 := Lib.hid h;have HS0 := Lib.hid (st_start HR0.out lf t N0);dsimp only at HS0;obtain ⟨⟨c0, c1, c2, c3⟩, f0, f1, f2, f3⟩ := HR0.out.cells
 skip
 dsimp only at c0 c1 c2 c3;have hlb := HR0.out.lt;have HLF := Lib.hid hlf;clear hs h hL hr hlf;subst hc;have hdb := UInt8.toNat_lt d;(have hlt2 : 0 < t.length := by rw [ht]; simp);(have hx2 : ((ByteArray.mk t.toArray)[0]'hlt2) = d := by subst ht; rfl);(have hsz2 : (ByteArray.mk t.toArray).size = t.length := by simp [ByteArray.size]);(have hlt2' : (0 : Int) < ((t.length : Nat) : Int) := by omega);have e3 := ex_drop (l := t) 1;(have hr2 : t.drop 1 = t2 := by rw [ht]; rfl);rw [hr2] at e3;clear hr2;(have h2' : (1 : Int) ≤ ((t.length : Nat) : Int) := by omega);(have htn : (t == []) = false := by rw [ht]; rfl);clear ht;go_enter Tryz.func44, Tryz.ntmps44;rw [show Code.region 36 = Fz 36 from rfl];go_wp2;go_region;go_wp2;refine at_world (p := fun W => ST w0 b w _ lf N0 _ _ W) HS0.out (fun W hW => ?_);have HS1 := Lib.hid hW;clear hW HS0;obtain ⟨⟨x1p, x1l⟩, ⟨x10, x11, x12, x13, x14, x15, x16, x17, x18, x19⟩, x1z⟩ := HS1.out.facts; obtain ⟨⟨x1a, x1b, x1c, x1d⟩, x1e, x1f, x1g, x1h⟩ := HS1.out.rw.cells; (try dsimp only at x1a x1b x1c x1d);rw [show Fz 36 = Code.region 36 from rfl];go_wp2;have HSa := Lib.hid (HS1.out.node (i := 0) (u := E 8) (m := ⟨8, z4, 0, 0, 0, 0, 0⟩) rfl);clear x1p x1l x10 x11 x12 x13 x14 x15 x16 x17 x18 x19 x1z x1a x1b x1c x1d x1e x1f x1g x1h;refine at_world (p := fun W => ST w0 b w _ lf ⟨8, z4, 0, 0, 0, 0, 0⟩ _ _ W) HSa.out (fun W hW => ?_);have HSD := Lib.hid (hW.below (Below.refl _ _).drew);clear hW;refine wp_region_noPanic ?_;refine wp_region_held_drew (S := fun w' => SR w b ⟨8, z4, 0, 0, 0, 0, 0⟩ t w') (by kernel_rfl) ?_ (fun hHeld => ?_)
 · (try dsimp only); exact sr_of HSD.out
 revert HSD hHeld;generalize World.drew _ = W8;intro HSD hHeld;refine Tk.k (fun _ h => And.intro h.2 ((sq_cells h.1))) 0 ?_;refine Tk.k (fun _ h => And.intro h.2 ((sq_cells h.1))) 1 ?_;refine Tk.k (fun _ h => And.intro h.2 ((sq_cells h.1))) 2 ?_;refine Tk.k (fun _ h => And.intro h.2 ((sq_cells h.1))) 3 ?_;refine Tk.k (fun _ h => And.intro h.2 ((sq_cells h.1))) 4 ?_;refine Tk.k (fun _ h => And.intro h.2 ((sq_cells h.1))) 5 ?_;refine Tk.k (fun _ h => And.intro h.2 ((sq_cells h.1))) 6 ?_;refine Tk.k (fun _ h => And.intro h.2 ((sq_cells h.1))) 7 ?_;refine Tk.o 8 (fun K hK => ?_);have hcl := HSD.out.rw.cells;(try dsimp only at hcl);obtain ⟨⟨hcl0, hcl1, hcl2, hcl3⟩, hfl0, hfl1, hfl2, hfl3⟩ := hcl;go_simp;have HSb := Lib.hid (HSD.out.setBad false);(refine hK.out _ _ (by (try dsimp only); exact sr_of HSb.out) fun hHeld => Tk.w ?_);clear hK K hcl0 hcl1 hcl2 hcl3 hfl0 hfl1 hfl2 hfl3;refine Tk.d ?_;clear hHeld HSD;revert HSb;generalize World.setCell _ _ _ = W9;intro HSb;have HS2 := HSb;clear HSb;obtain ⟨⟨x2p, x2l⟩, ⟨x20, x21, x22, x23, x24, x25, x26, x27, x28, x29⟩, x2z⟩ := HS2.out.facts; obtain ⟨⟨x2a, x2b, x2c, x2d⟩, x2e, x2f, x2g, x2h⟩ := HS2.out.rw.cells; (try dsimp only at x2a x2b x2c x2d);go_wp2;go_region;go_wp2;have HSc := Lib.hid (((HS2.out.node (i := 9) (u := E ((d.toNat : Int) - 48)) (m := ⟨8, z4, 0, 0, 0, 0, (d.toNat : Int) - 48⟩) rfl).setRest t2).dr);have HLEN := Lib.hid (show l.length ≤ 200000 by omega);refine at_world (p := fun W => ST w0 b w _ lf ⟨8, z4, 0, 0, 0, 0, (d.toNat : Int) - 48⟩ _ _ W) HSc.out (fun W hW => ?_);have HSD := Lib.hid (hW.below (Below.refl _ _).drew);clear hW;refine wp_region_noPanic ?_;refine wp_region_held_drew (S := fun w' => SQ w b ⟨8, z4, 0, 0, 0, 0, (d.toNat : Int) - 48⟩ w') (by kernel_rfl) ?_ (fun hHeld => ?_)
 · (try dsimp only); exact sq_of HSD.out
 revert HSD hHeld;generalize World.drew _ = W8;intro HSD hHeld;refine Tk.k (fun _ h => (sq_cells h)) 0 ?_;refine Tk.k (fun _ h => (sq_cells h)) 1 ?_;refine Tk.k (fun _ h => (sq_cells h)) 2 ?_;refine Tk.k (fun _ h => (sq_cells h)) 3 ?_;refine Tk.k (fun _ h => (sq_cells h)) 5 ?_;refine wpAnyH_ready (rs := [4, 6]) (by kernel_rfl) (by simp) ?_;refine AllReadyH.cons (o := ?o4t14) ?hi4t14 (fun K hK => ?st4t14) (AllReadyH.cons (o := ?o6t14) ?hi6t14 (fun K hK => ?st6t14) AllReadyH.nil);(case hi4t14 => simp only [List.getElem?_toArray, List.getElem?_cons_succ, List.getElem?_cons_zero]; rfl);(case hi6t14 => simp only [List.getElem?_toArray, List.getElem?_cons_succ, List.getElem?_cons_zero]; rfl);case st4t14 =>
  have hPrev := hHeld;have hcl := HSD.out.rw.cells.1.2.1;(try dsimp only at hcl);go_simp;(refine hK.out _ _ (by (try dsimp only); exact hPrev) fun hHeld => Tk.w ?_);clear hK K hcl;refine Tk.o 6 (fun K hK => ?_);go_simp;have HSA := Lib.hid (HSD.out.below ((Below.refl _ _).alloc (Nat.le_refl _) (.cells (NC ⟨8, z4, 0, 0, 0, 0, (d.toNat : Int) - 48⟩) 55)));(refine hK.out _ _ (by (try dsimp only); exact sq_of HSA.out) fun hHeld => Tk.w ?_);clear hK K;have HNW := Lib.hid (@news_row W8 ⟨8, z4, 0, 0, 0, 0, (d.toNat : Int) - 48⟩);revert HSA hHeld HNW;generalize World.alloc _ _ = W9;intro HSA hHeld HNW;refine Tk.o 7 (fun K hK => ?_);(refine step_append_lies _ rfl _ _ 22 rfl w0.heap.size 55 i0 _ 10 80 Tryz.underlying22 hi hz0 hz1 hz2 rfl (by decide) _ _ _ rfl HSA.out.rw.own ⟨_, 0, none⟩ 1 1 (NC ⟨8, z4, 0, 0, 0, 0, (d.toNat : Int) - 48⟩).toList rfl rfl HNW.out (one_row _) (by decide) (by have := HLEN.out; (try dsimp only at this ⊢); unfold maxLen; omega) (by have := HLEN.out; (try dsimp only at this ⊢); omega) HSA.out.rw.bel.size _ rfl ?_; intro gg gcap w4 hown hgrow hat hlt4);have HP0 := rw_push HSA.out.rw hown hgrow hat;have HP := Lib.hid HP0;clear HP0;have hq8 := sq_grown HSA.out hgrow;(refine hK.out _ _ (by (try dsimp only); exact hq8) fun hHeld => Tk.w ?_);clear hK K hq8;refine Tk.k (fun _ h => (sq_cells h)) 8 ?_;refine Tk.k (fun _ h => (sq_cells h)) 9 ?_;refine Tk.o 10 (fun K hK => ?_);have hf4 := fz_grown HSA.out hgrow 1;have hc4 := cell_grown HSA.out hgrow;go_simp;have HZ := Lib.hid (HSA.out.step HP.out.1 HP.out.2);(refine hK.out _ _ (by (try dsimp only); exact sq_of HZ.out) fun hHeld => Tk.w ?_);clear hK K hf4 hc4;refine Tk.d ?_;clear hHeld hgrow hown hat hlt4 HP HSA HSD HNW;revert HZ;generalize World.setCell _ _ _ = W10;intro HZ;obtain ⟨⟨p0, p1⟩, _, _⟩ := HZ.out.facts;obtain ⟨⟨y0, y1, y2, y3⟩, _, _, _, _⟩ := HZ.out.rw.cells;(try dsimp only at y0 y1 y2 y3);(have hw1 : IntKind.i64.wrap ((((l).length + 1 : Nat) : Int) - 1) = (((l).length : Nat) : Int) := by have := HLEN.out; rw [IntKind.wrap_i64]; omega);have hlen9 := HLEN.out;go_wp2;go_ret;refine ⟨_, ?_, ?_, HZ.out.kr⟩
  · rw [HO.out]; rfl
  · rw [HO.out]; exact HZ.out.rw
 case st6t14 =>
  go_simp;have HSA := Lib.hid (HSD.out.below ((Below.refl _ _).alloc (Nat.le_refl _) (.cells (NC ⟨8, z4, 0, 0, 0, 0, (d.toNat : Int) - 48⟩) 55)));(refine hK.out _ _ (by (try dsimp only); exact sq_of HSA.out) fun hHeld => Tk.w ?_);clear hK K;have HNW := Lib.hid (@news_row W8 ⟨8, z4, 0, 0, 0, 0, (d.toNat : Int) - 48⟩);revert HSA hHeld HNW;generalize World.alloc _ _ = W9;intro HSA hHeld HNW;have hPrev := hHeld;refine Tk.o 4 (fun K hK => ?_);have hcl := HSA.out.rw.cells.1.2.1;(try dsimp only at hcl);go_simp;(refine hK.out _ _ (by (try dsimp only); exact hPrev) fun hHeld => Tk.w ?_);clear hK K hcl;refine Tk.o 7 (fun K hK => ?_);(refine step_append_lies _ rfl _ _ 22 rfl w0.heap.size 55 i0 _ 10 80 Tryz.underlying22 hi hz0 hz1 hz2 rfl (by decide) _ _ _ rfl HSA.out.rw.own ⟨_, 0, none⟩ 1 1 (NC ⟨8, z4, 0, 0, 0, 0, (d.toNat : Int) - 48⟩).toList rfl rfl HNW.out (one_row _) (by decide) (by have := HLEN.out; (try dsimp only at this ⊢); unfold maxLen; omega) (by have := HLEN.out; (try dsimp only at this ⊢); omega) HSA.out.rw.bel.size _ rfl ?_; intro gg gcap w4 hown hgrow hat hlt4);have HP0 := rw_push HSA.out.rw hown hgrow hat;have HP := Lib.hid HP0;clear HP0;have hq8 := sq_grown HSA.out hgrow;(refine hK.out _ _ (by (try dsimp only); exact hq8) fun hHeld => Tk.w ?_);clear hK K hq8;refine Tk.k (fun _ h => (sq_cells h)) 8 ?_;refine Tk.k (fun _ h => (sq_cells h)) 9 ?_;refine Tk.o 10 (fun K hK => ?_);have hf4 := fz_grown HSA.out hgrow 1;have hc4 := cell_grown HSA.out hgrow;go_simp;have HZ := Lib.hid (HSA.out.step HP.out.1 HP.out.2);(refine hK.out _ _ (by (try dsimp only); exact sq_of HZ.out) fun hHeld => Tk.w ?_);clear hK K hf4 hc4;refine Tk.d ?_;clear hHeld hgrow hown hat hlt4 HP HSA HSD HNW;revert HZ;generalize World.setCell _ _ _ = W10;intro HZ;obtain ⟨⟨p0, p1⟩, _, _⟩ := HZ.out.facts;obtain ⟨⟨y0, y1, y2, y3⟩, _, _, _, _⟩ := HZ.out.rw.cells;(try dsimp only at y0 y1 y2 y3);(have hw1 : IntKind.i64.wrap ((((l).length + 1 : Nat) : Int) - 1) = (((l).length : Nat) : Int) := by have := HLEN.out; rw [IntKind.wrap_i64]; omega);have hlen9 := HLEN.out;go_wp2;go_ret;refine ⟨_, ?_, ?_, HZ.out.kr⟩
  · rw [HO.out]; rfl
  · rw [HO.out]; exact HZ.out.rw
theorem node_any (w0 : World) (b : Nat) (hL : Lay w0) : ∀ left : Nat, left ≤ 1000 → Below1 w0 b left
 | 0, _ => fun r v w h hr => node_out w0 b 0 r.rest r.l r.g r.bad v w h (Or.inr (Or.inr (Or.inl rfl)))
 | left + 1, hle => by
  have IH := node_any w0 b hL left (by omega);rintro ⟨s, l, g, bad⟩ v w h hr;by_cases hc : bad = true ∨ s = [] ∨ left + 1 = 0 ∨ 120 < l.length
  · exact node_out w0 b (left + 1) s l g bad v w h hc
  have hb : bad = false := by
   cases bad
   · rfl
   · exact absurd (Or.inl rfl) hc
  subst hb;have hl : l.length ≤ 120 := by
   rcases Nat.lt_or_ge 120 l.length with q | q
   · exact absurd (Or.inr (Or.inr (Or.inr q))) hc
   · exact q
  obtain ⟨c, t, hs⟩ : ∃ c t, s = c :: t := by
   cases s with
   | nil => exact absurd (Or.inr (Or.inl rfl)) hc
   | cons c t => exact ⟨c, t, rfl⟩
  have h1 := hr.len;have h2 := hr.g0;have h3 := hr.g1;dsimp only at h1 h2 h3;by_cases k101 : c = 101
  · exact node_e w0 b left _ c t s l g v w hs h hL h1 hl h2 h3 rfl (by omega) IH k101
  by_cases k91 : c = 91
  · exact node_s w0 b left _ c t s l g v w hs h hL h1 hl h2 h3 rfl (by omega) IH k91
  by_cases k94 : c = 94
  · exact node_b w0 b left _ c t s l g v w hs h hL h1 hl h2 h3 rfl (by omega) IH k94
  by_cases k36 : c = 36
  · exact node_d w0 b left _ c t s l g v w hs h hL h1 hl h2 h3 rfl (by omega) IH k36
  by_cases k38 : c = 38
  · exact node_c w0 b left _ c t s l g v w hs h hL h1 hl h2 h3 rfl (by omega) IH k38
  by_cases k124 : c = 124
  · exact node_a w0 b left _ c t s l g v w hs h hL h1 hl h2 h3 rfl (by omega) IH k124
  by_cases k42 : c = 42
  · exact node_m w0 b left _ c t s l g v w hs h hL h1 hl h2 h3 rfl (by omega) IH k42
  by_cases k40 : c = 40
  · exact node_g w0 b left _ c t s l g v w hs h hL h1 hl h2 h3 rfl (by omega) IH k40
  by_cases k92 : c = 92
  ·
   cases ht : t with
   | nil => exact node_r w0 b left _ c t s l g v w hs h hL h1 hl h2 h3 rfl (by omega) IH k92 ht
   | cons d t2 => exact node_q w0 b left _ c t s l g v w hs h hL h1 hl h2 h3 rfl (by omega) IH k92 d t2 ht
  · exact node_z w0 b left _ c t s l g v w hs h hL h1 hl h2 h3 rfl (by omega) IH k101 k91 k94 k36 k38 k124 k42 k40 k92
open Tr
open Go.Proofs.YtlicoffnjphphaaGreatDoor.St (Wf bytesL)
/-- How long a text may be. -/
theorem text_len (em : Prop) : ∀ t : Tr, t.Fine em → (textT t).length ≤ 514 * t.size := by
 have hx : ∀ l : List UInt8, (l.flatMap hexB).length = 2 * l.length := by
  intro l
  induction l with
  | nil => rfl
  | cons b r ih => rw [List.flatMap_cons, List.length_append, ih]; simp [hexB]; omega
 have hi : ∀ {n : Int}, -1 ≤ n → n ≤ 255 → (Lib.itoa n).length ≤ 10 := by
  intro n h0 h;unfold Lib.itoa;split
  · have := Go.Proofs.YtlicoffnjphphaaGreatDoor.Ad.dec_len n.natAbs (by omega);simp; omega
  · have := Go.Proofs.YtlicoffnjphphaaGreatDoor.Ad.dec_len n.toNat (by omega);omega
 intro t
 induction t with
 | e | beg | fin => intro _; simp [textT, size]
 | set s =>
  intro _;(have h1 : (bytesL s).length ≤ 256 := by rw [Go.Proofs.YtlicoffnjphphaaGreatDoor.St.bytesL_len]; exact Go.Proofs.YtlicoffnjphphaaGreatDoor.St.bytesN_len s);simp only [textT, size, List.length_cons, List.length_append, hx, List.length_nil];omega
 | ref n =>
  intro hf;have := hi (show -1 ≤ n by have := hf.1; omega) (by have := hf.2; omega);simp only [textT, size, List.length_cons];omega
 | cat x y ihx ihy | alt x y ihx ihy =>
  intro hf;have h1 := ihx hf.1;have h2 := ihy hf.2.1;simp only [textT, size, List.length_cons, List.length_append];omega
 | times mn mx x ihx =>
  intro hf;have h1 := ihx hf.1;have h2 := hi (show -1 ≤ mn by have := hf.2.1; omega) hf.2.2.1;have h3 := hi (show -1 ≤ mx by have := hf.2.2.2.1; omega) (by have := hf.2.2.2.1; omega);simp only [textT, size, List.length_cons, List.length_append];omega
 | grp n x ihx =>
  intro hf;have h1 := ihx hf.1;simp only [textT, size, List.length_cons, List.length_append, List.length_nil];omega
/-- What a node is told by, where its parts are told. -/
def nodeS (n : Nd) (b : List UInt8) : List UInt8 :=
 if n.k = 0 then [101] else if n.k = 1 then 91 :: ((bytesL n.s).flatMap hexB ++ [93]) else if n.k = 2 then [94] else if n.k = 3 then [36]
 else if n.k = 4 then 38 :: b else if n.k = 5 then 124 :: b else if n.k = 6 then 42 :: (Lib.itoa n.mn ++ 44 :: (Lib.itoa n.mx ++ 59 :: b))
 else if n.k = 7 then 40 :: (b ++ [41]) else 92 :: Lib.itoa n.n
theorem texts_step {n : Nd} {ts : List Tr} (hok : OneN n) (hp : parts n ≤ ts.length) :
  (build n ts).map textT = (ts.map textT).take (ts.length - parts n) ++ [nodeS n ((ts.map textT).drop (ts.length - parts n)).flatten] := by
 obtain ⟨k, s, a, b, mn, mx, m⟩ := n;have leaf : ∀ (t : Tr), parts ⟨k, s, a, b, mn, mx, m⟩ = 0 → build ⟨k, s, a, b, mn, mx, m⟩ ts = ts ++ [t] → (∀ z, textT t = nodeS ⟨k, s, a, b, mn, mx, m⟩ z) → (build ⟨k, s, a, b, mn, mx, m⟩ ts).map textT = (ts.map textT).take (ts.length - parts ⟨k, s, a, b, mn, mx, m⟩) ++ [nodeS ⟨k, s, a, b, mn, mx, m⟩ ((ts.map textT).drop (ts.length - parts ⟨k, s, a, b, mn, mx, m⟩)).flatten] := by
  intro t h1 h2 h3;rw [h1, h2, Nat.sub_zero, List.take_of_length_le (by simp), ← h3, List.map_append];rfl
 have one : parts ⟨k, s, a, b, mn, mx, m⟩ = 1 → ∃ us x, ts = us ++ [x] := by
  intro h;rw [h] at hp;obtain ⟨us, x, rfl, _⟩ := split_one (show ts.length = (ts.length - 1) + 1 by omega);exact ⟨us, x, rfl⟩
 have two : parts ⟨k, s, a, b, mn, mx, m⟩ = 2 → ∃ us x y, ts = us ++ [x, y] := by
  intro h;rw [h] at hp;obtain ⟨p, y, rfl, hpl⟩ := split_one (show ts.length = (ts.length - 1) + 1 by omega);obtain ⟨us, x, rfl, _⟩ := split_one (show p.length = (p.length - 1) + 1 by simp at hp; omega);exact ⟨us, x, y, by simp⟩
 have fin : ∀ (us vs : List Tr) (t : Tr), ts = us ++ vs → parts ⟨k, s, a, b, mn, mx, m⟩ = vs.length → build ⟨k, s, a, b, mn, mx, m⟩ ts = us ++ [t] → textT t = nodeS ⟨k, s, a, b, mn, mx, m⟩ (vs.map textT).flatten →
   (build ⟨k, s, a, b, mn, mx, m⟩ ts).map textT = (ts.map textT).take (ts.length - parts ⟨k, s, a, b, mn, mx, m⟩) ++ [nodeS ⟨k, s, a, b, mn, mx, m⟩ ((ts.map textT).drop (ts.length - parts ⟨k, s, a, b, mn, mx, m⟩)).flatten] := by
  rintro us vs t rfl h1 h2 h3;(have e : (us ++ vs).length - vs.length = (us.map textT).length := by simp);rw [h2, h1, e, List.map_append, List.map_append, List.take_left, List.drop_left, ← h3];rfl
 simp only [OneN] at hok;rcases hok with ⟨hk, rfl, rfl, rfl, rfl, rfl, rfl⟩ | ⟨rfl, hs, rfl, rfl, rfl, rfl, rfl⟩ | ⟨hk, rfl, rfl, rfl, rfl⟩ | ⟨rfl, rfl, rfl, rfl, h6, h7, h8⟩ | ⟨rfl, rfl, rfl, rfl, rfl, h6, h7⟩ | ⟨rfl, rfl, rfl, rfl, rfl, rfl, h6, h7⟩
 ·
  rcases hk with rfl | rfl | rfl
  · exact leaf .e rfl rfl (fun _ => rfl)
  · exact leaf .beg rfl rfl (fun _ => rfl)
  · exact leaf .fin rfl rfl (fun _ => rfl)
 · exact leaf (.set s) rfl rfl (fun _ => rfl)
 ·
  rcases hk with rfl | rfl
  · obtain ⟨us, x, y, rfl⟩ := two rfl;exact fin us [x, y] (.cat x y) rfl rfl (by simp [build]) (by simp [textT, nodeS])
  · obtain ⟨us, x, y, rfl⟩ := two rfl;exact fin us [x, y] (.alt x y) rfl rfl (by simp [build]) (by simp [textT, nodeS])
 · obtain ⟨us, x, rfl⟩ := one rfl;exact fin us [x] (.times mn mx x) rfl rfl (by simp [build]) (by simp [textT, nodeS])
 · obtain ⟨us, x, rfl⟩ := one rfl;exact fin us [x] (.grp m x) rfl rfl (by simp [build]) (by simp [textT, nodeS])
 · exact leaf (.ref m) rfl rfl (fun _ => rfl)
/-- The texts on the stack. -/
def tx (l : List Nd) (k : Nat) : List (List UInt8) := (treesRun l k).map textT
theorem ord_at {l : List Nd} {st : List Nat} (h : ordRun l l.length = some st) : ∀ k, k ≤ l.length → ∃ st', ordRun l k = some st' := by
 intro k hk;cases e : ordRun l k with
 | some s => exact ⟨s, rfl⟩
 | none =>
  exfalso;have : ∀ j, ordRun l (k + j) = none := by
   intro j
   induction j with
   | zero => exact e
   | succ j ih =>
    show (ordRun l (k + j)).bind _ = none;rw [ih]; rfl
  have h2 := this (l.length - k);rw [show k + (l.length - k) = l.length by omega, h] at h2;cases h2
theorem rootsL_len' (ts : List Tr) : (rootsL ts 0).length = ts.length := rootsL_len ts 0
theorem texts_len (em : Prop) : ∀ ts : List Tr, (∀ t ∈ ts, t.Fine em) → (ts.map textT).flatten.length ≤ 514 * sizeL ts
 | [], _ => by simp [sizeL]
 | t :: ts, h => by
  have h1 := text_len em t (h t (by simp));have h2 := texts_len em ts (fun u hu => h u (by simp [hu]));simp only [List.map_cons, List.flatten_cons, List.length_append, sizeL];omega
/-- One step of the stack of texts. -/
theorem tx_step {l : List Nd} {st : List Nat} (h : ordRun l l.length = some st) {k : Nat} (hk : k < l.length) :
  OneN l[k] ∧ parts l[k] ≤ (tx l k).length ∧ tx l (k + 1) = (tx l k).take ((tx l k).length - parts l[k]) ++ [nodeS l[k] ((tx l k).drop ((tx l k).length - parts l[k])).flatten] ∧ (tx l k).flatten.length ≤ 514 * k ∧ (tx l k).length ≤ k := by
 obtain ⟨s1, h1⟩ := ord_at h k (by omega);obtain ⟨s2, h2⟩ := ord_at h (k + 1) (by omega);obtain ⟨hf, hn, hr⟩ := run_trees l k s1 h1;have hl : l[k]? = some l[k] := List.getElem?_eq_getElem hk;have hok : StepOk l l[k] s1 := by
  have h2' : (ordRun l k).bind _ = some s2 := h2;rw [h1] at h2';rw [show (some s1).bind _ = (match l[k]? with | none => none | some n => if StepOk l n s1 then some (push n k s1) else none) from rfl, hl] at h2';dsimp only at h2';split at h2'
  · assumption
  · cases h2'
 (have hlen : (treesRun l k).length = s1.length := by rw [hr, rootsL_len']);(have e : treesRun l (k + 1) = build l[k] (treesRun l k) := by simp only [treesRun, hl]);have hsz : sizeL (treesRun l k) = k := by
  have := congrArg List.length hn;rw [List.length_take, nodesL_len] at this;omega
 have hb : ∀ ts : List Tr, ts.length ≤ sizeL ts := by
  intro ts
  induction ts with
  | nil => simp [sizeL]
  | cons t ts ih => have := size_pos t; simp only [List.length_cons, sizeL]; omega
 refine ⟨hok.1, by unfold tx; rw [List.length_map, hlen]; exact hok.2.1, ?_, ?_, ?_⟩
 · unfold tx;rw [e, texts_step hok.1 (by rw [hlen]; exact hok.2.1), List.length_map]
 · have := texts_len _ _ hf;rw [hsz] at this;exact this
 · unfold tx;rw [List.length_map];have := hb (treesRun l k);omega
theorem tx_end {t : Tr} (h : Good t) : tx (t.nodes 0) t.size = [textT t] := by
 obtain ⟨i, hi⟩ := (ordered_iff (t.nodes 0)).2 ⟨t, h.1, rfl⟩;obtain ⟨hf, hn, hr⟩ := run_trees _ _ _ hi;rw [List.take_length] at hn;rw [nodes_len] at hr hn hi;unfold tx;generalize treesRun (t.nodes 0) t.size = ts at *
 match ts, hr with
 | [u], hr =>
  (have e : t.nodes 0 = u.nodes 0 := by rw [hn]; simp [nodesL]);obtain rfl := nodes_inj t u 0 e;rfl
 | [], hr => simp [rootsL] at hr
 | _ :: _ :: _, hr => simp [rootsL] at hr
theorem flat_drop (X : List (List UInt8)) (m : Nat) : (X.drop m).flatten.length ≤ X.flatten.length := by
 have := congrArg List.length (congrArg List.flatten (List.take_append_drop m X));rw [List.flatten_append, List.length_append] at this;omega
open Go.Proofs.YtlicoffnjphphaaGreatDoor.St (Wf word zeroW)
theorem num_tree (em : Prop) (w0 : World) (b0 o0 c : Nat) (l : List Nd) (hNS : Ns w0 (.slice (some ⟨b0, o0, none⟩) l.length c) l) :
  ∀ (t : Tr) (o : Nat) (s : NSt) (w : World), t.Fine em → At l t o → 0 ≤ s.g → s.g + cnt t ≤ 1000 → NW w0 (.slice (some ⟨b0, o0, none⟩) l.length c) s w → Wlk w0 (.slice (some ⟨b0, o0, none⟩) l.length c) (o + t.size - 1) (numT t) s w := by
 have key : ∀ (t : Tr) (o : Nat) (s : NSt) (w : World), At l t o → NW w0 (.slice (some ⟨b0, o0, none⟩) l.length c) s w → ((o + t.size - 1 : Nat) : Int) < ((l.length : Nat) : Int) ∧ NCell w b0 (o0 + (o + t.size - 1) * 10) (t.root o) := by
  intro t o s w ha hN;have h := at_root ha;obtain ⟨hi, e⟩ := List.getElem?_eq_some_iff.1 h;obtain ⟨b, o', e1, hc⟩ := (hNS.below hN.bel).at hi;simp only [Option.some.injEq, Addr.mk.injEq, and_true] at e1;obtain ⟨rfl, rfl⟩ := e1;rw [e] at hc;exact ⟨by omega, hc⟩
 intro t
 induction t with
 | e | set z | beg | fin =>
  intro o s w hf ha hg hg2 hN;obtain ⟨k1, k2⟩ := key _ o s w ha hN;exact num_leaf w0 w b0 o0 l.length c _ s k1 _ rfl rfl rfl rfl rfl hN k2
 | cat x y ihx ihy =>
  intro o s w hf ha hg hg2 hN;obtain ⟨k1, k2⟩ := key _ o s w ha hN;have px := cnt_pos x;have py := cnt_pos y;simp only [cnt] at hg2;have hx : At l x o := at_left (r := y.nodes (o + x.size) ++ [(Tr.cat x y).root o]) ha (by simp only [nodes, List.append_assoc]);have hy : At l y (o + x.size) := at_right (x := x) (r := [(Tr.cat x y).root o]) ha (by simp only [nodes, List.append_assoc]);exact num_4 w0 w b0 o0 l.length c _ s k1 z4 (o + x.size - 1) (o + x.size + y.size - 1) 0 0 0 (numT x) (numT y)
   (Lib.hid fun w hN => ihx o s w hf.1 hx hg (by omega) hN) (Lib.hid fun w hN => ihy (o + x.size) _ w hf.2.1 hy (by rw [num_g]; omega) (by rw [num_g]; omega) hN) hN k2
 | alt x y ihx ihy =>
  intro o s w hf ha hg hg2 hN;obtain ⟨k1, k2⟩ := key _ o s w ha hN;have px := cnt_pos x;have py := cnt_pos y;simp only [cnt] at hg2;have hx : At l x o := at_left (r := y.nodes (o + x.size) ++ [(Tr.alt x y).root o]) ha (by simp only [nodes, List.append_assoc]);have hy : At l y (o + x.size) := at_right (x := x) (r := [(Tr.alt x y).root o]) ha (by simp only [nodes, List.append_assoc]);exact num_5 w0 w b0 o0 l.length c _ s k1 z4 (o + x.size - 1) (o + x.size + y.size - 1) 0 0 0 (numT x) (numT y)
   (Lib.hid fun w hN => ihx o s w hf.1 hx hg (by omega) hN) (Lib.hid fun w hN => ihy (o + x.size) _ w hf.2.1 hy (by rw [num_g]; omega) (by rw [num_g]; omega) hN) hN k2
 | times mn mx x ihx =>
  intro o s w hf ha hg hg2 hN;obtain ⟨k1, k2⟩ := key _ o s w ha hN;simp only [cnt] at hg2;have hx : At l x o := at_left (r := [(Tr.times mn mx x).root o]) ha rfl;exact num_6 w0 w b0 o0 l.length c _ s k1 z4 (o + x.size - 1) 0 mn mx 0 (numT x) (Lib.hid fun w hN => ihx o s w hf.1 hx hg (by omega) hN) hN k2
 | grp n x ihx =>
  intro o s w hf ha hg hg2 hN;obtain ⟨k1, k2⟩ := key _ o s w ha hN;have px := cnt_pos x;simp only [cnt] at hg2;have hx : At l x o := at_left (r := [(Tr.grp n x).root o]) ha rfl;obtain ⟨h1, h2, h3⟩ := hf;obtain ⟨u, rfl⟩ : ∃ u : Nat, n = u := ⟨n.toNat, by omega⟩;cases hok : s.ok with
  | false =>
   (have e : numT (.grp (u : Int) x) s = (fun s : NSt => (⟨(numT x ⟨s.g + 1, s.e, s.r, false⟩).g, (numT x ⟨s.g + 1, s.e, s.r, false⟩).e.set u true, (numT x ⟨s.g + 1, s.e, s.r, false⟩).r, (numT x ⟨s.g + 1, s.e, s.r, false⟩).ok⟩ : NSt)) s := by simp only [numT, hok, Bool.false_and, Int.toNat_natCast]);have h := num_7f w0 w b0 o0 l.length c _ s k1 z4 (o + x.size - 1) u 0 0 0 (numT x) (by omega) hg (by omega) hok (Lib.hid fun w hN => ihx o _ w h1 hx (by show 0 ≤ s.g + 1; omega) (by show s.g + 1 + cnt x ≤ 1000; omega) hN) hN k2;unfold Wlk;rw [e];exact h
  | true =>
   by_cases hm : (u : Int) = s.g + 1
   · (have e : numT (.grp (u : Int) x) s = (fun s : NSt => (⟨(numT x ⟨s.g + 1, s.e, s.r, true⟩).g, (numT x ⟨s.g + 1, s.e, s.r, true⟩).e.set u true, (numT x ⟨s.g + 1, s.e, s.r, true⟩).r, (numT x ⟨s.g + 1, s.e, s.r, true⟩).ok⟩ : NSt)) s := by simp only [numT, hok, decide_eq_true hm, Bool.and_self, Int.toNat_natCast]);have h := num_7t w0 w b0 o0 l.length c _ s k1 z4 (o + x.size - 1) u 0 0 0 (numT x) (by omega) hg (by omega) hok (by rw [beq_iff_eq]; exact hm) (Lib.hid fun w hN => ihx o _ w h1 hx (by show 0 ≤ s.g + 1; omega) (by show s.g + 1 + cnt x ≤ 1000; omega) hN) hN k2;unfold Wlk;rw [e];exact h
   · (have e : numT (.grp (u : Int) x) s = (fun s : NSt => (⟨(numT x ⟨s.g + 1, s.e, s.r, false⟩).g, (numT x ⟨s.g + 1, s.e, s.r, false⟩).e.set u true, (numT x ⟨s.g + 1, s.e, s.r, false⟩).r, (numT x ⟨s.g + 1, s.e, s.r, false⟩).ok⟩ : NSt)) s := by simp only [numT, hok, decide_eq_false hm, Bool.and_false, Int.toNat_natCast]);have h := num_7n w0 w b0 o0 l.length c _ s k1 z4 (o + x.size - 1) u 0 0 0 (numT x) (by omega) hg (by omega) hok (by rw [beq_eq_false_iff_ne]; exact hm) (Lib.hid fun w hN => ihx o _ w h1 hx (by show 0 ≤ s.g + 1; omega) (by show s.g + 1 + cnt x ≤ 1000; omega) hN) hN k2;unfold Wlk;rw [e];exact h
 | ref n =>
  intro o s w hf ha hg hg2 hN;obtain ⟨k1, k2⟩ := key _ o s w ha hN;obtain ⟨h1, h2⟩ := hf;obtain ⟨u, rfl⟩ : ∃ u : Nat, n = u := ⟨n.toNat, by omega⟩;cases hok : s.ok with
  | false =>
   (have e : numT (.ref (u : Int)) s = (fun s : NSt => (⟨s.g, s.e, true, false⟩ : NSt)) s := by simp only [numT, hok, Bool.false_and]);have h := num_8f w0 w b0 o0 l.length c _ s k1 z4 u 0 0 0 0 (by omega) hok hN k2;unfold Wlk;rw [e];exact h
  | true =>
   (have e : numT (.ref (u : Int)) s = (fun s : NSt => (⟨s.g, s.e, true, (s.e[u]?).getD false⟩ : NSt)) s := by simp only [numT, hok, Bool.true_and, Int.toNat_natCast]);have h := num_8t w0 w b0 o0 l.length c _ s k1 z4 u 0 0 0 0 (by omega) hok hN k2;unfold Wlk;rw [e];exact h
/-- The cells with what they hold. -/
def NA (w0 : World) (v : Value) (s : NSt) (w : World) : Prop := NW w0 v s w ∧
  (w.cell? ⟨w0.heap.size + 1, 0, none⟩ = some (E s.g) ∧ w.cell? ⟨w0.heap.size + 1 + 1, 0, none⟩ = some (.bool s.r) ∧ w.cell? ⟨w0.heap.size + 1 + 1 + 1, 0, none⟩ = some (.bool s.ok)) ∧
  (w.frozen? ⟨w0.heap.size + 1, 0, none⟩ = false ∧ w.frozen? ⟨w0.heap.size + 1 + 1, 0, none⟩ = false ∧ w.frozen? ⟨w0.heap.size + 1 + 1 + 1, 0, none⟩ = false)
theorem NW.all {w0 w : World} {v : Value} {s : NSt} (h : NW w0 v s w) : NA w0 v s w := ⟨h, ⟨h.cells.1.2.1, h.cells.1.2.2.1, h.cells.1.2.2.2.1⟩, h.cells.2⟩
theorem NW.drew {w0 w : World} {v : Value} {s : NSt} (h : NW w0 v s w) : NW w0 v s w.drew := ⟨h.l, h.g, h.r, h.ok, h.e, h.f, h.len, h.bel.drew⟩
abbrev F10 : Array Value := #[.bool false, .bool false, .bool false, .bool false, .bool false, .bool false, .bool false, .bool false, .bool false, .bool false]
theorem nw_start (w : World) (v : Value) : NW w v num0 ((((((w.alloc (.cells #[v] 22)).alloc (.cells #[E 0] 3)).alloc (.cells #[.bool false] 4)).alloc (.cells #[.bool true] 4)).alloc (.cells F10 118)).alloc (.cells #[FV w.heap.size] 131)) := by
 (have key : ∀ (W : World) (o : Obj) (k : Nat), k = W.heap.size → (W.alloc o).heap[k]? = some o := fun W o k h => by subst h; exact heap_alloc_new W o);(have far : ∀ (W : World) (o o' : Obj) (k : Nat), k < W.heap.size → W.heap[k]? = some o' → (W.alloc o).heap[k]? = some o' := fun W o o' k h h2 => (Below.heap_alloc _ _ _ h).trans h2);refine ⟨?_, ?_, ?_, ?_, ?_, ?_, rfl, ?_⟩
 · exact far _ _ _ _ (by simp; try omega) (far _ _ _ _ (by simp; try omega) (far _ _ _ _ (by simp; try omega) (far _ _ _ _ (by simp; try omega) (far _ _ _ _ (by simp) (key _ _ _ rfl)))))
 · exact far _ _ _ _ (by simp; try omega) (far _ _ _ _ (by simp; try omega) (far _ _ _ _ (by simp; try omega) (far _ _ _ _ (by simp) (key _ _ _ (by simp)))))
 · exact far _ _ _ _ (by simp; try omega) (far _ _ _ _ (by simp; try omega) (far _ _ _ _ (by simp) (key _ _ _ (by simp))))
 · exact far _ _ _ _ (by simp; try omega) (far _ _ _ _ (by simp) (key _ _ _ (by simp)))
 · exact far _ _ _ _ (by simp) (key _ _ _ (by simp))
 · exact key _ _ _ (by simp)
 · exact (((((Below.refl w.heap.size w).alloc (Nat.le_refl _) _).alloc (by simp) _).alloc (by simp; omega) _).alloc (by simp; omega) _).alloc (by simp; omega) _ |>.alloc (by simp; omega) _
theorem results_cell3 {fn : Func} {p q r : Tmp} {a b c : TypeId} (h : fn.results = #[.cell p a, .cell q b, .cell r c]) (tmps : Array Value) (P : Program) (w : World) :
  (results fn tmps).run P w =
   ((asAddr (tmps.getD p undef)).run P w).andThen fun x w₁ => ((loadVar a x).run P w₁).andThen fun v w₂ =>
   ((asAddr (tmps.getD q undef)).run P w₂).andThen fun x w₁ => ((loadVar b x).run P w₁).andThen fun v' w₂ =>
   ((asAddr (tmps.getD r undef)).run P w₂).andThen fun x w₁ => ((loadVar c x).run P w₁).andThen fun v'' w₂ => .ok (.tuple #[v, v', v'']) w₂ := by
 simp only [results, h];simp [Sem.run_bind, Result.andThen]
theorem numbered_tree (t : Tr) (ao : Option Addr) (c : Nat) (w : World) (h : Ns w (.slice ao (t.nodes 0).length c) (t.nodes 0)) (hw : Whole t) (hs : t.size ≤ 120) :
  Calls Tryz.prog 57 #[.slice ao (t.nodes 0).length c] w fun e w' => e = .returned (.tuple #[E (numT t num0).g, .bool (numT t num0).r, .bool (numT t num0).ok]) ∧ Below w.heap.size w w' := by
 have hp := size_pos t;have hlen := nodes_len t 0;(have hmf : ∀ (fn : Fn) (first cap : Array Value) (w : World), (Instr.makeFunc fn first cap).run Tryz.prog w = .ok (.func fn first cap) w := fun _ _ _ _ => rfl);obtain ⟨b0, o0, rfl, _⟩ := h.at (i := 0) (by omega);obtain ⟨s1, hs1⟩ : ∃ s1, s1 = numT t num0 := ⟨_, rfl⟩;rw [← hs1];have HC : Hid (∀ W, NW w (.slice (some ⟨b0, o0, none⟩) t.size c) num0 W → Wlk w (.slice (some ⟨b0, o0, none⟩) t.size c) (t.size - 1) (fun _ => s1) num0 W) := Lib.hid (fun W hN => by
  subst hs1;rw [← hlen] at hN ⊢;have := num_tree (t.size ≤ 1) w b0 o0 c _ h t 0 num0 W hw (at_self t) (by decide) (by
   have := cnt_size t;show 0 + cnt t ≤ 1000;omega) hN
  rw [Nat.zero_add, ← hlen] at this;exact this)
 clear hs1;rw [hlen];clear h;(have hlt : (1 : Int) ≤ ((t.size : Nat) : Int) := by omega);(have hsub : IntKind.i64.wrap (((t.size : Nat) : Int) - 1) = ((t.size - 1 : Nat) : Int) := by rw [IntKind.wrap_i64]; omega);go_enter Tryz.func57, Tryz.ntmps57;go_wp2_with (go_at_call 79; refine (HC.out _ (nw_start w _)).mono ?_; rintro e w1 ⟨rfl, hn, hk⟩; have HN1 := Lib.hid hn; obtain ⟨⟨c0, c1, c2, c3, c5⟩, cf1, cf2, cf3⟩ := HN1.out.cells; have HN2 := Lib.hid HN1.out.drew; clear hn hk);refine wp_region_noPanic ?_;refine wp_region_held_drew (S := fun w' => NW w (.slice (some ⟨b0, o0, none⟩) t.size c) s1 w' ∧ (w'.cell? ⟨w.heap.size + 1, 0, none⟩ = some (E s1.g) ∧ w'.cell? ⟨w.heap.size + 1 + 1, 0, none⟩ = some (.bool s1.r) ∧ w'.cell? ⟨w.heap.size + 1 + 1 + 1, 0, none⟩ = some (.bool s1.ok)) ∧
  (w'.frozen? ⟨w.heap.size + 1, 0, none⟩ = false ∧ w'.frozen? ⟨w.heap.size + 1 + 1, 0, none⟩ = false ∧ w'.frozen? ⟨w.heap.size + 1 + 1 + 1, 0, none⟩ = false)) (by kernel_rfl) ?_ (fun hHeld => ?_)
 · (try dsimp only); exact HN2.out.all
 clear HN1 HN2;generalize w1.drew = w2 at *;refine Tk.t 0 ?_;refine Tk.t 1 ?_;refine Tk.t 2 ?_;refine Tk.o 3 (fun K hK => ?_);obtain ⟨hN0, ⟨y0, y1, y2⟩, y3, y4, y5⟩ := hHeld;go_simp;refine hK.out _ _ ?_ (fun hHeld => Tk.w ?_)
 · (try dsimp only); (first | exact (NW.setG hN0 s1.g).all | exact (NW.setR hN0 s1.r).all | exact (NW.setO hN0 s1.ok).all)
 clear hK K;refine Tk.o 4 (fun K hK => ?_);obtain ⟨hN0, ⟨y0, y1, y2⟩, y3, y4, y5⟩ := hHeld;go_simp;refine hK.out _ _ ?_ (fun hHeld => Tk.w ?_)
 · (try dsimp only); (first | exact (NW.setG hN0 s1.g).all | exact (NW.setR hN0 s1.r).all | exact (NW.setO hN0 s1.ok).all)
 clear hK K;refine Tk.o 5 (fun K hK => ?_);obtain ⟨hN0, ⟨y0, y1, y2⟩, y3, y4, y5⟩ := hHeld;go_simp;refine hK.out _ _ ?_ (fun hHeld => Tk.w ?_)
 · (try dsimp only); (first | exact (NW.setG hN0 s1.g).all | exact (NW.setR hN0 s1.r).all | exact (NW.setO hN0 s1.ok).all)
 clear hK K;refine Tk.d ?_;have HZ := Lib.hid hHeld;obtain ⟨_, ⟨y0, y1, y2⟩, _⟩ := hHeld;go_wp2;refine bodyPost_ret (v := .tuple #[E s1.g, .bool s1.r, .bool s1.ok]) ?_ rfl ⟨rfl, HZ.out.1.bel⟩;rw [results_cell3 rfl];go_simp
abbrev LR (l : List Nd) : Value := .tuple #[E (groupsL l), .bool (refsL l), .bool (mayL l)]
theorem lr_none {l : List Nd} (h : patOf l = none) : LR l = .tuple #[E 0, .bool false, .bool false] := by
 unfold LR groupsL refsL mayL; rw [h]; rfl
theorem lr_some {l : List Nd} {t : Tr} (h : patOf l = some t) : LR l = .tuple #[E (cnt t), .bool (decide (0 < refsT t)), .bool true] := by
 unfold LR groupsL refsL mayL; rw [h]; rfl
theorem pat_long {l : List Nd} (h : 120 < l.length) : patOf l = none := by
 cases e : patOf l with
 | none => rfl
 | some t =>
  obtain ⟨h1, h2⟩ := patOf_some e;have := h2.2.1;rw [h1, nodes_len] at h;omega
theorem pat_out {l : List Nd} (h : ¬ Ordered l) : patOf l = none := by
 cases e : patOf l with
 | none => rfl
 | some t =>
  obtain ⟨h1, h2⟩ := patOf_some e;exact absurd ((ordered_iff l).2 ⟨t, h2.1, h1⟩) h
theorem look_nil (ao : Option Addr) (c : Nat) (w : World) : Calls Tryz.prog 41 #[.slice ao 0 c] w fun e w' => e = .returned (.tuple #[E 0, .bool false, .bool false]) ∧ Below w.heap.size w w' := by
 go_enter Tryz.func41, Tryz.ntmps41;go_wp2;refine bodyPost_ret (v := .tuple #[E 0, .bool false, .bool false]) ?_ rfl ⟨rfl, Below.refl _ _⟩;rw [results_tmp3 rfl];rfl
theorem look_long (ao : Option Addr) (n c : Nat) (h : 120 < n) (w : World) : Calls Tryz.prog 41 #[.slice ao n c] w fun e w' => e = .returned (.tuple #[E 0, .bool false, .bool false]) ∧ Below w.heap.size w w' := by
 (have h0 : (((n : Nat) : Int) == 0) = false := by simp; omega);(have h1 : (120 : Int) < ((n : Nat) : Int) := by omega);go_enter Tryz.func41, Tryz.ntmps41;go_wp2;refine bodyPost_ret (v := .tuple #[E 0, .bool false, .bool false]) ?_ rfl ⟨rfl, Below.refl _ _⟩;rw [results_tmp3 rfl];rfl
theorem look_out (ao : Option Addr) (c : Nat) (l : List Nd) (w : World) (h : Ns w (.slice ao l.length c) l) (hw : ∀ n ∈ l, Wf n.s) (hl0 : 0 < l.length) (hl : l.length ≤ 120) (ho : ¬ Ordered l) :
  Calls Tryz.prog 41 #[.slice ao l.length c] w fun e w' => e = .returned (.tuple #[E 0, .bool false, .bool false]) ∧ Below w.heap.size w w' := by
 have C1 := ordered_any ao c l w h hw hl;rw [decide_eq_false ho] at C1;have HC := Lib.hid C1;clear C1 h hw ho;(have h0 : (((l.length : Nat) : Int) == 0) = false := by rw [beq_eq_false_iff_ne]; omega);(have h1 : ¬ (120 : Int) < ((l.length : Nat) : Int) := by omega);generalize l.length = n at *;go_enter Tryz.func41, Tryz.ntmps41;go_wp2_with (go_at_call 56; refine HC.out.mono ?_; rintro e w1 ⟨rfl, hb⟩; have HB := Lib.hid hb; clear hb);refine bodyPost_ret (v := .tuple #[E 0, .bool false, .bool false]) ?_ rfl ⟨rfl, HB.out⟩;rw [results_tmp3 rfl];rfl
theorem look_tree (t : Tr) (ao : Option Addr) (c : Nat) (w : World) (h : Ns w (.slice ao (t.nodes 0).length c) (t.nodes 0)) (hw : ∀ n ∈ t.nodes 0, Wf n.s) (ht : Whole t) (hs : t.size ≤ 120) :
  Calls Tryz.prog 41 #[.slice ao (t.nodes 0).length c] w fun e w' => e = .returned (LR (t.nodes 0)) ∧ Below w.heap.size w w' := by
 have hp := size_pos t;have hlen := nodes_len t 0;have C1 := ordered_any ao c _ w h hw (by omega);rw [decide_eq_true ((ordered_iff _).2 ⟨t, ht, rfl⟩)] at C1;have HC := Lib.hid C1;have HC2 := Lib.hid (fun w' (hb : Below w.heap.size w w') => numbered_tree t ao c w' (h.below hb) ht hs);have HL : Hid (LR (t.nodes 0) = if (numT t num0).ok = true then .tuple #[E (numT t num0).g, .bool (numT t num0).r, .bool true] else .tuple #[E 0, .bool false, .bool false]) := Lib.hid (by
  split
  · rename_i hok;rw [lr_some (patOf_good ⟨ht, hs, hok⟩), num_g, num_r];show _ = Value.tuple #[E (0 + cnt t), .bool (false || _), .bool true];rw [Int.zero_add, Bool.false_or]
  ·
   rename_i hok;refine lr_none ?_;cases e : patOf (t.nodes 0) with
   | none => rfl
   | some u =>
    obtain ⟨h1, h2⟩ := patOf_some e;obtain rfl := nodes_inj t u 0 h1;exact absurd h2.2.2 hok)
 clear C1 h hw;(have h0 : (((t.nodes 0).length : Int) == 0) = false := by rw [hlen]; simp; omega);(have h1 : ¬ (120 : Int) < (((t.nodes 0).length : Nat) : Int) := by omega);clear hlen;generalize (t.nodes 0).length = n at *;generalize numT t num0 = s1 at *;cases hok : s1.ok with
 | false =>
  rw [hok] at HC2 HL;go_enter Tryz.func41, Tryz.ntmps41;go_wp2_with (first
   | (go_at_call 56; refine HC.out.mono ?_; rintro e w1 ⟨rfl, hb⟩; have HB := Lib.hid hb; clear hb)
   | (go_at_call 57; refine (HC2.out _ HB.out).mono ?_; rintro e w2 ⟨rfl, hb⟩; have HB2 := Lib.hid hb; clear hb))
  refine bodyPost_ret (v := .tuple #[E 0, .bool false, .bool false]) ?_ rfl ⟨by rw [HL.out]; rfl, HB.out.trans (HB2.out.mono HB.out.size)⟩;rw [results_tmp3 rfl];rfl
 | true =>
  rw [hok] at HC2 HL;go_enter Tryz.func41, Tryz.ntmps41;go_wp2_with (first
   | (go_at_call 56; refine HC.out.mono ?_; rintro e w1 ⟨rfl, hb⟩; have HB := Lib.hid hb; clear hb)
   | (go_at_call 57; refine (HC2.out _ HB.out).mono ?_; rintro e w2 ⟨rfl, hb⟩; have HB2 := Lib.hid hb; clear hb))
  refine bodyPost_ret (v := .tuple #[E s1.g, .bool s1.r, .bool true]) ?_ rfl ⟨by rw [HL.out]; rfl, HB.out.trans (HB2.out.mono HB.out.size)⟩;rw [results_tmp3 rfl];rfl
theorem look_any (ao : Option Addr) (c : Nat) (l : List Nd) (w : World) (h : Ns w (.slice ao l.length c) l) (hw : ∀ n ∈ l, Wf n.s) :
  Calls Tryz.prog 41 #[.slice ao l.length c] w fun e w' => e = .returned (LR l) ∧ Below w.heap.size w w' := by
 by_cases h0 : l.length = 0
 · obtain rfl := List.length_eq_zero_iff.1 h0;rw [lr_none rfl];exact look_nil ao c w
 by_cases h1 : 120 < l.length
 · rw [lr_none (pat_long h1)];exact look_long ao l.length c h1 w
 by_cases ho : Ordered l
 · obtain ⟨t, ht, rfl⟩ := (ordered_iff l).1 ho;exact look_tree t ao c w h hw ht (by rw [nodes_len] at h1; omega)
 · rw [lr_none (pat_out ho)];exact look_out ao c l w h hw (by omega) (by omega) ho
theorem may_any (ao : Option Addr) (c : Nat) (l : List Nd) (w : World) (h : Ns w (.slice ao l.length c) l) (hw : ∀ n ∈ l, Wf n.s) :
  Calls Tryz.prog 24 #[.slice ao l.length c] w fun e w' => e = .returned (.bool (mayL l)) ∧ Below w.heap.size w w' := by
 have HC := Lib.hid (look_any ao c l w h hw);clear h hw;generalize l.length = n at *;go_enter Tryz.func24, Tryz.ntmps24;go_wp2_with (go_at_call 41; refine HC.out.mono ?_; rintro e w1 ⟨rfl, hb⟩; have HB := Lib.hid hb; clear hb);go_ret;exact ⟨rfl, HB.out⟩
theorem groups_any (ao : Option Addr) (c : Nat) (l : List Nd) (w : World) (h : Ns w (.slice ao l.length c) l) (hw : ∀ n ∈ l, Wf n.s) :
  Calls Tryz.prog 25 #[.slice ao l.length c] w fun e w' => e = .returned (E (groupsL l)) ∧ Below w.heap.size w w' := by
 have HC := Lib.hid (look_any ao c l w h hw);clear h hw;generalize l.length = n at *;go_enter Tryz.func25, Tryz.ntmps25;go_wp2_with (go_at_call 41; refine HC.out.mono ?_; rintro e w1 ⟨rfl, hb⟩; have HB := Lib.hid hb; clear hb);go_ret;exact ⟨rfl, HB.out⟩
theorem refs_any (ao : Option Addr) (c : Nat) (l : List Nd) (w : World) (h : Ns w (.slice ao l.length c) l) (hw : ∀ n ∈ l, Wf n.s) :
  Calls Tryz.prog 46 #[.slice ao l.length c] w fun e w' => e = .returned (.bool (refsL l)) ∧ Below w.heap.size w w' := by
 have HC := Lib.hid (look_any ao c l w h hw);clear h hw;generalize l.length = n at *;go_enter Tryz.func46, Tryz.ntmps46;go_wp2_with (go_at_call 41; refine HC.out.mono ?_; rintro e w1 ⟨rfl, hb⟩; have HB := Lib.hid hb; clear hb);go_ret;exact ⟨rfl, HB.out⟩
end Go.Proofs.YtlicoffnjphphaaGreatDoor.Rx
