/- The texts SnS SnM SnC SnG SnN6 SnT6 SnP6 MtB MtLaw0 RxSh. -/
import Derived.ProofKit
import Derived.OpenShut
import Derived.Carry
import Derived.Lib.SmallJoins
import Derived.Deep.Grids
import Derived.Laws.IdiomArrays
import Derived.Lib.LaidTab
import Derived.Test.YthpiapemjadgdaaGreatDoorCk07
import Derived.Test.YthpiapemjadgdaaGreatDoorCk10
import Derived.Test.YthpiapemjadgdaaGreatDoorCk11
import Derived.Test.YthpiapemjadgdaaGreatDoorCk19
set_option linter.unusedVariables false
set_option linter.unusedSimpArgs false
set_option maxHeartbeats 3200000
set_option maxRecDepth 100000
namespace Go.Proofs.YthpiapemjadgdaaGreatDoor.Rx
open Go.RowKit Go.Shelf
open St (Wf word zeroW Tab SV SV_eq)
open Ad (cutB atoiV)
theorem node_s1 (B : Bool) (w0 : World) (b left : Nat) (lf : Int) (c : UInt8) (t s : List UInt8) (l : List Nd) (g : Int) (v : Value) (w : World) (hs : s = c :: t) (h : RW w0 b ⟨s, l, g, false⟩ v w) (hL : Lay w0) (hlen : s.length + l.length ≤ 100000) (hl : l.length ≤ 120) (hg0 : 0 ≤ g) (hg1 : g + s.length ≤ 100000) (hlf : lf = ((left + 1 : Nat) : Int)) (hle : left ≤ 1000) (IH : Below2 B w0 b left) (hA : nodeA B (left + 1) ⟨s, l, g, false⟩ = true)
  (hc : c = 91) :
  Calls Tryz.prog 60 #[PT b, E lf] w (NodeAns w0 b (left + 1) ⟨s, l, g, false⟩ v w) := by
 obtain ⟨ao, cap, rfl⟩ : ∃ ao cap, v = .slice ao l.length cap := own_slice h.own;obtain ⟨i0, hi, hz0, hz1, hz2⟩ := info_parts infoNd;have HO := Hd (show nodeP (left + 1) ⟨s, l, g, false⟩ = pushP (setP ⟨t, l, g, false⟩).1 ⟨1, (setP ⟨t, l, g, false⟩).2, 0, 0, 0, 0, 0⟩ from by
  rw [hs]; rw [node_step hl]; subst hc; rfl)
 have HA1 := Hd (nodeA_s (by rw [hs, hc] at hA; exact hA));clear hA;(have hne : (s == []) = false := by rw [hs]; rfl);(have hlt : 0 < s.length := by rw [hs]; simp);(have hx : ((ByteArray.mk s.toArray)[0]'hlt) = c := by subst hs; rfl);(have hsz : (ByteArray.mk s.toArray).size = s.length := by simp [ByteArray.size]);(have hlt' : (0 : Int) < ((s.length : Nat) : Int) := by omega);have e2 := ex_drop (l := s) 1;(have hr : s.drop 1 = t := by rw [hs]; rfl);(have htl : t.length + 1 = s.length := by rw [hs]; rfl);rw [hr] at e2;(have h1' : (1 : Int) ≤ ((s.length : Nat) : Int) := by omega);(have h0 : (lf == 0) = false := by rw [beq_eq_false_iff_ne]; omega);(have hgt : ¬ (120 : Int) < ((l.length : Nat) : Int) := by omega);have HL := Hd hL;have HR0 := Hd h;have HS0 := Hd (st_start HR0.out lf t N0);dsimp only at HS0;obtain ⟨⟨c0, c1, c2, c3⟩, f0, f1, f2, f3⟩ := HR0.out.cells
 skip
 dsimp only at c0 c1 c2 c3;have hlb := HR0.out.lt;have HLF := Hd hlf;clear hs h hL hr hlf;subst hc
 skip
 go_enter Tryz.func60, Tryz.ntmps60
 skip
 go_wp2;go_region;have HB := Hd (rbytes_any1 w0 b ⟨t, l, g, false⟩ _ _ HS0.out.rw HL.out (by dsimp only; omega) HA1.out.1 HA1.out.2);clear HA1;have HLL := Hd (show (setP ⟨t, l, g, false⟩).1.l = l from rfl);have hsv := St.SV_eq (wf_set ⟨t, l, g, false⟩);generalize setP ⟨t, l, g, false⟩ = q at *;obtain ⟨r, z⟩ := q;dsimp only at HB HLL hsv HO;rw [hsv] at HB;clear hsv;go_wp2_with (go_at_call 82; refine HB.out.mono ?_; rintro e w2 ⟨rfl, hr2, hk2⟩; have HS2 := Hd (HS0.out.step hr2 hk2); clear hr2 hk2; obtain ⟨⟨x2p, x2l⟩, ⟨x20, x21, x22, x23, x24, x25, x26, x27, x28, x29⟩, x2z⟩ := HS2.out.facts; obtain ⟨⟨x2a, x2b, x2c, x2d⟩, x2e, x2f, x2g, x2h⟩ := HS2.out.rw.cells; (try dsimp only at x2a x2b x2c x2d));have HSa := Hd ((((((((((HS2.out.node (i := 0) (u := E 1) (m := ⟨1, [0, 0, 0, 0], 0, 0, 0, 0, 0⟩) rfl).node (i := 1) (u := U (word z 0)) (m := ⟨1, [word z 0, 0, 0, 0], 0, 0, 0, 0, 0⟩) rfl).node (i := 2) (u := U (word z 1)) (m := ⟨1, [word z 0, word z 1, 0, 0], 0, 0, 0, 0, 0⟩) rfl).node (i := 3) (u := U (word z 2)) (m := ⟨1, [word z 0, word z 1, word z 2, 0], 0, 0, 0, 0, 0⟩) rfl).node (i := 4) (u := U (word z 3)) (m := ⟨1, z, 0, 0, 0, 0, 0⟩) rfl).node (i := 5) (u := E 0) (m := ⟨1, z, 0, 0, 0, 0, 0⟩) rfl).node (i := 6) (u := E 0) (m := ⟨1, z, 0, 0, 0, 0, 0⟩) rfl).node (i := 7) (u := E 0) (m := ⟨1, z, 0, 0, 0, 0, 0⟩) rfl).node (i := 8) (u := E 0) (m := ⟨1, z, 0, 0, 0, 0, 0⟩) rfl).node (i := 9) (u := E 0) (m := ⟨1, z, 0, 0, 0, 0, 0⟩) rfl);clear x2p x2l x20 x21 x22 x23 x24 x25 x26 x27 x28 x29 x2z x2a x2b x2c x2d x2e x2f x2g x2h;have HLEN := Hd (show r.l.length ≤ 200000 by rw [HLL.out]; omega);refine at_world (p := fun W => ST w0 b w _ lf ⟨1, z, 0, 0, 0, 0, 0⟩ _ _ W) HSa.out (fun W hW => ?_);have HSD := Hd (hW.below (Below.refl _ _).drew);clear hW;(refine Tk.g (fun w' => SQ w b ⟨1, z, 0, 0, 0, 0, 0⟩ w') (by exact sq_of HSD.out) fun hH => ?_);revert HSD hH;generalize World.drew _ = W8;intro HSD hH;refine Tk.k (fun _ h => (sq_cells h)) 0 ?_;refine Tk.k (fun _ h => (sq_cells h)) 1 ?_;refine Tk.k (fun _ h => (sq_cells h)) 2 ?_;refine Tk.k (fun _ h => (sq_cells h)) 3 ?_;refine Tk.k (fun _ h => (sq_cells h)) 5 ?_;refine wpAnyH_ready (rs := [4, 6]) (by kernel_rfl) (by simp) ?_;refine AllReadyH.cons (o := ?o4t5) ?hi4t5 (fun K hK => ?st4t5) (AllReadyH.cons (o := ?o6t5) ?hi6t5 (fun K hK => ?st6t5) AllReadyH.nil);(case hi4t5 => simp only [List.getElem?_toArray, List.getElem?_cons_succ, List.getElem?_cons_zero]; rfl);(case hi6t5 => simp only [List.getElem?_toArray, List.getElem?_cons_succ, List.getElem?_cons_zero]; rfl);case st4t5 =>
  have hPrev := hH;have hcl := HSD.out.rw.cells.1.2.1;(try dsimp only at hcl);go_simp;(refine hK.out _ _ (by exact hPrev) fun hH => Tk.w ?_);clear hK K hcl;refine Tk.o 6 (fun K hK => ?_);go_simp;have HSA := Hd (HSD.out.below ((Below.refl _ _).alloc (Nat.le_refl _) (.cells (NC ⟨1, z, 0, 0, 0, 0, 0⟩) 48)));(refine hK.out _ _ (by exact sq_of HSA.out) fun hH => Tk.w ?_);clear hK K;have HNW := Hd (@news_row W8 ⟨1, z, 0, 0, 0, 0, 0⟩);revert HSA hH HNW;generalize World.alloc _ _ = W9;intro HSA hH HNW;refine Tk.o 7 (fun K hK => ?_);(refine step_append_lies _ rfl _ _ 22 rfl w0.heap.size 48 i0 _ 10 80 Tryz.underlying22 hi hz0 hz1 hz2 rfl (by decide) _ _ _ rfl HSA.out.rw.own ⟨_, 0, none⟩ 1 1 (NC ⟨1, z, 0, 0, 0, 0, 0⟩).toList rfl rfl HNW.out (one_row _) (by decide) (by have := HLEN.out; (try dsimp only at this ⊢); unfold maxLen; omega) (by have := HLEN.out; (try dsimp only at this ⊢); omega) HSA.out.rw.bel.size _ rfl ?_; intro gg gcap w4 hown hgrow hat hlt4);have HP0 := rw_push HSA.out.rw hown hgrow hat;have HP := Hd HP0;clear HP0;have hq8 := sq_grown HSA.out hgrow;(refine hK.out _ _ (by exact hq8) fun hH => Tk.w ?_);clear hK K hq8;refine Tk.k (fun _ h => (sq_cells h)) 8 ?_;refine Tk.k (fun _ h => (sq_cells h)) 9 ?_;refine Tk.o 10 (fun K hK => ?_);have hf4 := fz_grown HSA.out hgrow 1;have hc4 := cell_grown HSA.out hgrow;go_simp;have HZ := Hd (HSA.out.step HP.out.1 HP.out.2);(refine hK.out _ _ (by exact sq_of HZ.out) fun hH => Tk.w ?_);clear hK K hf4 hc4;refine Tk.d ?_;clear hH hgrow hown hat hlt4 HP HSA HSD HNW;revert HZ;generalize World.setCell _ _ _ = W10;intro HZ;obtain ⟨⟨p0, p1⟩, _, _⟩ := HZ.out.facts;obtain ⟨⟨y0, y1, y2, y3⟩, _, _, _, _⟩ := HZ.out.rw.cells;(try dsimp only at y0 y1 y2 y3);(have hw1 : IntKind.i64.wrap ((((r.l).length + 1 : Nat) : Int) - 1) = (((r.l).length : Nat) : Int) := by have := HLEN.out; rw [IntKind.wrap_i64]; omega);have hlen9 := HLEN.out;go_wp2;go_ret;refine ⟨_, ?_, ?_, HZ.out.kr⟩
  · rw [HO.out]; rfl
  · rw [HO.out]; exact HZ.out.rw
 case st6t5 =>
  go_simp;have HSA := Hd (HSD.out.below ((Below.refl _ _).alloc (Nat.le_refl _) (.cells (NC ⟨1, z, 0, 0, 0, 0, 0⟩) 48)));(refine hK.out _ _ (by exact sq_of HSA.out) fun hH => Tk.w ?_);clear hK K;have HNW := Hd (@news_row W8 ⟨1, z, 0, 0, 0, 0, 0⟩);revert HSA hH HNW;generalize World.alloc _ _ = W9;intro HSA hH HNW;have hPrev := hH;refine Tk.o 4 (fun K hK => ?_);have hcl := HSA.out.rw.cells.1.2.1;(try dsimp only at hcl);go_simp;(refine hK.out _ _ (by exact hPrev) fun hH => Tk.w ?_);clear hK K hcl;refine Tk.o 7 (fun K hK => ?_);(refine step_append_lies _ rfl _ _ 22 rfl w0.heap.size 48 i0 _ 10 80 Tryz.underlying22 hi hz0 hz1 hz2 rfl (by decide) _ _ _ rfl HSA.out.rw.own ⟨_, 0, none⟩ 1 1 (NC ⟨1, z, 0, 0, 0, 0, 0⟩).toList rfl rfl HNW.out (one_row _) (by decide) (by have := HLEN.out; (try dsimp only at this ⊢); unfold maxLen; omega) (by have := HLEN.out; (try dsimp only at this ⊢); omega) HSA.out.rw.bel.size _ rfl ?_; intro gg gcap w4 hown hgrow hat hlt4);have HP0 := rw_push HSA.out.rw hown hgrow hat;have HP := Hd HP0;clear HP0;have hq8 := sq_grown HSA.out hgrow;(refine hK.out _ _ (by exact hq8) fun hH => Tk.w ?_);clear hK K hq8;refine Tk.k (fun _ h => (sq_cells h)) 8 ?_;refine Tk.k (fun _ h => (sq_cells h)) 9 ?_;refine Tk.o 10 (fun K hK => ?_);have hf4 := fz_grown HSA.out hgrow 1;have hc4 := cell_grown HSA.out hgrow;go_simp;have HZ := Hd (HSA.out.step HP.out.1 HP.out.2);(refine hK.out _ _ (by exact sq_of HZ.out) fun hH => Tk.w ?_);clear hK K hf4 hc4;refine Tk.d ?_;clear hH hgrow hown hat hlt4 HP HSA HSD HNW;revert HZ;generalize World.setCell _ _ _ = W10;intro HZ;obtain ⟨⟨p0, p1⟩, _, _⟩ := HZ.out.facts;obtain ⟨⟨y0, y1, y2, y3⟩, _, _, _, _⟩ := HZ.out.rw.cells;(try dsimp only at y0 y1 y2 y3);(have hw1 : IntKind.i64.wrap ((((r.l).length + 1 : Nat) : Int) - 1) = (((r.l).length : Nat) : Int) := by have := HLEN.out; rw [IntKind.wrap_i64]; omega);have hlen9 := HLEN.out;go_wp2;go_ret;refine ⟨_, ?_, ?_, HZ.out.kr⟩
  · rw [HO.out]; rfl
  · rw [HO.out]; exact HZ.out.rw
theorem node_m1 (B : Bool) (w0 : World) (b left : Nat) (lf : Int) (c : UInt8) (t s : List UInt8) (l : List Nd) (g : Int) (v : Value) (w : World) (hs : s = c :: t) (h : RW w0 b ⟨s, l, g, false⟩ v w) (hL : Lay w0) (hlen : s.length + l.length ≤ 100000) (hl : l.length ≤ 120) (hg0 : 0 ≤ g) (hg1 : g + s.length ≤ 100000) (hlf : lf = ((left + 1 : Nat) : Int)) (hle : left ≤ 1000) (IH : Below2 B w0 b left) (hA : nodeA B (left + 1) ⟨s, l, g, false⟩ = true)
  (hc : c = 42) :
  Calls Tryz.prog 60 #[PT b, E lf] w (NodeAns w0 b (left + 1) ⟨s, l, g, false⟩ v w) := by
 obtain ⟨ao, cap, rfl⟩ : ∃ ao cap, v = .slice ao l.length cap := own_slice h.own;obtain ⟨i0, hi, hz0, hz1, hz2⟩ := info_parts infoNd;have HO := Hd (show nodeP (left + 1) ⟨s, l, g, false⟩ = pushP (nodeP left (numP 59 (numP 44 ⟨t, l, g, false⟩).1).1).1 ⟨6, z4, (nodeP left (numP 59 (numP 44 ⟨t, l, g, false⟩).1).1).2, 0, (numP 44 ⟨t, l, g, false⟩).2, (numP 59 (numP 44 ⟨t, l, g, false⟩).1).2, 0⟩ from by
  rw [hs]; rw [node_step hl]; subst hc; rfl)
 have hA2 := nodeA_m (by rw [hs, hc] at hA; exact hA);clear hA;(have hne : (s == []) = false := by rw [hs]; rfl);(have hlt : 0 < s.length := by rw [hs]; simp);(have hx : ((ByteArray.mk s.toArray)[0]'hlt) = c := by subst hs; rfl);(have hsz : (ByteArray.mk s.toArray).size = s.length := by simp [ByteArray.size]);(have hlt' : (0 : Int) < ((s.length : Nat) : Int) := by omega);have e2 := ex_drop (l := s) 1;(have hr : s.drop 1 = t := by rw [hs]; rfl);(have htl : t.length + 1 = s.length := by rw [hs]; rfl);rw [hr] at e2;(have h1' : (1 : Int) ≤ ((s.length : Nat) : Int) := by omega);(have h0 : (lf == 0) = false := by rw [beq_eq_false_iff_ne]; omega);(have hgt : ¬ (120 : Int) < ((l.length : Nat) : Int) := by omega);have HL := Hd hL;have HR0 := Hd h;have HS0 := Hd (st_start HR0.out lf t ⟨6, z4, 0, 0, 0, 0, 0⟩);dsimp only at HS0;obtain ⟨⟨c0, c1, c2, c3⟩, f0, f1, f2, f3⟩ := HR0.out.cells
 skip
 dsimp only at c0 c1 c2 c3;have hlb := HR0.out.lt;have HLF := Hd hlf;clear hs h hL hr hlf;subst hc
 skip
 go_enter Tryz.func60, Tryz.ntmps60
 skip
 go_wp2;go_region;have hri : Rin ⟨t, l, g, false⟩ := ⟨by dsimp only; omega, hg0, by dsimp only; omega⟩;have hle1 := le_num 44 ⟨t, l, g, false⟩;obtain ⟨r1, na, hq⟩ : ∃ r1 na, numP 44 ⟨t, l, g, false⟩ = (r1, na) := ⟨_, _, rfl⟩;rw [hq] at hle1 HO hA2;have HN1 := Hd hq;clear hq;dsimp only at hle1 HO hA2;have hri1 := hle1.rin hri;have hle2 := le_num 59 r1;obtain ⟨r2, nb, hq⟩ : ∃ r2 nb, numP 59 r1 = (r2, nb) := ⟨_, _, rfl⟩;rw [hq] at hle2 HO hA2;have HN2 := Hd hq;clear hq;dsimp only at hle2 HO hA2;have HA2 := Hd hA2;clear hA2;have hri2 := hle2.rin hri1;have hle3 := le_node left r2;obtain ⟨r3, p3, hq⟩ : ∃ r3 p3, nodeP left r2 = (r3, p3) := ⟨_, _, rfl⟩;rw [hq] at hle3 HO;have HN3 := Hd hq;clear hq;dsimp only at hle3 HO;have hri3 := hle3.rin hri2;have HLEN := Hd (show r3.l.length ≤ 200000 from by have := hri3.len; omega);clear hle1 hle2 hle3 hri3;have HU1 := Hd (number_any w0 b _ _ 44 _ HS0.out.rw HL.out (by have := hri.len; dsimp only at this ⊢; omega));go_wp2_with (first
  | (go_at_call 83; have hb0 := HU1.out; clear HU1; refine hb0.mono ?_; clear hb0; rintro e w1 ⟨he, hr, hk⟩; rw [HN1.out] at he hr; subst he; have HS1 := Hd ((HS0.out).step hr hk); clear hr hk; obtain ⟨⟨x1p, x1l⟩, ⟨x10, x11, x12, x13, x14, x15, x16, x17, x18, x19⟩, x1z⟩ := HS1.out.facts; obtain ⟨⟨x1a, x1b, x1c, x1d⟩, x1e, x1f, x1g, x1h⟩ := HS1.out.rw.cells; (try dsimp only at x1a x1b x1c x1d))
  | (go_at_call 83; refine (number_any w0 b _ _ 59 _ (HS1.out.node (i := 7) (u := E na) (m := ⟨6, z4, 0, 0, na, 0, 0⟩) rfl).rw HL.out (by have := hri1.len; omega)).mono ?_; rintro e w2 ⟨he, hr, hk⟩; rw [HN2.out] at he hr; subst he; have HS2 := Hd ((HS1.out.node (i := 7) (u := E na) (m := ⟨6, z4, 0, 0, na, 0, 0⟩) rfl).step hr hk); clear hr hk; obtain ⟨⟨x2p, x2l⟩, ⟨x20, x21, x22, x23, x24, x25, x26, x27, x28, x29⟩, x2z⟩ := HS2.out.facts; obtain ⟨⟨x2a, x2b, x2c, x2d⟩, x2e, x2f, x2g, x2h⟩ := HS2.out.rw.cells; (try dsimp only at x2a x2b x2c x2d))
  | (go_at_call 81; refine (below_any1 IH HLF.out hle (HS2.out.node (i := 8) (u := E nb) (m := ⟨6, z4, 0, 0, na, nb, 0⟩) rfl) hri2 HA2.out).mono ?_; rintro e w3 ⟨v3, he, hst⟩; rw [HN3.out] at he hst; subst he; have HS3 := Hd hst; clear hst; obtain ⟨⟨x3p, x3l⟩, ⟨x30, x31, x32, x33, x34, x35, x36, x37, x38, x39⟩, x3z⟩ := HS3.out.facts; obtain ⟨⟨x3a, x3b, x3c, x3d⟩, x3e, x3f, x3g, x3h⟩ := HS3.out.rw.cells; (try dsimp only at x3a x3b x3c x3d)))
 have HSa := Hd (HS3.out.node (i := 5) (u := E (p3 : Nat)) (m := ⟨6, z4, (p3 : Nat), 0, na, nb, 0⟩) rfl);clear x3p x3l x30 x31 x32 x33 x34 x35 x36 x37 x38 x39 x3z x3a x3b x3c x3d x3e x3f x3g x3h;refine at_world (p := fun W => ST w0 b w _ lf ⟨6, z4, (p3 : Nat), 0, na, nb, 0⟩ _ _ W) HSa.out (fun W hW => ?_);have HSD := Hd (hW.below (Below.refl _ _).drew);clear hW;(refine Tk.g (fun w' => SQ w b ⟨6, z4, (p3 : Nat), 0, na, nb, 0⟩ w') (by exact sq_of HSD.out) fun hH => ?_);revert HSD hH;generalize World.drew _ = W8;intro HSD hH;refine Tk.k (fun _ h => (sq_cells h)) 0 ?_;refine Tk.k (fun _ h => (sq_cells h)) 1 ?_;refine Tk.k (fun _ h => (sq_cells h)) 2 ?_;refine Tk.k (fun _ h => (sq_cells h)) 3 ?_;refine Tk.k (fun _ h => (sq_cells h)) 5 ?_;refine wpAnyH_ready (rs := [4, 6]) (by kernel_rfl) (by simp) ?_;refine AllReadyH.cons (o := ?o4t8) ?hi4t8 (fun K hK => ?st4t8) (AllReadyH.cons (o := ?o6t8) ?hi6t8 (fun K hK => ?st6t8) AllReadyH.nil);(case hi4t8 => simp only [List.getElem?_toArray, List.getElem?_cons_succ, List.getElem?_cons_zero]; rfl);(case hi6t8 => simp only [List.getElem?_toArray, List.getElem?_cons_succ, List.getElem?_cons_zero]; rfl);case st4t8 =>
  have hPrev := hH;have hcl := HSD.out.rw.cells.1.2.1;(try dsimp only at hcl);go_simp;(refine hK.out _ _ (by exact hPrev) fun hH => Tk.w ?_);clear hK K hcl;refine Tk.o 6 (fun K hK => ?_);go_simp;have HSA := Hd (HSD.out.below ((Below.refl _ _).alloc (Nat.le_refl _) (.cells (NC ⟨6, z4, (p3 : Nat), 0, na, nb, 0⟩) 48)));(refine hK.out _ _ (by exact sq_of HSA.out) fun hH => Tk.w ?_);clear hK K;have HNW := Hd (@news_row W8 ⟨6, z4, (p3 : Nat), 0, na, nb, 0⟩);revert HSA hH HNW;generalize World.alloc _ _ = W9;intro HSA hH HNW;refine Tk.o 7 (fun K hK => ?_);(refine step_append_lies _ rfl _ _ 22 rfl w0.heap.size 48 i0 _ 10 80 Tryz.underlying22 hi hz0 hz1 hz2 rfl (by decide) _ _ _ rfl HSA.out.rw.own ⟨_, 0, none⟩ 1 1 (NC ⟨6, z4, (p3 : Nat), 0, na, nb, 0⟩).toList rfl rfl HNW.out (one_row _) (by decide) (by have := HLEN.out; (try dsimp only at this ⊢); unfold maxLen; omega) (by have := HLEN.out; (try dsimp only at this ⊢); omega) HSA.out.rw.bel.size _ rfl ?_; intro gg gcap w4 hown hgrow hat hlt4);have HP0 := rw_push HSA.out.rw hown hgrow hat;have HP := Hd HP0;clear HP0;have hq8 := sq_grown HSA.out hgrow;(refine hK.out _ _ (by exact hq8) fun hH => Tk.w ?_);clear hK K hq8;refine Tk.k (fun _ h => (sq_cells h)) 8 ?_;refine Tk.k (fun _ h => (sq_cells h)) 9 ?_;refine Tk.o 10 (fun K hK => ?_);have hf4 := fz_grown HSA.out hgrow 1;have hc4 := cell_grown HSA.out hgrow;go_simp;have HZ := Hd (HSA.out.step HP.out.1 HP.out.2);(refine hK.out _ _ (by exact sq_of HZ.out) fun hH => Tk.w ?_);clear hK K hf4 hc4;refine Tk.d ?_;clear hH hgrow hown hat hlt4 HP HSA HSD HNW;revert HZ;generalize World.setCell _ _ _ = W10;intro HZ;obtain ⟨⟨p0, p1⟩, _, _⟩ := HZ.out.facts;obtain ⟨⟨y0, y1, y2, y3⟩, _, _, _, _⟩ := HZ.out.rw.cells;(try dsimp only at y0 y1 y2 y3);(have hw1 : IntKind.i64.wrap ((((r3.l).length + 1 : Nat) : Int) - 1) = (((r3.l).length : Nat) : Int) := by have := HLEN.out; rw [IntKind.wrap_i64]; omega);have hlen9 := HLEN.out;go_wp2;go_ret;refine ⟨_, ?_, ?_, HZ.out.kr⟩
  · rw [HO.out]; rfl
  · rw [HO.out]; exact HZ.out.rw
 case st6t8 =>
  go_simp;have HSA := Hd (HSD.out.below ((Below.refl _ _).alloc (Nat.le_refl _) (.cells (NC ⟨6, z4, (p3 : Nat), 0, na, nb, 0⟩) 48)));(refine hK.out _ _ (by exact sq_of HSA.out) fun hH => Tk.w ?_);clear hK K;have HNW := Hd (@news_row W8 ⟨6, z4, (p3 : Nat), 0, na, nb, 0⟩);revert HSA hH HNW;generalize World.alloc _ _ = W9;intro HSA hH HNW;have hPrev := hH;refine Tk.o 4 (fun K hK => ?_);have hcl := HSA.out.rw.cells.1.2.1;(try dsimp only at hcl);go_simp;(refine hK.out _ _ (by exact hPrev) fun hH => Tk.w ?_);clear hK K hcl;refine Tk.o 7 (fun K hK => ?_);(refine step_append_lies _ rfl _ _ 22 rfl w0.heap.size 48 i0 _ 10 80 Tryz.underlying22 hi hz0 hz1 hz2 rfl (by decide) _ _ _ rfl HSA.out.rw.own ⟨_, 0, none⟩ 1 1 (NC ⟨6, z4, (p3 : Nat), 0, na, nb, 0⟩).toList rfl rfl HNW.out (one_row _) (by decide) (by have := HLEN.out; (try dsimp only at this ⊢); unfold maxLen; omega) (by have := HLEN.out; (try dsimp only at this ⊢); omega) HSA.out.rw.bel.size _ rfl ?_; intro gg gcap w4 hown hgrow hat hlt4);have HP0 := rw_push HSA.out.rw hown hgrow hat;have HP := Hd HP0;clear HP0;have hq8 := sq_grown HSA.out hgrow;(refine hK.out _ _ (by exact hq8) fun hH => Tk.w ?_);clear hK K hq8;refine Tk.k (fun _ h => (sq_cells h)) 8 ?_;refine Tk.k (fun _ h => (sq_cells h)) 9 ?_;refine Tk.o 10 (fun K hK => ?_);have hf4 := fz_grown HSA.out hgrow 1;have hc4 := cell_grown HSA.out hgrow;go_simp;have HZ := Hd (HSA.out.step HP.out.1 HP.out.2);(refine hK.out _ _ (by exact sq_of HZ.out) fun hH => Tk.w ?_);clear hK K hf4 hc4;refine Tk.d ?_;clear hH hgrow hown hat hlt4 HP HSA HSD HNW;revert HZ;generalize World.setCell _ _ _ = W10;intro HZ;obtain ⟨⟨p0, p1⟩, _, _⟩ := HZ.out.facts;obtain ⟨⟨y0, y1, y2, y3⟩, _, _, _, _⟩ := HZ.out.rw.cells;(try dsimp only at y0 y1 y2 y3);(have hw1 : IntKind.i64.wrap ((((r3.l).length + 1 : Nat) : Int) - 1) = (((r3.l).length : Nat) : Int) := by have := HLEN.out; rw [IntKind.wrap_i64]; omega);have hlen9 := HLEN.out;go_wp2;go_ret;refine ⟨_, ?_, ?_, HZ.out.kr⟩
  · rw [HO.out]; rfl
  · rw [HO.out]; exact HZ.out.rw
open St (Wf word zeroW Tab SV SV_eq bytesL bytes_any)
open Ad (dec_len)
open Tr
open St (Wf word zeroW Tab wf_two wf_orL wf_ofL wf_zero orL ofL)
end Go.Proofs.YthpiapemjadgdaaGreatDoor.Rx
namespace Go.Proofs.YthpiapemjadgdaaGreatDoor.Mt
open Go.RowKit Go.Shelf
open Rx
open Rx.Tr
open St (Wf word mem SV SV_eq ofL wf_ofL bytesL)
/-- How many of the first k nodes are of a kind. -/
def cntK (l : List Nd) (q : Int) (k : Nat) : Nat := ((l.take k).filter fun n => decide (n.k = q)).length
theorem cnt_next (l : List Nd) (q : Int) {k : Nat} (hk : k < l.length) : cntK l q (k + 1) = cntK l q k + (if l[k].k = q then 1 else 0) := by
 unfold cntK;rw [List.take_succ_eq_append_getElem hk, List.filter_append, List.length_append, List.filter_cons, List.filter_nil];by_cases h : l[k].k = q
 · rw [if_pos h, decide_eq_true h]; rfl
 · rw [if_neg h, decide_eq_false h]; rfl
theorem cnt_le (l : List Nd) (q : Int) (k : Nat) : cntK l q k ≤ k := by
 unfold cntK;exact Nat.le_trans (List.length_filter_le _ _) (by simp; omega)
def boundedL (a b c : Nat) (l : List Nd) (m : Nat) : Bool := decide (l.length ≤ a) && (decide (m ≤ b) && (decide (cntK l 8 l.length = 0) || (decide (cntK l 6 l.length ≤ 2) && decide (m ≤ c))))
def c6 : Caps := [some (0, 3), some (0, 1), some (1, 3), none, none, none, none, none, none, none]
theorem bytes_97 : bytesL (ofL [97]) = [97] := by decide +kernel
theorem bytes_98 : bytesL (ofL [98]) = [98] := by decide +kernel
def qs (q : Nat → Bool) (n : Nat) : List Nat := (List.range n).filter q
theorem qs_next (q : Nat → Bool) (n : Nat) : qs q (n + 1) = qs q n ++ (if q n = true then [n] else []) := by
 unfold qs;rw [List.range_succ, List.filter_append, List.filter_cons, List.filter_nil]
theorem qs_split (q : Nat → Bool) (j : Nat) : ∀ n, j ≤ n → ∃ r, qs q n = qs q j ++ r ∧ ∀ x ∈ r, j ≤ x := by
 intro n h
 induction h with
 | refl => exact ⟨[], by simp, by simp⟩
 | @step m h ih =>
  obtain ⟨r, h1, h2⟩ := ih;refine ⟨r ++ (if q m = true then [m] else []), by rw [qs_next, h1, List.append_assoc], ?_⟩;intro x hx;rcases List.mem_append.1 hx with hx | hx
  · exact h2 x hx
  ·
   split at hx
   · simp only [List.mem_singleton] at hx; subst hx; exact h
   · cases hx
theorem qs_len (q : Nat → Bool) (n : Nat) : (qs q n).length ≤ n := by
 unfold qs;exact Nat.le_trans (List.length_filter_le _ _) (by simp)
/-- Where something holds, the next one in the row is that place. -/
theorem qs_at {q : Nat → Bool} {j n : Nat} (hj : j < n) (h : q j = true) : (qs q n)[(qs q j).length]? = some j := by
 obtain ⟨r, h1, _⟩ := qs_split q (j + 1) n hj;rw [h1, qs_next, if_pos h, List.append_assoc];simp
theorem qs_not {q : Nat → Bool} {j n : Nat} (hj : j < n) (h : q j = false) : (qs q n)[(qs q j).length]? ≠ some j := by
 obtain ⟨r, h1, h2⟩ := qs_split q (j + 1) n hj;rw [h1, qs_next, if_neg (by rw [h]; simp), List.append_nil, List.getElem?_append_right (Nat.le_refl _), Nat.sub_self];intro e;have := h2 j (List.mem_of_getElem? e);omega
/-- The ends of a pattern that begins at a place. -/
def qW (T : List UInt8) (t : Tr) (k j : Nat) : Bool := decide (k ≤ j) && (wholeP T t k j).isSome
theorem ends_qs (T : List UInt8) (t : Tr) (k : Nat) : ∀ n, endsK T t k n = qs (qW T t k) n
 | 0 => by simp [endsK, qs]
 | n + 1 => by
  by_cases h : k ≤ n
  · rw [ends_next T t k n h, qs_next, ends_qs T t k n];unfold qW;rw [decide_eq_true h, Bool.true_and]
  · rw [qs_next, ← ends_qs T t k n];unfold qW;rw [decide_eq_false h, Bool.false_and, if_neg (by simp), List.append_nil];unfold endsK;rw [show n + 1 - k = 0 by omega, show n - k = 0 by omega]
/-- The longest one is to the last one of the ends. -/
theorem long_last {T : List UInt8} {t : Tr} {k : Nat} (hk : k ≤ T.length) :
  match longP T t k with
  | none => qs (qW T t k) (T.length + 1) = []
  | some c => CapsOk T.length c ∧ ∃ j, k ≤ j ∧ j ≤ T.length ∧ gr c 0 = some (k, j) ∧ 0 < (qs (qW T t k) (T.length + 1)).length ∧ (qs (qW T t k) (T.length + 1))[(qs (qW T t k) (T.length + 1)).length - 1]? = some j := by
 cases h : longP T t k with
 | none =>
  have h1 := dn_none h;show (List.range _).filter _ = [];rw [List.filter_eq_nil_iff];intro j hj;unfold qW;by_cases e : k ≤ j
  · have := h1 (j - k) (by have := List.mem_range.1 hj; omega);rw [show k + (j - k) = j by omega] at this;(try dsimp only at this);rw [this]; simp
  · rw [decide_eq_false e]; simp
 | some c =>
  obtain ⟨q, h1, h2, h3⟩ := dn_some h;(try dsimp only at h2);have hc := whole_ok (T := T) (t := t) (by omega : k ≤ k + q) (by omega) h2;refine ⟨hc, k + q, by omega, by omega, ?_, ?_⟩
  ·
   unfold wholeP at h2;cases hf : fitP T t k (k + q) nones with
   | none => rw [hf] at h2; cases h2
   | some a =>
    rw [hf] at h2;cases h2;have ha := (fit_ok t k (k + q) nones a (by omega) (by omega) (caps_none _) hf).len;rw [gr_set ha (by decide), if_pos rfl]
  ·
   (have hq : qW T t k (k + q) = true := by unfold qW; rw [decide_eq_true (by omega), h2]; rfl);have hr : qs (qW T t k) (T.length + 1) = qs (qW T t k) (k + q) ++ [k + q] := by
    have key : ∀ n, k + q < n → n ≤ T.length + 1 → qs (qW T t k) n = qs (qW T t k) (k + q) ++ [k + q] := by
     intro n hn
     induction hn with
     | refl => intro _; rw [qs_next, if_pos hq]
     | @step m hm ih =>
      intro hmn;have hm' : k + q < m := hm;have hn0 : qW T t k m = false := by
       have := h3 (m - k) (by omega) (by omega);rw [show k + (m - k) = m by omega] at this;(try dsimp only at this);unfold qW; rw [this]; simp
      rw [qs_next, if_neg (by rw [hn0]; simp), List.append_nil];exact ih (by omega)
    exact key _ (by omega) (Nat.le_refl _)
   rw [hr];simp
theorem ints_form {w : World} {B : Nat} {v : Value} {l : List Nat} (h : w.ownsRow B 3 1 v l.length (ints l)) : ∃ ae cap, v = .slice ae l.length cap ∧ l.length ≤ cap ∧ ∀ i (hi : i < l.length), ∃ g, ae = some ⟨g, 0, none⟩ ∧ w.cell? ⟨g, i, none⟩ = some (E (l[i] : Nat)) := by
 rcases own_forms h with ⟨rfl, h0⟩ | ⟨g, cap, rfl, hc⟩
 · exact ⟨none, 0, by rw [h0], by omega, fun i hi => by omega⟩
 · refine ⟨_, cap, rfl, hc, fun i hi => ⟨g, rfl, ?_⟩⟩;rw [h.cellAt i (by omega)];simp [ints, hi]
theorem Below.cellB {w w' : World} {g i : Nat} {v : Value} (hb : Below w.heap.size w w') (h : w.cell? ⟨g, i, none⟩ = some v) : w'.cell? ⟨g, i, none⟩ = some v := by
 have hl := lt_cell h;rw [← h];simp only [World.cell?];rw [hb.block g hl]
theorem qs_none (n : Nat) : qs (fun _ => false) n = [] := by simp [qs]
theorem u8_nat {a : Int} (h : (Lit.int .u8 a).wf = true) : ∃ x : Nat, a = (x : Int) ∧ x < 256 := by
 have hb : 0 ≤ a ∧ a < 256 := by
  simp [Lit.wf, IntKind.min, IntKind.max, IntKind.signed, IntKind.bits] at h;omega
 exact ⟨a.toNat, by omega, by omega⟩
end Go.Proofs.YthpiapemjadgdaaGreatDoor.Mt
namespace Go.Proofs.YthpiapemjadgdaaGreatDoor.Rx
open Go.RowKit Go.Shelf
open Tr
open St (Wf word zeroW SV SV_eq ofL wf_ofL of_any bytesL)
theorem bytes_97 : bytesL (ofL [97]) = [97] := by decide +kernel
theorem bytes_98 : bytesL (ofL [98]) = [98] := by decide +kernel
theorem eql_set {s : List Nat} (h : Wf s) (W : World) : (binOp .eql 45 (.agg #[U (word s 0), U (word s 1), U (word s 2), U (word s 3)]) (.agg #[U (word s 0), U (word s 1), U (word s 2), U (word s 3)])).run Tryz.prog W = .ok (.bool true) W := by
 rw [run_eql_struct, show (10000 : Nat) = 9998 + 2 from rfl, run_eq4g];simp
/-- What the last region holds. -/
structure SH (w : World) (sa : List Nat) (l : List Nd) (g cap : Nat) (w' : World) : Prop where
 ns : Ns w' (.slice (some ⟨g, 0, none⟩) 4 cap) l
 bel : Below w.heap.size w w'
 n0 : l[0]? = some ⟨1, sa, 0, 0, 0, 0, 0⟩
 l4 : l.length = 4
theorem SH.below {w w1 w2 : World} {sa : List Nat} {l : List Nd} {g cap : Nat} (h : SH w sa l g cap w1) (hb : Below w1.heap.size w1 w2) : SH w sa l g cap w2 :=
 ⟨h.ns.below hb, h.bel.trans (hb.mono h.bel.size), h.n0, h.l4⟩
theorem SH.cells {w w' : World} {sa : List Nat} {l : List Nd} {g cap : Nat} (h : SH w sa l g cap w') :
  w'.cell? ⟨g, 1, none⟩ = some (U (word sa 0)) ∧ w'.cell? ⟨g, 2, none⟩ = some (U (word sa 1)) ∧ w'.cell? ⟨g, 3, none⟩ = some (U (word sa 2)) ∧ w'.cell? ⟨g, 4, none⟩ = some (U (word sa 3)) := by
 have h4 := h.l4;obtain ⟨B, o, hq, q0, q1, q2, q3, q4, _⟩ := h.ns.at (i := 0) (by omega);simp only [Option.some.injEq, Addr.mk.injEq, and_true] at hq;obtain ⟨rfl, rfl⟩ := hq;have e : l[0]'(by omega) = ⟨1, sa, 0, 0, 0, 0, 0⟩ := by
  have := h.n0;rw [List.getElem?_eq_getElem (by omega)] at this;exact Option.some.inj this
 rw [e] at q1 q2 q3 q4;simp only [Nat.zero_mul, Nat.zero_add] at q1 q2 q3 q4;exact ⟨q1, q2, q3, q4⟩
open Go.RowKit Go.ChangeShapes Go.WideShapes Go.Joins Go.Deep
open St (Wf word Tab)
theorem laidOut : laidOutB Tryz.prog = true := by kernel_rfl
/-- What reads as it did, all arguments at once. -/
theorem carryAll {H : Type} {enc : TypeId × Value → H} {W W' : World} (hb : Below W.heap.size W W') : ∀ {ts : List TypeId} {vs : List Value} {ds : List (DataW H)} {ps : List MemPlace},
  (∀ t ∈ ts, Tryz.prog.readableRec t = true ∧ t < Tryz.prog.types.size) → DataW.TrodAll enc Tryz.prog W 0 (fun _ => true) true ts vs ds ps → (∀ x ∈ ps, x.block < W.heap.size) →
  DataW.TrodAll enc Tryz.prog W' 0 (fun b => decide (b < W.heap.size)) true ts vs ds ps
 | [], vs, ds, ps, _, h, _ => by
  obtain ⟨rfl, rfl, rfl⟩ := trodAll_nil h;exact trodAll_mk0
 | t :: ts, vs, ds, ps, hr, h, hl => by
  obtain ⟨v, vs', d, ds', p, q, rfl, rfl, rfl, h0, hs⟩ := trodAll_cons h;exact trodAll_cons_mk (Below.trod laidOut (hr t (by simp)).1 (hr t (by simp)).2 h0 hb (fun x hx => hl x (by simp [hx])))
   (carryAll hb (fun u hu => hr u (by simp [hu])) hs (fun x hx => hl x (by simp [hx])))
theorem cellsNd : Tryz.prog.cellsOf 48 = 10 := by kernel_rfl
theorem cellsIn : Tryz.prog.cellsOf 3 = 1 := by kernel_rfl
theorem cellsU64 : Tryz.prog.cellsOf 43 = 1 := by kernel_rfl
theorem cellsSet : Tryz.prog.cellsOf 45 = 4 := by kernel_rfl
theorem u64_nat {a : Int} (h : (Lit.int .u64 a).wf = true) : ∃ n : Nat, a = (n : Int) ∧ n < 2 ^ 64 := by
 simp [Lit.wf, IntKind.min, IntKind.max, IntKind.signed, IntKind.bits] at h;exact ⟨a.toNat, by omega, by omega⟩
section
variable {H : Type} {enc : TypeId × Value → H} {w : World} {base : Nat} {held : Bool} {r : Reach} {b0 : Nat} {v : Value} {d : DataW H} {ps : List MemPlace}
theorem trod_set {spare : Nat → Bool} {n : Nat} {c0 c1 c2 c3 : Value} {x : DataW H × List MemPlace} (h : DataW.trod enc Tryz.prog w base spare held n 45 [c0, c1, c2, c3] = some x) : ∃ s : List Nat, Wf s ∧ c0 = U (word s 0) ∧ c1 = U (word s 1) ∧ c2 = U (word s 2) ∧ c3 = U (word s 3) := by
 obtain ⟨y0, y1, y2, y3, n, hx, h0, h1, h2, h3⟩ := trod_array4 Tryz.underlying45 cellsU64 h;obtain ⟨n0, e0, rfl, w0⟩ := DataW.trod_int Tryz.underlying43 h0;obtain ⟨n1, e1, rfl, w1⟩ := DataW.trod_int Tryz.underlying43 h1;obtain ⟨n2, e2, rfl, w2⟩ := DataW.trod_int Tryz.underlying43 h2;obtain ⟨n3, e3, rfl, w3⟩ := DataW.trod_int Tryz.underlying43 h3;obtain ⟨n0, rfl, b0⟩ := u64_nat w0;obtain ⟨n1, rfl, b1⟩ := u64_nat w1;obtain ⟨n2, rfl, b2⟩ := u64_nat w2;obtain ⟨n3, rfl, b3⟩ := u64_nat w3;(obtain rfl : c0 = _ := by simpa using e0);(obtain rfl : c1 = _ := by simpa using e1);(obtain rfl : c2 = _ := by simpa using e2);(obtain rfl : c3 = _ := by simpa using e3);exact ⟨[n0, n1, n2, n3], ⟨rfl, by simp [b0, b1, b2, b3]⟩, rfl, rfl, rfl, rfl⟩
instance : Inhabited Nd := ⟨⟨0, z4, 0, 0, 0, 0, 0⟩⟩
/-- Nodes that are handed in. -/
theorem open_nodes (hv : Value.okWide Tryz.prog w r b0 22 v) (hd : DataW.Trod enc Tryz.prog w base (fun _ => true) held 22 v d ps) : ∃ (ao : Option Addr) (c : Nat) (l : List Nd), v = .slice ao l.length c ∧ l.length ≤ maxLen ∧ Ns w (.slice ao l.length c) l ∧ ∀ n ∈ l, Wf n.s := by
 obtain ⟨a0, l0, c0, rfl⟩ := okWide_slice Tryz.underlying22 hv;obtain ⟨fuel, hf⟩ := hd;rcases open_slice Tryz.underlying22 hf with ⟨e, _⟩ | ⟨a, len, cap, m, n, D, Pl, hcs, hb, hl, hm, hmm, hx, hi⟩
 · simp only [Value.cells, List.cons.injEq, and_true] at e;(obtain ⟨rfl, rfl, rfl⟩ : a0 = none ∧ l0 = 0 ∧ c0 = 0 := by simpa using e);exact ⟨none, 0, [], rfl, by simp, ⟨none, 0, rfl, fun i hi => absurd hi (by simp)⟩, by simp⟩
 ·
  (obtain ⟨rfl, rfl, rfl⟩ : a0 = some a ∧ l0 = len ∧ c0 = cap := by simpa [Value.cells] using hcs);have hsp0 : 0 < l0 → a.spot = none := fun h0 => by
   obtain ⟨cs', hc, _⟩ := hi 0 (by simp at hmm; omega);rw [cellsNd] at hc;obtain ⟨_, hcl, hat⟩ := World.cells?_some hc;have g := World.cell?_spot ((hat 0 (by omega)).trans (List.getElem?_eq_getElem (by rw [hcl]; omega)));simpa [Addr.add] using g
  obtain ⟨f, hF⟩ := choose_lt (α := Nd) (n := l0) (p := fun i q => a.spot = none ∧ NCell w a.block (a.off + i * 10) q ∧ Wf q.s) (fun i hlt => by
   obtain ⟨cs', hc, ht'⟩ := hi i (by simp at hmm; omega);rw [cellsNd] at hc;obtain ⟨ys, n', _, _, hlen, hyl, hf⟩ := DataW.trod_struct Tryz.underlying48 ht';(have hz : ∀ i : Nat, i < 7 → ∃ y, ys[i]? = some y := fun i hi => ⟨_, List.getElem?_eq_getElem (by rw [hyl]; exact hi)⟩);obtain ⟨z0, hz0⟩ := hz 0 (by omega);obtain ⟨z1, hz1⟩ := hz 1 (by omega);obtain ⟨z2, hz2⟩ := hz 2 (by omega);obtain ⟨z3, hz3⟩ := hz 3 (by omega);obtain ⟨z4', hz4⟩ := hz 4 (by omega);obtain ⟨z5, hz5⟩ := hz 5 (by omega);obtain ⟨z6, hz6⟩ := hz 6 (by omega);obtain ⟨_, hcl, hat⟩ := World.cells?_some hc;rw [cellsNd] at hlen
   match cs', hlen with
   | [v0, v1, v2, v3, v4, v5, v6, v7, v8, v9], _ =>
    obtain ⟨x0, e0, _, w0⟩ := DataW.trod_int Tryz.underlying3 ((hf 0 _ rfl).trans hz0);have h1 := (hf 1 _ rfl).trans hz1;obtain ⟨x2, e2, _, w2⟩ := DataW.trod_int Tryz.underlying3 ((hf 2 _ rfl).trans hz2);obtain ⟨x3, e3, _, w3⟩ := DataW.trod_int Tryz.underlying3 ((hf 3 _ rfl).trans hz3);obtain ⟨x4, e4, _, w4⟩ := DataW.trod_int Tryz.underlying3 ((hf 4 _ rfl).trans hz4);obtain ⟨x5, e5, _, w5⟩ := DataW.trod_int Tryz.underlying3 ((hf 5 _ rfl).trans hz5);obtain ⟨x6, e6, _, w6⟩ := DataW.trod_int Tryz.underlying3 ((hf 6 _ rfl).trans hz6);simp [cellsIn] at e0 e2 e3 e4 e5 e6;subst e0 e2 e3 e4 e5 e6;simp [cellsSet] at h1;obtain ⟨s, hs, rfl, rfl, rfl, rfl⟩ := trod_set h1;have hsp := hsp0 (by omega);refine ⟨⟨x0, s, x2, x3, x4, x5, x6⟩, hsp, ?_, hs⟩;obtain ⟨ab, ao, asp⟩ := a;dsimp only at hsp;subst hsp;(have hg : ∀ j, j < 10 → (((⟨ab, ao, none⟩ : Addr).add (i * 10)).add j) = ⟨ab, ao + i * 10 + j, none⟩ := fun j _ => by rw [Addr.add_lit, Addr.add_lit]);(have k : ∀ (j : Nat), j < 10 → w.cell? ⟨ab, ao + i * 10 + j, none⟩ = w.cell? (((⟨ab, ao, none⟩ : Addr).add (i * 10)).add j) := fun j hj => by rw [hg j hj]);exact ⟨(k 0 (by decide)).trans (hat 0 (by omega)), (k 1 (by decide)).trans (hat 1 (by omega)), (k 2 (by decide)).trans (hat 2 (by omega)), (k 3 (by decide)).trans (hat 3 (by omega)), (k 4 (by decide)).trans (hat 4 (by omega)), (k 5 (by decide)).trans (hat 5 (by omega)), (k 6 (by decide)).trans (hat 6 (by omega)), (k 7 (by decide)).trans (hat 7 (by omega)), (k 8 (by decide)).trans (hat 8 (by omega)), (k 9 (by decide)).trans (hat 9 (by omega))⟩)
  (have hsz : ((List.range l0).map f).length = l0 := by simp);refine ⟨some a, c0, (List.range l0).map f, by simp, by simp; omega, ?_, ?_⟩
  · refine ⟨some a, c0, rfl, fun i hi' => ?_⟩;(have hil : i < l0 := by simpa using hi');(have e : ((List.range l0).map f)[i] = f i := by simp);rw [e];obtain ⟨hs, hn, _⟩ := hF i hil;obtain ⟨ab, ao, asp⟩ := a;dsimp only at hs;subst hs;exact ⟨ab, ao, rfl, hn⟩
  · intro n hn;obtain ⟨i, hi', rfl⟩ := List.mem_map.1 hn;exact (hF i (by simpa using hi')).2.2
end
theorem lt_of_cell {W : World} {g j : Nat} {v : Value} (h : W.cell? ⟨g, j, none⟩ = some v) : g < W.heap.size := by
 rcases Nat.lt_or_ge g W.heap.size with hl | hl
 · exact hl
 · exfalso;have hn : W.heap[g]? = none := Array.getElem?_eq_none hl;simp [World.cell?, hn] at h
theorem tab_of {W : World} (h : Go.Lib.TabIs Tryz.prog W "math/bits.deBruijn64tab" .u8 (Go.Lib.deBruijn64tab.map fun n : Nat => (n : Int))) (hg : Tryz.prog.globalNamed "math/bits.deBruijn64tab" = some 2) : Tab W ∧ 2 < W.heap.size := by
 have hc : ∀ j, j < Go.Lib.deBruijn64tab.length → W.cell? ⟨2, j, none⟩ = some (.int .u8 (Go.Lib.deBruijn64tab.getD j 0 : Nat)) := by
  intro j hj;rw [h.cell hg j (by simpa using hj)];simp [List.getD, hj]
 exact ⟨hc, lt_of_cell (hc 0 (by decide))⟩
theorem errs_of {W : World} {a b : Value} (h1 : W.cell? ⟨3, 0, none⟩ = some a) (h2 : W.cell? ⟨4, 0, none⟩ = some b)
  (e1 : a = .nilIface ∨ ∃ te pe, a = .iface te pe) (e2 : b = .nilIface ∨ ∃ te pe, b = .iface te pe) : Errs W :=
 ⟨⟨a, h1, e1⟩, ⟨b, h2, e2⟩, lt_of_cell h1, lt_of_cell h2⟩
open St (Wf word zeroW Tab SV SV_eq)
/-- What is told is not too long. -/
theorem textL_len (l : List Nd) : (textL l).length ≤ 100000 := by
 unfold textL;cases hp : patOf l with
 | none => exact Nat.zero_le _
 | some t =>
  obtain ⟨rfl, hg⟩ := patOf_some hp;have := text_len _ t hg.1;have := hg.2.1;show (textT t).length ≤ _;omega
theorem may_some {l : List Nd} (h : mayL l = true) : ∃ t, patOf l = some t ∧ l = t.nodes 0 ∧ Good t ∧ textL l = textT t := by
 unfold mayL at h;obtain ⟨t, ht⟩ := Option.isSome_iff_exists.1 h;obtain ⟨h1, h2⟩ := patOf_some ht;exact ⟨t, ht, h1, h2, by unfold textL; rw [ht]⟩
theorem may_none {l : List Nd} (h : mayL l = false) : textL l = [] := by
 unfold mayL at h;have : patOf l = none := by
  cases hp : patOf l with
  | none => rfl
  | some t => rw [hp] at h; cases h
 unfold textL;rw [this]
theorem parse_back {l : List Nd} (hw : ∀ n ∈ l, Wf n.s) (h : mayL l = true) : parseL (textL l) = some l := by
 obtain ⟨t, _, h1, h2, h3⟩ := may_some h;rw [h3];rw [parse_text h2 (sets_nodes t 0 (by rw [← h1]; exact hw)), h1]
end Go.Proofs.YthpiapemjadgdaaGreatDoor.Rx
