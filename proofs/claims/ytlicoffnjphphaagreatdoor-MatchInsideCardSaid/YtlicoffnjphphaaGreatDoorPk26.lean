/- The texts MtQa. -/
import Derived.Test.YtlicoffnjphphaaGreatDoorPk25
set_option linter.unusedVariables false
set_option linter.unusedSimpArgs false
namespace Go.Proofs.YtlicoffnjphphaaGreatDoor.Mt
open Go.RowKit Go.Shelf
open Go.Proofs.YtlicoffnjphphaaGreatDoor.Rx
open Go.Proofs.YtlicoffnjphphaaGreatDoor.Rx.Tr
open Go.Proofs.YtlicoffnjphphaaGreatDoor.St (Wf word mem SV SV_eq)
set_option maxRecDepth 100000 in
set_option maxHeartbeats 12800000 in
theorem again_inf (X : Par) (hX : X.Ok) (ia a0 : Nat) (x : Tr) (mn : Int) (hmn0 : 0 ≤ mn) (hmn1 : mn ≤ 255) (hrf : X.refs = false → refsT x = 0) (hnx : NumsOk x) (pr : Nat → Prop) (i j : Nat) (c : Caps) (w : World) (hij : i ≤ j) (hj : j ≤ X.N) (hc : CapsOk X.N c) (hM : MM X pr w) (nb no cap0 : Nat) (hv : X.v = .slice (some ⟨nb, no, none⟩) X.l.length cap0) (hil : ia < X.l.length) (z : List Nat) (b : Nat) (m : Nat) (hN : NCell w nb (no + ia * 10) ⟨6, z, (a0 : Nat), (b : Nat), mn, (-1 : Int), (m : Nat)⟩) (HF : FitOk X x a0)
  (HRE : ∀ (pr : Nat → Prop) (k cc : Nat) (a : Caps) (w : World), k ≤ X.N → cc ≤ 200000 → MM X pr w → Calls Tryz.prog 117 #[PT X.bm, NV ⟨6, z, (a0 : Nat), (b : Nat), mn, (-1 : Int), (m : Nat)⟩, SD k cc j a, E (j : Nat)] w fun e w' => e = .returned (.bool (rch X x mn (-1 : Int) k cc j)) ∧ MM X pr w' ∧ Km X w w')
  (R : Option Caps) (hR : R = timesP (fitP X.T x) mn (-1 : Int) j (j - i) i 0 c) :
  Calls Tryz.prog 96 #[PT X.bm, E (ia : Nat), E (i : Nat), E (j : Nat), CV c] w (FitAns X pr w R) := by
 obtain ⟨c0, c1, c2, c3, c4⟩ := hM.facts
 rw [hv] at c0
 obtain ⟨q0, q1, q2, q3, q4, q5, q6, q7, q8, q9⟩ := hN
 have hbm := lt_heap' hM.hb
 have hbm2 : X.bm < w.heap.size + 1 := by omega
 have hbm3 : X.bm < w.heap.size + 1 + 1 := by omega
 have hnb : nb < w.heap.size := lt_cell q0
 have hnb2 : nb < w.heap.size + 1 := by omega
 have hnb3 : nb < w.heap.size + 1 + 1 := by omega
 have ha0 : (0 : Int) ≤ (ia : Int) := by omega
 have ha1 : (ia : Int) < (X.l.length : Int) := by omega
 have HT := Lib.hid (lf_start hM c ⟨6, z, (a0 : Nat), (b : Nat), mn, (-1 : Int), (m : Nat)⟩)
 have HC := Lib.hid hc
 have hlen := hX.len
 have HLEN := Lib.hid hlen
 have HFt := Lib.hid HF
 have HRE2 := Lib.hid HRE
 have HMX := Lib.hid (rfl : (-1 : Int) = -1)
 have HMN := Lib.hid (And.intro hmn0 hmn1)
 have HIJ := Lib.hid (And.intro hij hj)
 have HNR := Lib.hid (fun (k cc : Nat) (a : Caps) (h1 : k ≤ j) (h2 : (-1 : Int) = -1 ∨ (cc : Int) ≤ (-1 : Int)) (h3 : rch X x mn (-1 : Int) k cc j = false) => rch_none (a := a) hrf hnx h1 hj h2 h3)
 have HOK0 := Lib.hid (show StkOk X (-1 : Int) i j [⟨i, 0, j, c⟩] ∧ resS (fitP X.T x) mn (-1 : Int) j [⟨i, 0, j, c⟩] = R from ⟨stk_one ⟨by simp, hij, Nat.le_refl _, (by first | exact Or.inl rfl | exact Or.inr (by show ((0 : Nat) : Int) ≤ (-1 : Int); omega)), hc⟩ rfl, by
  rw [hR, ← ansS_new i 0 c hij]
  show (ansS (fitP X.T x) mn (-1 : Int) j ⟨i, 0, j, c⟩).or none = _
  simp⟩)
 clear hlen hM hX hc HF HRE hR hmn0 hmn1 hij hj hrf hnx 
 go_enter Tryz.func96, Tryz.ntmps96
 rw [show Code.region 2 = Fz 2 from rfl]
 rw [show Code.region 20 = Fz 20 from rfl]
 go_wp2
 go_step3
 go_wp2
 refine at_world (p := fun W => LF X pr w c ⟨6, z, (a0 : Nat), (b : Nat), mn, (-1 : Int), (m : Nat)⟩ W) HT.out (fun W hW => ?_)
 have HS := Lib.hid hW
 clear hW HT c0 c1 c2 c3 c4 q0 q1 q2 q3 q4 q5 q6 q7 q8 q9 hbm hbm2 hbm3 hnb hnb2 hnb3 ha0 ha1
 rw [show Fz 2 = Code.region 2 from rfl]
 go_wp2_with (refine wpList_load_row rfl 27 (.tmp 9) rfl w.heap.size rfl _ (CC c) (0, 0) _ HS.out.tf.bx Tryz.underlying27 rfl (by kernel_rfl) ?_; simp only [Act.put, List.setIfInBounds_toArray, List.set_cons_zero, List.set_cons_succ])
 go_step3
 go_wp2
 refine at_world (p := fun V => AG X pr w c ⟨6, z, (a0 : Nat), (b : Nat), mn, (-1 : Int), (m : Nat)⟩ W.heap.size 1 [⟨i, 0, j, c⟩] V) (ag_start HS.out i 0 j c) (fun V hV => ?_)
 have HA := Lib.hid hV
 clear hV HS
 go_loopg [13] (muL j [⟨i, 0, j, c⟩]) (fun n sv wr => ∃ (l : List Std) (g cap : Nat), n = muL j l ∧ sv = .slice (some ⟨g, 0, none⟩) l.length cap ∧ Hid (StkOk X (-1 : Int) i j l ∧ resS (fitP X.T x) mn (-1 : Int) j l = R) ∧ Hid (AG X pr w c ⟨6, z, (a0 : Nat), (b : Nat), mn, (-1 : Int), (m : Nat)⟩ g cap l wr))
 case atStart => exact ⟨[⟨i, 0, j, c⟩], _, 1, rfl, rfl, HOK0, HA⟩
 case round =>
  clear HA HOK0
  obtain ⟨l, g, cap, hn, rfl, HOK, HV⟩ := hrel
  rcases List.eq_nil_or_concat l with rfl | ⟨r, s, rfl⟩
  ·
   simp only [List.length_nil]
   clear hn
   go_wp2_with (first
    | (refine wpList_load_row rfl 27 (.tmp 9) rfl w.heap.size rfl _ (CC c) (0, 0) _ HV.out.lf.tf.bx Tryz.underlying27 rfl (by kernel_rfl) ?_; simp only [Act.put, List.setIfInBounds_toArray, List.set_cons_zero, List.set_cons_succ])
    | (refine wpList_store_row rfl 27 (.tmp 10) (.tmp 165) rfl (w.heap.size + 1) (CC c) rfl rfl _ CZ HV.out.lf.tf.rs (by kernel_rfl) rfl (cc_one c) ?_; simp only [Act.put, List.setIfInBounds_toArray, List.set_cons_zero, List.set_cons_succ]; obtain ⟨r1, r2, r3⟩ := HV.out.lf.tf.ret c; have HR9 := Lib.hid (And.intro r1 (And.intro r2 r3)); clear r1 r2 r3 HV; generalize World.setRow _ _ _ = W9 at HR9 ⊢))
   (try rw [Exit.noGoto_ret])
   refine bodyPost_ret (res_caps rfl rfl HR9.out.1 rfl) rfl ?_
   refine ⟨c, false, rfl, ?_, HR9.out.2.1, HR9.out.2.2⟩
   rw [← HOK.out.2]
   exact ⟨HC.out, rfl⟩
  ·
   obtain ⟨p, cc, k, a⟩ := s
   (try rw [List.concat_eq_append] at hn)
   (try rw [List.concat_eq_append] at HOK)
   (try rw [List.concat_eq_append] at HV)
   (try rw [List.concat_eq_append])
   rw [List.length_append, List.length_singleton]
   subst hn
   obtain ⟨⟨ho1, ho2, ho3, ho4, ho5⟩, ho6⟩ := stk_last HOK.out.1
   dsimp only at ho1 ho2 ho3 ho4 ho5 ho6
   obtain ⟨L, hL⟩ : ∃ L, r.length = L := ⟨_, rfl⟩
   have HLL := Lib.hid hL
   obtain ⟨⟨s0, s1, s2⟩, s3, s4, s5⟩ := HV.out.cells
   rw [hL] at s0 s1 s2 s3 s5 ho6
   rw [hL]
   obtain ⟨n1, hn1⟩ : ∃ n1, n1 = L + 1 := ⟨_, rfl⟩
   rw [← hn1]
   have hLN : L ≤ X.N := by have := HIJ.out; omega
   have hn0 : (0 : Int) < (n1 : Int) := by omega
   have hwL : IntKind.i64.wrap ((n1 : Int) - 1) = (L : Int) := by rw [IntKind.wrap_i64]; have := HLEN.out; omega
   have hL0 : (0 : Int) ≤ (L : Int) := by omega
   have hLn : (L : Int) < (n1 : Int) := by omega
   have hLc : (L : Int) ≤ (cap : Int) := by omega
   have hnc : (n1 : Int) ≤ (cap : Int) := by omega
   have HSO := Lib.hid (show i + cc ≤ p ∧ p ≤ j ∧ k ≤ j ∧ ((-1 : Int) = -1 ∨ (cc : Int) ≤ (-1 : Int)) ∧ CapsOk X.N a ∧ cc = L ∧ p ≤ X.N ∧ j ≤ X.N from ⟨ho1, ho2, ho3, ho4, ho5, ho6, by have := HIJ.out; omega, HIJ.out.2⟩)
   clear hL ho1 ho2 ho3 ho4 ho5 ho6 s5 hLN
   have HN1 := Lib.hid hn1
   clear hn1
   obtain ⟨x0, x1, x2, x3, x4, x5, x6, x7, x8, x9⟩ := node_cells HV.out.lf.nb; (try dsimp only at x0 x1 x2 x3 x4 x5 x6 x7 x8 x9)
   by_cases hpj : p = j
   ·
    have hq : ((p : Int) == (j : Int)) = true := by rw [hpj]; simp
    have HPJ := Lib.hid hpj
    clear hpj
    by_cases hmn : mn ≤ (cc : Int)
    ·
     go_wp2
     clear x0 x1 x2 x3 x4 x5 x6 x7 x8 x9 s0 s1 s2 s3 s4
     have HD := Lib.hid (HV.out.below (Below.refl _ _).drew)
     have hags := HD.out.ags
     rw [HLL.out] at hags
     refine wp_region_noPanic ?_
     refine wp_region_held_drew (S := fun w' => AGS X w c ⟨6, z, (a0 : Nat), (b : Nat), mn, (-1 : Int), (m : Nat)⟩ g L p cc k a w') (by kernel_rfl) ?_ (fun hHeld => ?_)
     · (try dsimp only); exact hags
     clear hags
     generalize World.drew _ = W1 at HD hHeld ⊢
     refine Tk.take 0 (h := ?_)
     refine Tk.take 1 (h := ?_)
     refine Tk.take 2 (h := ?_)
     refine Tk.fk (fun _ h => And.intro h.1.node (And.intro h.1.bm h.2.1)) 3 (h := ?_)
     refine Tk.take 4 (h := ?_)
     refine Tk.fk (fun _ h => And.intro h.1.node (And.intro h.1.bm h.2.1)) 5 (h := ?_)
     refine Tk.take 6 (h := ?_)
     refine wpAnyH_done (by kernel_rfl) ?_ _
     refine NoPanic.normal ?_
     clear hHeld
     have hrg := HD.out.cells.2.1
     rw [HLL.out] at hrg
     go_wp2_with (first
      | (refine wpList_load_mid rfl 27 (.tmp 55) rfl g (L * 13 + 3) rfl (CC a).toList _ hrg Tryz.underlying27 rfl (by kernel_rfl) ?_; simp only [Act.put, List.setIfInBounds_toArray, List.set_cons_zero, List.set_cons_succ])
      | (refine wpList_store_row rfl 27 (.tmp 10) (.tmp 56) rfl (w.heap.size + 1) (CC a) rfl rfl _ CZ HD.out.lf.tf.rs (by kernel_rfl) rfl (cc_one a) ?_; simp only [Act.put, List.setIfInBounds_toArray, List.set_cons_zero, List.set_cons_succ]; obtain ⟨r1, r2, r3⟩ := HD.out.lf.tf.ret a; have HR9 := Lib.hid (And.intro r1 (And.intro r2 r3)); clear r1 r2 r3 HD; generalize World.setRow _ _ _ = W9 at HR9 ⊢))
     (try rw [Exit.noGoto_ret])
     refine bodyPost_ret (res_caps rfl rfl HR9.out.1 rfl) rfl ?_
     refine ⟨a, true, rfl, ?_, HR9.out.2.1, HR9.out.2.2⟩
     have := HOK.out.2
     rw [resS_push, HPJ.out, ansS_at _ _ _ (by omega)] at this
     rw [← this]
     exact ⟨HSO.out.2.2.2.2.1, rfl, rfl⟩
    ·
     cases hf : fitP X.T x j j a with
     | none =>
      go_wp2
      clear x0 x1 x2 x3 x4 x5 x6 x7 x8 x9 s0 s1 s2 s3 s4
      have HD := Lib.hid (HV.out.below (Below.refl _ _).drew)
      have hags := HD.out.ags
      rw [HLL.out] at hags
      refine wp_region_noPanic ?_
      refine wp_region_held_drew (S := fun w' => AGS X w c ⟨6, z, (a0 : Nat), (b : Nat), mn, (-1 : Int), (m : Nat)⟩ g L p cc k a w') (by kernel_rfl) ?_ (fun hHeld => ?_)
      · (try dsimp only); exact hags
      clear hags
      generalize World.drew _ = W1 at HD hHeld ⊢
      refine Tk.take 0 (h := ?_)
      refine Tk.take 1 (h := ?_)
      refine Tk.take 2 (h := ?_)
      refine Tk.fk (fun _ h => And.intro h.1.node (And.intro h.1.bm h.2.1)) 3 (h := ?_)
      refine Tk.take 4 (h := ?_)
      refine Tk.fk (fun _ h => And.intro h.1.node (And.intro h.1.bm h.2.1)) 5 (h := ?_)
      refine Tk.take 6 (h := ?_)
      refine wpAnyH_done (by kernel_rfl) ?_ _
      refine NoPanic.normal ?_
      clear hHeld
      have HV1 := HD
      clear HD HV
      go_wp2
      have HD := Lib.hid (HV1.out.below (Below.refl _ _).drew)
      have hags := HD.out.ags
      rw [HLL.out] at hags
      refine wp_region_noPanic ?_
      refine wp_region_held_drew (S := fun w' => AGS X w c ⟨6, z, (a0 : Nat), (b : Nat), mn, (-1 : Int), (m : Nat)⟩ g L p cc k a w') (by kernel_rfl) ?_ (fun hHeld => ?_)
      · (try dsimp only); exact hags
      clear hags
      generalize World.drew _ = W2 at HD hHeld ⊢
      clear HV1
      refine Tk.take 0 (h := ?_)
      refine Tk.take 1 (h := ?_)
      refine Tk.fk (fun _ h => And.intro h.1.node (And.intro h.1.bm h.2.1)) 2 (h := ?_)
      refine Tk.take 3 (h := ?_)
      refine Tk.take 4 (h := ?_)
      refine Tk.take 5 (h := ?_)
      refine Tk.take 6 (h := ?_)
      refine Tk.take 7 (h := ?_)
      refine Tk.take 8 (hy := fun wv hSw => exec_load_mid 27 (.tmp 65) rfl g (L * 13 + 3) rfl (CC a).toList _ hSw.2.2 Tryz.underlying27 rfl (by kernel_rfl)) (h := ?_)
      refine wpAnyH_ready (rs := [9, 13]) (by kernel_rfl) (by simp) ?_
      refine AllReadyH.cons (o := ?oc1) ?hic1 (fun K hK => ?stc1) (AllReadyH.cons (o := ?oa1) ?hia1 (fun K hK => ?sta1) AllReadyH.nil)
      case hic1 => simp only [List.getElem?_toArray, List.getElem?_cons_succ, List.getElem?_cons_zero]; rfl
      case hia1 => simp only [List.getElem?_toArray, List.getElem?_cons_succ, List.getElem?_cons_zero]; rfl
      case stc1 =>
       go_simp
       (go_at_call 47; have hq := HFt.out _ j j a _ (Nat.le_refl _) HIJ.out.2 HSO.out.2.2.2.2.1 HD.out.lf.tf.mm; refine hq.mono ?_; clear hq; rintro e w2 ⟨a1, b1, rfl, hl, hm, hk⟩; rw [hf] at hl; obtain ⟨hca, hb1⟩ := hl; subst hb1; have HCA := Lib.hid hca; have HD2 := Lib.hid (HD.out.call hm hk); clear hca hm hk)
       have hags := HD2.out.ags
       rw [HLL.out] at hags
       refine hK.out _ _ ?_ (fun hHeld => Tk.wrk ?_)
       · (try dsimp only); exact hags
       clear hags
       clear hK K
       refine Tk.take 10 (h := ?_)
       refine Tk.take 11 (h := ?_)
       refine Tk.take 12 (h := ?_)
       refine Tk.one 13 (h := fun K hK => ?_)
       go_simp
       obtain ⟨f1, f2, f3⟩ := HD2.out.zero
       have HD3 := Lib.hid f1
       have HZ := Lib.hid (And.intro f2 f3)
       clear f1 f2 f3 HD2
       have hags := HD3.out.ags
       rw [HLL.out] at hags
       refine hK.out _ _ ?_ (fun hHeld => Tk.wrk ?_)
       · (try dsimp only); exact hags
       clear hags
       clear hK K
       refine Tk.one 14 (h := fun K hK => ?_)
       refine step_store_row rfl 27 (.tmp 15) (.tmp 68) rfl w2.heap.size (CC a1) rfl rfl _ CZ HZ.out.1 (by kernel_rfl) rfl (cc_one a1) ?_
       obtain ⟨f1, f2⟩ := HD3.out.fill HZ.out.1 HZ.out.2 a1
       have HD4 := Lib.hid f1
       have HB := Lib.hid f2
       clear f1 f2 HZ HD3
       generalize World.setRow _ _ _ = W5 at HD4 HB ⊢
       have hags := HD4.out.ags
       rw [HLL.out] at hags
       refine hK.out _ _ ?_ (fun hHeld => Tk.wrk ?_)
       · (try dsimp only); exact hags
       clear hags
       clear hK K
       refine Tk.take 15 (h := ?_)
       refine wpAnyH_done (by kernel_rfl) ?_ _
       refine NoPanic.normal ?_
       clear hHeld
       go_wp2
       have HRS2 := Lib.hid (show resS (fitP X.T x) mn (-1 : Int) j r = R from by have := HOK.out.2; rw [resS_push, (show ansS (fitP X.T x) mn (-1 : Int) j ⟨p, cc, k, a⟩ = none from by rw [HPJ.out, ansS_one _ _ _ (by omega)]; exact hf)] at this; simpa using this)
       go_roundg (muL j r)
       case measure => exact muL_less _ _
       case rel => exact ⟨r, g, cap, rfl, by rw [HLL.out], Lib.hid ⟨stk_pop HOK.out.1, HRS2.out⟩, Lib.hid HD4.out.pop⟩
      case sta1 =>
       go_simp
       obtain ⟨f1, f2, f3⟩ := HD.out.zero
       have HD2 := Lib.hid f1
       have HZ0 := Lib.hid (And.intro f2 f3)
       clear f1 f2 f3
       have hags := HD2.out.ags
       rw [HLL.out] at hags
       refine hK.out _ _ ?_ (fun hHeld => Tk.wrk ?_)
       · (try dsimp only); exact hags
       clear hags
       clear hK K
       generalize World.alloc _ _ = W8 at HD2 HZ0 hHeld ⊢
       refine Tk.one 9 (h := fun K hK => ?_)
       go_simp
       (go_at_call 47; have hq := HFt.out _ j j a _ (Nat.le_refl _) HIJ.out.2 HSO.out.2.2.2.2.1 HD2.out.lf.tf.mm; refine hq.mono ?_; clear hq; rintro e w2 ⟨a1, b1, rfl, hl, hm, hk⟩; rw [hf] at hl; obtain ⟨hca, hb1⟩ := hl; subst hb1; have HCA := Lib.hid hca; have HD3 := Lib.hid (HD2.out.call hm hk); have HZ := Lib.hid (And.intro (HD2.out.kept HZ0.out.1 hk) HZ0.out.2); clear HZ0; clear hca hm hk)
       have hags := HD3.out.ags
       rw [HLL.out] at hags
       refine hK.out _ _ ?_ (fun hHeld => Tk.wrk ?_)
       · (try dsimp only); exact hags
       clear hags
       clear hK K
       refine Tk.take 10 (h := ?_)
       refine Tk.take 11 (h := ?_)
       refine Tk.take 12 (h := ?_)
       refine Tk.one 14 (h := fun K hK => ?_)
       refine step_store_row rfl 27 (.tmp 15) (.tmp 68) rfl W2.heap.size (CC a1) rfl rfl _ CZ HZ.out.1 (by kernel_rfl) rfl (cc_one a1) ?_
       obtain ⟨f1, f2⟩ := HD3.out.fill HZ.out.1 HZ.out.2 a1
       have HD4 := Lib.hid f1
       have HB := Lib.hid f2
       clear f1 f2 HZ HD3
       generalize World.setRow _ _ _ = W5 at HD4 HB ⊢
       have hags := HD4.out.ags
       rw [HLL.out] at hags
       refine hK.out _ _ ?_ (fun hHeld => Tk.wrk ?_)
       · (try dsimp only); exact hags
       clear hags
       clear hK K
       refine Tk.take 15 (h := ?_)
       refine wpAnyH_done (by kernel_rfl) ?_ _
       refine NoPanic.normal ?_
       clear hHeld
       go_wp2
       have HRS2 := Lib.hid (show resS (fitP X.T x) mn (-1 : Int) j r = R from by have := HOK.out.2; rw [resS_push, (show ansS (fitP X.T x) mn (-1 : Int) j ⟨p, cc, k, a⟩ = none from by rw [HPJ.out, ansS_one _ _ _ (by omega)]; exact hf)] at this; simpa using this)
       go_roundg (muL j r)
       case measure => exact muL_less _ _
       case rel => exact ⟨r, g, cap, rfl, by rw [HLL.out], Lib.hid ⟨stk_pop HOK.out.1, HRS2.out⟩, Lib.hid HD4.out.pop⟩
     | some y0 =>
      go_wp2
      clear x0 x1 x2 x3 x4 x5 x6 x7 x8 x9 s0 s1 s2 s3 s4
      have HD := Lib.hid (HV.out.below (Below.refl _ _).drew)
      have hags := HD.out.ags
      rw [HLL.out] at hags
      refine wp_region_noPanic ?_
      refine wp_region_held_drew (S := fun w' => AGS X w c ⟨6, z, (a0 : Nat), (b : Nat), mn, (-1 : Int), (m : Nat)⟩ g L p cc k a w') (by kernel_rfl) ?_ (fun hHeld => ?_)
      · (try dsimp only); exact hags
      clear hags
      generalize World.drew _ = W1 at HD hHeld ⊢
      refine Tk.take 0 (h := ?_)
      refine Tk.take 1 (h := ?_)
      refine Tk.take 2 (h := ?_)
      refine Tk.fk (fun _ h => And.intro h.1.node (And.intro h.1.bm h.2.1)) 3 (h := ?_)
      refine Tk.take 4 (h := ?_)
      refine Tk.fk (fun _ h => And.intro h.1.node (And.intro h.1.bm h.2.1)) 5 (h := ?_)
      refine Tk.take 6 (h := ?_)
      refine wpAnyH_done (by kernel_rfl) ?_ _
      refine NoPanic.normal ?_
      clear hHeld
      have HV1 := HD
      clear HD HV
      go_wp2
      have HD := Lib.hid (HV1.out.below (Below.refl _ _).drew)
      have hags := HD.out.ags
      rw [HLL.out] at hags
      refine wp_region_noPanic ?_
      refine wp_region_held_drew (S := fun w' => AGS X w c ⟨6, z, (a0 : Nat), (b : Nat), mn, (-1 : Int), (m : Nat)⟩ g L p cc k a w') (by kernel_rfl) ?_ (fun hHeld => ?_)
      · (try dsimp only); exact hags
      clear hags
      generalize World.drew _ = W2 at HD hHeld ⊢
      clear HV1
      refine Tk.take 0 (h := ?_)
      refine Tk.take 1 (h := ?_)
      refine Tk.fk (fun _ h => And.intro h.1.node (And.intro h.1.bm h.2.1)) 2 (h := ?_)
      refine Tk.take 3 (h := ?_)
      refine Tk.take 4 (h := ?_)
      refine Tk.take 5 (h := ?_)
      refine Tk.take 6 (h := ?_)
      refine Tk.take 7 (h := ?_)
      refine Tk.take 8 (hy := fun wv hSw => exec_load_mid 27 (.tmp 65) rfl g (L * 13 + 3) rfl (CC a).toList _ hSw.2.2 Tryz.underlying27 rfl (by kernel_rfl)) (h := ?_)
      refine wpAnyH_ready (rs := [9, 13]) (by kernel_rfl) (by simp) ?_
      refine AllReadyH.cons (o := ?oc2) ?hic2 (fun K hK => ?stc2) (AllReadyH.cons (o := ?oa2) ?hia2 (fun K hK => ?sta2) AllReadyH.nil)
      case hic2 => simp only [List.getElem?_toArray, List.getElem?_cons_succ, List.getElem?_cons_zero]; rfl
      case hia2 => simp only [List.getElem?_toArray, List.getElem?_cons_succ, List.getElem?_cons_zero]; rfl
      case stc2 =>
       go_simp
       (go_at_call 47; have hq := HFt.out _ j j a _ (Nat.le_refl _) HIJ.out.2 HSO.out.2.2.2.2.1 HD.out.lf.tf.mm; refine hq.mono ?_; clear hq; rintro e w2 ⟨a1, b1, rfl, hl, hm, hk⟩; rw [hf] at hl; obtain ⟨hca, hb1, ha1⟩ := hl; subst hb1; subst ha1; have HCA := Lib.hid hca; have HD2 := Lib.hid (HD.out.call hm hk); clear hca hm hk)
       have hags := HD2.out.ags
       rw [HLL.out] at hags
       refine hK.out _ _ ?_ (fun hHeld => Tk.wrk ?_)
       · (try dsimp only); exact hags
       clear hags
       clear hK K
       refine Tk.take 10 (h := ?_)
       refine Tk.take 11 (h := ?_)
       refine Tk.take 12 (h := ?_)
       refine Tk.one 13 (h := fun K hK => ?_)
       go_simp
       obtain ⟨f1, f2, f3⟩ := HD2.out.zero
       have HD3 := Lib.hid f1
       have HZ := Lib.hid (And.intro f2 f3)
       clear f1 f2 f3 HD2
       have hags := HD3.out.ags
       rw [HLL.out] at hags
       refine hK.out _ _ ?_ (fun hHeld => Tk.wrk ?_)
       · (try dsimp only); exact hags
       clear hags
       clear hK K
       refine Tk.one 14 (h := fun K hK => ?_)
       refine step_store_row rfl 27 (.tmp 15) (.tmp 68) rfl w2.heap.size (CC a1) rfl rfl _ CZ HZ.out.1 (by kernel_rfl) rfl (cc_one a1) ?_
       obtain ⟨f1, f2⟩ := HD3.out.fill HZ.out.1 HZ.out.2 a1
       have HD4 := Lib.hid f1
       have HB := Lib.hid f2
       clear f1 f2 HZ HD3
       generalize World.setRow _ _ _ = W5 at HD4 HB ⊢
       have hags := HD4.out.ags
       rw [HLL.out] at hags
       refine hK.out _ _ ?_ (fun hHeld => Tk.wrk ?_)
       · (try dsimp only); exact hags
       clear hags
       clear hK K
       refine Tk.take 15 (h := ?_)
       refine wpAnyH_done (by kernel_rfl) ?_ _
       refine NoPanic.normal ?_
       clear hHeld
       go_wp2_with (first
        | (refine wpList_load_row rfl 27 (.tmp 15) rfl w2.heap.size rfl _ (CC a1) (0, 0) _ HB.out Tryz.underlying27 rfl (by kernel_rfl) ?_; simp only [Act.put, List.setIfInBounds_toArray, List.set_cons_zero, List.set_cons_succ])
        | (refine wpList_store_row rfl 27 (.tmp 10) (.tmp 71) rfl (w.heap.size + 1) (CC a1) rfl rfl _ CZ HD4.out.lf.tf.rs (by kernel_rfl) rfl (cc_one a1) ?_; simp only [Act.put, List.setIfInBounds_toArray, List.set_cons_zero, List.set_cons_succ]; obtain ⟨r1, r2, r3⟩ := HD4.out.lf.tf.ret a1; have HR9 := Lib.hid (And.intro r1 (And.intro r2 r3)); clear r1 r2 r3 HD4; generalize World.setRow _ _ _ = W9 at HR9 ⊢))
       (try rw [Exit.noGoto_ret])
       refine bodyPost_ret (res_caps rfl rfl HR9.out.1 rfl) rfl ?_
       refine ⟨a1, true, rfl, ?_, HR9.out.2.1, HR9.out.2.2⟩
       have := HOK.out.2
       rw [resS_push, (show ansS (fitP X.T x) mn (-1 : Int) j ⟨p, cc, k, a⟩ = some a1 from by rw [HPJ.out, ansS_one _ _ _ (by omega)]; exact hf)] at this
       rw [← this]
       exact ⟨HCA.out, rfl, rfl⟩
      case sta2 =>
       go_simp
       obtain ⟨f1, f2, f3⟩ := HD.out.zero
       have HD2 := Lib.hid f1
       have HZ0 := Lib.hid (And.intro f2 f3)
       clear f1 f2 f3
       have hags := HD2.out.ags
       rw [HLL.out] at hags
       refine hK.out _ _ ?_ (fun hHeld => Tk.wrk ?_)
       · (try dsimp only); exact hags
       clear hags
       clear hK K
       generalize World.alloc _ _ = W8 at HD2 HZ0 hHeld ⊢
       refine Tk.one 9 (h := fun K hK => ?_)
       go_simp
       (go_at_call 47; have hq := HFt.out _ j j a _ (Nat.le_refl _) HIJ.out.2 HSO.out.2.2.2.2.1 HD2.out.lf.tf.mm; refine hq.mono ?_; clear hq; rintro e w2 ⟨a1, b1, rfl, hl, hm, hk⟩; rw [hf] at hl; obtain ⟨hca, hb1, ha1⟩ := hl; subst hb1; subst ha1; have HCA := Lib.hid hca; have HD3 := Lib.hid (HD2.out.call hm hk); have HZ := Lib.hid (And.intro (HD2.out.kept HZ0.out.1 hk) HZ0.out.2); clear HZ0; clear hca hm hk)
       have hags := HD3.out.ags
       rw [HLL.out] at hags
       refine hK.out _ _ ?_ (fun hHeld => Tk.wrk ?_)
       · (try dsimp only); exact hags
       clear hags
       clear hK K
       refine Tk.take 10 (h := ?_)
       refine Tk.take 11 (h := ?_)
       refine Tk.take 12 (h := ?_)
       refine Tk.one 14 (h := fun K hK => ?_)
       refine step_store_row rfl 27 (.tmp 15) (.tmp 68) rfl W2.heap.size (CC a1) rfl rfl _ CZ HZ.out.1 (by kernel_rfl) rfl (cc_one a1) ?_
       obtain ⟨f1, f2⟩ := HD3.out.fill HZ.out.1 HZ.out.2 a1
       have HD4 := Lib.hid f1
       have HB := Lib.hid f2
       clear f1 f2 HZ HD3
       generalize World.setRow _ _ _ = W5 at HD4 HB ⊢
       have hags := HD4.out.ags
       rw [HLL.out] at hags
       refine hK.out _ _ ?_ (fun hHeld => Tk.wrk ?_)
       · (try dsimp only); exact hags
       clear hags
       clear hK K
       refine Tk.take 15 (h := ?_)
       refine wpAnyH_done (by kernel_rfl) ?_ _
       refine NoPanic.normal ?_
       clear hHeld
       go_wp2_with (first
        | (refine wpList_load_row rfl 27 (.tmp 15) rfl W2.heap.size rfl _ (CC a1) (0, 0) _ HB.out Tryz.underlying27 rfl (by kernel_rfl) ?_; simp only [Act.put, List.setIfInBounds_toArray, List.set_cons_zero, List.set_cons_succ])
        | (refine wpList_store_row rfl 27 (.tmp 10) (.tmp 71) rfl (w.heap.size + 1) (CC a1) rfl rfl _ CZ HD4.out.lf.tf.rs (by kernel_rfl) rfl (cc_one a1) ?_; simp only [Act.put, List.setIfInBounds_toArray, List.set_cons_zero, List.set_cons_succ]; obtain ⟨r1, r2, r3⟩ := HD4.out.lf.tf.ret a1; have HR9 := Lib.hid (And.intro r1 (And.intro r2 r3)); clear r1 r2 r3 HD4; generalize World.setRow _ _ _ = W9 at HR9 ⊢))
       (try rw [Exit.noGoto_ret])
       refine bodyPost_ret (res_caps rfl rfl HR9.out.1 rfl) rfl ?_
       refine ⟨a1, true, rfl, ?_, HR9.out.2.1, HR9.out.2.2⟩
       have := HOK.out.2
       rw [resS_push, (show ansS (fitP X.T x) mn (-1 : Int) j ⟨p, cc, k, a⟩ = some a1 from by rw [HPJ.out, ansS_one _ _ _ (by omega)]; exact hf)] at this
       rw [← this]
       exact ⟨HCA.out, rfl, rfl⟩
   ·
    have hq : ((p : Int) == (j : Int)) = false := by rw [beq_eq_false_iff_ne]; omega
    have HPJ := Lib.hid hpj
    clear hpj
    have HNM := Lib.hid (show ¬ ((-1 : Int) ≠ -1 ∧ (-1 : Int) ≤ (cc : Int)) from fun q => q.1 rfl)
    go_wp2
    clear x0 x1 x2 x3 x4 x5 x6 x7 x8 x9 s0 s1 s2 s3 s4
    have HD := Lib.hid (HV.out.below (Below.refl _ _).drew)
    have hags := HD.out.ags
    rw [HLL.out] at hags
    refine wp_region_noPanic ?_
    refine wp_region_held_drew (S := fun w' => AGS X w c ⟨6, z, (a0 : Nat), (b : Nat), mn, (-1 : Int), (m : Nat)⟩ g L p cc k a w') (by kernel_rfl) ?_ (fun hHeld => ?_)
    · (try dsimp only); exact hags
    clear hags
    generalize World.drew _ = W1 at HD hHeld ⊢
    refine Tk.take 0 (h := ?_)
    refine Tk.fk (fun _ h => And.intro h.1.node (And.intro h.1.bm h.2.1)) 1 (h := ?_)
    refine Tk.take 2 (h := ?_)
    refine Tk.take 3 (h := ?_)
    refine Tk.pass 4 (h := ?_)
    refine Tk.pass 5 (h := ?_)
    refine Tk.pass 6 (h := ?_)
    refine Tk.pass 7 (h := ?_)
    refine Tk.pass 8 (h := ?_)
    refine Tk.pass 9 (h := ?_)
    refine Tk.pass 10 (h := ?_)
    refine Tk.take 11 (h := ?_)
    refine wpAnyH_done (by kernel_rfl) ?_ _
    refine NoPanic.normal ?_
    clear hHeld
    have HV1 := HD
    clear HD HV
    go_wp2
    (try clear hmc)
    have HIN := Lib.hid (And.intro (stk_pop HOK.out.1) (And.intro (Nat.le_refl (muL j (r ++ [⟨p, cc, k, a⟩]))) (And.intro HSO.out.2.2.1 HOK.out.2)))
    go_loopg [13] (k + 1) (fun n sv wq => ∃ (k1 : Nat), n = k1 + 1 ∧ sv = .slice (some ⟨g, 0, none⟩) n1 cap ∧ Hid (StkOk X (-1 : Int) i j r ∧ muL j (r ++ [⟨p, cc, k1, a⟩]) ≤ muL j (r ++ [⟨p, cc, k, a⟩]) ∧ k1 ≤ j ∧ resS (fitP X.T x) mn (-1 : Int) j (r ++ [⟨p, cc, k1, a⟩]) = R) ∧ Hid (AG X pr w c ⟨6, z, (a0 : Nat), (b : Nat), mn, (-1 : Int), (m : Nat)⟩ g cap (r ++ [⟨p, cc, k1, a⟩]) wq))
    case atStart => exact ⟨k, rfl, rfl, HIN, HV1⟩
    case round =>
     clear HIN HV1
     obtain ⟨k1, hgn, rfl, HJ, HU⟩ := hrel
     subst hgn
     have hk0 : (0 : Int) ≤ (k1 : Int) := by omega
     by_cases hkp : p < k1
     ·
      have hlt : (p : Int) < (k1 : Int) := by omega
      obtain ⟨k2, hk2⟩ : ∃ k2, k1 - 1 = k2 := ⟨_, rfl⟩
      have hwk : IntKind.i64.wrap ((k1 : Int) - 1) = (k2 : Int) := by rw [IntKind.wrap_i64]; have := HLEN.out; have := HJ.out.2.2.1; have := HIJ.out; omega
      obtain ⟨cc1, hcc1⟩ : ∃ cc1, cc + 1 = cc1 := ⟨_, rfl⟩
      have hwc : IntKind.i64.wrap ((cc : Int) + 1) = (cc1 : Int) := by rw [IntKind.wrap_i64]; have := HLEN.out; have := HSO.out; omega
      have HST := Lib.hid (ansS_step (f := (fitP X.T x)) (mn := mn) (mx := (-1 : Int)) (j := j) p cc k1 a HPJ.out HNM.out hkp HJ.out.2.2.1)
      rw [hk2, hcc1] at HST
      have HMD := Lib.hid (muL_next (j := j) r p cc k1 a hkp)
      rw [hk2] at HMD
      have HMM := Lib.hid (fun x0 => muL_more (j := j) r p cc k1 a x0 hkp HJ.out.2.2.1)
      rw [hk2, hcc1] at HMM
      have HK2 := Lib.hid (show k2 < k1 ∧ k2 ≤ j ∧ cc1 = cc + 1 ∧ p < k1 ∧ k1 ≤ X.N ∧ p ≤ k1 ∧ k1 ≤ j from ⟨by omega, by have := HJ.out.2.2.1; omega, by omega, hkp, by have := HJ.out.2.2.1; have := HIJ.out; omega, by omega, HJ.out.2.2.1⟩)
      clear hk2 hcc1 hkp
      go_wp2
      have HD := Lib.hid (HU.out.below (Below.refl _ _).drew)
      have hags := HD.out.ags
      rw [HLL.out] at hags
      refine wp_region_noPanic ?_
      refine wp_region_held_drew (S := fun w' => AGS X w c ⟨6, z, (a0 : Nat), (b : Nat), mn, (-1 : Int), (m : Nat)⟩ g L p cc k1 a w') (by kernel_rfl) ?_ (fun hHeld => ?_)
      · (try dsimp only); exact hags
      clear hags
      generalize World.drew _ = W3 at HD hHeld ⊢
      refine Tk.take 0 (h := ?_)
      refine Tk.take 1 (h := ?_)
      refine Tk.take 2 (h := ?_)
      refine Tk.fk (fun _ h => And.intro h.1.node (And.intro h.1.bm h.2.1)) 3 (h := ?_)
      refine Tk.take 4 (h := ?_)
      refine Tk.take 5 (h := ?_)
      refine Tk.take 6 (h := ?_)
      refine Tk.fk (fun _ h => And.intro h.1.node (And.intro h.1.bm h.2.1)) 7 (h := ?_)
      refine Tk.take 8 (h := ?_)
      refine wpAnyH_done (by kernel_rfl) ?_ _
      refine NoPanic.normal ?_
      clear hHeld
      have HU1 := HD
      clear HD HU
      cases hf : fitP X.T x p k1 a with
      | none =>
       go_wp2
       have HD := Lib.hid (HU1.out.below (Below.refl _ _).drew)
       have hags := HD.out.ags
       rw [HLL.out] at hags
       refine wp_region_noPanic ?_
       refine wp_region_held_drew (S := fun w' => AGS X w c ⟨6, z, (a0 : Nat), (b : Nat), mn, (-1 : Int), (m : Nat)⟩ g L p cc k1 a w') (by kernel_rfl) ?_ (fun hHeld => ?_)
       · (try dsimp only); exact hags
       clear hags
       generalize World.drew _ = W4 at HD hHeld ⊢
       clear HU1
       refine Tk.take 0 (h := ?_)
       refine Tk.take 1 (h := ?_)
       refine Tk.fk (fun _ h => And.intro h.1.node (And.intro h.1.bm h.2.1)) 2 (h := ?_)
       refine Tk.take 3 (h := ?_)
       refine Tk.take 4 (h := ?_)
       refine Tk.take 5 (h := ?_)
       refine Tk.fk (fun _ h => And.intro h.1.node (And.intro h.1.bm h.2.1)) 6 (h := ?_)
       refine Tk.take 7 (h := ?_)
       refine Tk.take 8 (h := ?_)
       refine Tk.take 9 (h := ?_)
       refine Tk.fk (fun _ h => And.intro h.1.node (And.intro h.1.bm h.2.1)) 10 (h := ?_)
       refine Tk.take 11 (h := ?_)
       refine Tk.take 12 (h := ?_)
       refine Tk.take 13 (h := ?_)
       refine Tk.take 14 (hy := fun wv hSw => exec_load_mid 27 (.tmp 124) rfl g (L * 13 + 3) rfl (CC a).toList _ hSw.2.2 Tryz.underlying27 rfl (by kernel_rfl)) (h := ?_)
       refine wpAnyH_ready (rs := [15, 19]) (by kernel_rfl) (by simp) ?_
       refine AllReadyH.cons (o := ?oc3) ?hic3 (fun K hK => ?stc3) (AllReadyH.cons (o := ?oa3) ?hia3 (fun K hK => ?sta3) AllReadyH.nil)
       case hic3 => simp only [List.getElem?_toArray, List.getElem?_cons_succ, List.getElem?_cons_zero]; rfl
       case hia3 => simp only [List.getElem?_toArray, List.getElem?_cons_succ, List.getElem?_cons_zero]; rfl
       case stc3 =>
        go_simp
        (go_at_call 47; have hq := HFt.out _ p k1 a _ HK2.out.2.2.2.2.2.1 HK2.out.2.2.2.2.1 HSO.out.2.2.2.2.1 HD.out.lf.tf.mm; refine hq.mono ?_; clear hq; rintro e w2 ⟨a1, b1, rfl, hl, hm, hk⟩; rw [hf] at hl; obtain ⟨hca, hb1⟩ := hl; subst hb1; have HCA := Lib.hid hca; have HD2 := Lib.hid (HD.out.call hm hk); clear hca hm hk)
        have hags := HD2.out.ags
        rw [HLL.out] at hags
        refine hK.out _ _ ?_ (fun hHeld => Tk.wrk ?_)
        · (try dsimp only); exact hags
        clear hags
        clear hK K
        refine Tk.take 16 (h := ?_)
        refine Tk.take 17 (h := ?_)
        refine Tk.take 18 (h := ?_)
        refine Tk.one 19 (h := fun K hK => ?_)
        go_simp
        obtain ⟨f1, f2, f3⟩ := HD2.out.zero
        have HD3 := Lib.hid f1
        have HZ := Lib.hid (And.intro f2 f3)
        clear f1 f2 f3 HD2
        have hags := HD3.out.ags
        rw [HLL.out] at hags
        refine hK.out _ _ ?_ (fun hHeld => Tk.wrk ?_)
        · (try dsimp only); exact hags
        clear hags
        clear hK K
        refine Tk.one 20 (h := fun K hK => ?_)
        refine step_store_row rfl 27 (.tmp 17) (.tmp 127) rfl w2.heap.size (CC a1) rfl rfl _ CZ HZ.out.1 (by kernel_rfl) rfl (cc_one a1) ?_
        obtain ⟨f1, f2⟩ := HD3.out.fill HZ.out.1 HZ.out.2 a1
        have HD4 := Lib.hid f1
        have HB := Lib.hid f2
        clear f1 f2 HZ HD3
        generalize World.setRow _ _ _ = W5 at HD4 HB ⊢
        have hags := HD4.out.ags
        rw [HLL.out] at hags
        refine hK.out _ _ ?_ (fun hHeld => Tk.wrk ?_)
        · (try dsimp only); exact hags
        clear hags
        clear hK K
        refine Tk.take 21 (h := ?_)
        refine wpAnyH_done (by kernel_rfl) ?_ _
        refine NoPanic.normal ?_
        clear hHeld
        go_wp2
        have HD := Lib.hid (HD4.out.below (Below.refl _ _).drew)
        have HBd := Lib.hid (show CB (World.drew _) w2.heap.size a1 from HB.out)
        have hags := HD.out.ags
        rw [HLL.out] at hags
        refine wp_region_noPanic ?_
        refine wp_region_held_drew (S := fun w' => AGS X w c ⟨6, z, (a0 : Nat), (b : Nat), mn, (-1 : Int), (m : Nat)⟩ g L p cc k1 a w' ∧ CB w' (w2.heap.size) a1) (by kernel_rfl) ?_ (fun hHeld => ?_)
        · (try dsimp only); exact ⟨hags, HBd.out⟩
        clear hags HD4 HB
        generalize World.drew _ = W6 at HD HBd hHeld ⊢
        refine Tk.take 0 (h := ?_)
        refine Tk.take 1 (h := ?_)
        refine Tk.take 2 (h := ?_)
        refine Tk.fk (fun _ h => And.intro h.1.1.node (And.intro h.1.1.bm h.1.2.1)) 3 (h := ?_)
        refine Tk.take 4 (h := ?_)
        refine Tk.take 5 (h := ?_)
        refine Tk.take 6 (h := ?_)
        refine Tk.fk (fun _ h => And.intro h.1.1.node (And.intro h.1.1.bm h.1.2.1)) 7 (h := ?_)
        refine Tk.take 8 (h := ?_)
        refine Tk.take 9 (h := ?_)
        refine Tk.take 10 (hy := fun wv hSw => exec_load_row 27 (.tmp 17) rfl (w2.heap.size) rfl _ (CC a1) _ _ hSw.2 Tryz.underlying27 rfl (by kernel_rfl)) (h := ?_)
        refine Tk.take 11 (h := ?_)
        refine Tk.one 12 (h := fun K hK => ?_)
        go_simp
        obtain ⟨f1, f2⟩ := HD.out.stand (.cells SZ 173)
        have hags := f1.ags
        rw [HLL.out] at hags
        refine hK.out _ _ ?_ (fun hHeld => Tk.wrk ?_)
        · (try dsimp only); exact ⟨hags, f2 HBd.out⟩
        clear hags f1 f2
        clear hK K
        refine Tk.one 13 (h := fun K hK => ?_)
        refine step_store_row rfl 173 (.tmp 19) (.tmp 140) rfl W6.heap.size (SC k1 cc1 j a1) rfl rfl _ SZ (heap_alloc_new _ _) (by kernel_rfl) rfl (sc_one _ _ _ _) ?_
        rw [stand_laid]
        obtain ⟨f1, f2⟩ := HD.out.stand (.cells (SC k1 cc1 j a1) 173)
        have hags := f1.ags
        rw [HLL.out] at hags
        refine hK.out _ _ ?_ (fun hHeld => Tk.wrk ?_)
        · (try dsimp only); exact ⟨hags, f2 HBd.out⟩
        clear hags f1 f2
        clear hK K
        refine wpAnyH_done (by kernel_rfl) ?_ _
        refine NoPanic.normal ?_
        clear hHeld HBd
        have HD7 := Lib.hid (HD.out.stand (.cells (SC k1 cc1 j a1) 173)).1
        have HSN := Lib.hid (heap_alloc_new W6 (.cells (SC k1 cc1 j a1) 173))
        have HGL := Lib.hid HD.out.sr.lt
        clear HD
        generalize World.alloc _ _ = W7 at HD7 HSN ⊢
        obtain ⟨x0, x1, x2, x3, x4, x5, x6, x7, x8, x9⟩ := node_cells HD7.out.lf.nb; (try dsimp only at x0 x1 x2 x3 x4 x5 x6 x7 x8 x9)
        obtain ⟨⟨s0, s1, s2⟩, s3, s4, s5⟩ := HD7.out.cells
        rw [HLL.out] at s0 s1 s2 s3
        clear s3 s5
        have s6 := s4 (L * 13 + 2)
        clear s4
        obtain ⟨y0, y1, y2, y3, y4, y5, y6, y7, y8, y9, y10, y11, y12⟩ := cells13 HSN.out
        go_wp2
        have HN8 := Lib.hid (HD7.out.next k2)
        rw [HLL.out] at HN8
        clear x0 x1 x2 x3 x4 x5 x6 x7 x8 x9 s0 s1 s2 s6 y0 y1 y2 y3 y4 y5 y6 y7 y8 y9 y10 y11 y12
        have HRN := Lib.hid (show resS (fitP X.T x) mn (-1 : Int) j (r ++ [⟨p, cc, k2, a⟩]) = R from by have := HJ.out.2.2.2; rw [resS_push, HST.out, hf] at this; rw [resS_push]; exact this)
        go_roundg (k2 + 1)
        case measure => have := HK2.out; omega
        case rel => exact ⟨k2, rfl, rfl, Lib.hid ⟨HJ.out.1, Nat.le_trans HMD.out HJ.out.2.1, HK2.out.2.1, HRN.out⟩, HN8⟩
       case sta3 =>
        go_simp
        obtain ⟨f1, f2, f3⟩ := HD.out.zero
        have HD2 := Lib.hid f1
        have HZ0 := Lib.hid (And.intro f2 f3)
        clear f1 f2 f3
        have hags := HD2.out.ags
        rw [HLL.out] at hags
        refine hK.out _ _ ?_ (fun hHeld => Tk.wrk ?_)
        · (try dsimp only); exact hags
        clear hags
        clear hK K
        generalize World.alloc _ _ = W8 at HD2 HZ0 hHeld ⊢
        refine Tk.one 15 (h := fun K hK => ?_)
        go_simp
        (go_at_call 47; have hq := HFt.out _ p k1 a _ HK2.out.2.2.2.2.2.1 HK2.out.2.2.2.2.1 HSO.out.2.2.2.2.1 HD2.out.lf.tf.mm; refine hq.mono ?_; clear hq; rintro e w2 ⟨a1, b1, rfl, hl, hm, hk⟩; rw [hf] at hl; obtain ⟨hca, hb1⟩ := hl; subst hb1; have HCA := Lib.hid hca; have HD3 := Lib.hid (HD2.out.call hm hk); have HZ := Lib.hid (And.intro (HD2.out.kept HZ0.out.1 hk) HZ0.out.2); clear HZ0; clear hca hm hk)
        have hags := HD3.out.ags
        rw [HLL.out] at hags
        refine hK.out _ _ ?_ (fun hHeld => Tk.wrk ?_)
        · (try dsimp only); exact hags
        clear hags
        clear hK K
        refine Tk.take 16 (h := ?_)
        refine Tk.take 17 (h := ?_)
        refine Tk.take 18 (h := ?_)
        refine Tk.one 20 (h := fun K hK => ?_)
        refine step_store_row rfl 27 (.tmp 17) (.tmp 127) rfl W4.heap.size (CC a1) rfl rfl _ CZ HZ.out.1 (by kernel_rfl) rfl (cc_one a1) ?_
        obtain ⟨f1, f2⟩ := HD3.out.fill HZ.out.1 HZ.out.2 a1
        have HD4 := Lib.hid f1
        have HB := Lib.hid f2
        clear f1 f2 HZ HD3
        generalize World.setRow _ _ _ = W5 at HD4 HB ⊢
        have hags := HD4.out.ags
        rw [HLL.out] at hags
        refine hK.out _ _ ?_ (fun hHeld => Tk.wrk ?_)
        · (try dsimp only); exact hags
        clear hags
        clear hK K
        refine Tk.take 21 (h := ?_)
        refine wpAnyH_done (by kernel_rfl) ?_ _
        refine NoPanic.normal ?_
        clear hHeld
        go_wp2
        have HD := Lib.hid (HD4.out.below (Below.refl _ _).drew)
        have HBd := Lib.hid (show CB (World.drew _) W4.heap.size a1 from HB.out)
        have hags := HD.out.ags
        rw [HLL.out] at hags
        refine wp_region_noPanic ?_
        refine wp_region_held_drew (S := fun w' => AGS X w c ⟨6, z, (a0 : Nat), (b : Nat), mn, (-1 : Int), (m : Nat)⟩ g L p cc k1 a w' ∧ CB w' (W4.heap.size) a1) (by kernel_rfl) ?_ (fun hHeld => ?_)
        · (try dsimp only); exact ⟨hags, HBd.out⟩
        clear hags HD4 HB
        generalize World.drew _ = W6 at HD HBd hHeld ⊢
        refine Tk.take 0 (h := ?_)
        refine Tk.take 1 (h := ?_)
        refine Tk.take 2 (h := ?_)
        refine Tk.fk (fun _ h => And.intro h.1.1.node (And.intro h.1.1.bm h.1.2.1)) 3 (h := ?_)
        refine Tk.take 4 (h := ?_)
        refine Tk.take 5 (h := ?_)
        refine Tk.take 6 (h := ?_)
        refine Tk.fk (fun _ h => And.intro h.1.1.node (And.intro h.1.1.bm h.1.2.1)) 7 (h := ?_)
        refine Tk.take 8 (h := ?_)
        refine Tk.take 9 (h := ?_)
        refine Tk.take 10 (hy := fun wv hSw => exec_load_row 27 (.tmp 17) rfl (W4.heap.size) rfl _ (CC a1) _ _ hSw.2 Tryz.underlying27 rfl (by kernel_rfl)) (h := ?_)
        refine Tk.take 11 (h := ?_)
        refine Tk.one 12 (h := fun K hK => ?_)
        go_simp
        obtain ⟨f1, f2⟩ := HD.out.stand (.cells SZ 173)
        have hags := f1.ags
        rw [HLL.out] at hags
        refine hK.out _ _ ?_ (fun hHeld => Tk.wrk ?_)
        · (try dsimp only); exact ⟨hags, f2 HBd.out⟩
        clear hags f1 f2
        clear hK K
        refine Tk.one 13 (h := fun K hK => ?_)
        refine step_store_row rfl 173 (.tmp 19) (.tmp 140) rfl W6.heap.size (SC k1 cc1 j a1) rfl rfl _ SZ (heap_alloc_new _ _) (by kernel_rfl) rfl (sc_one _ _ _ _) ?_
        rw [stand_laid]
        obtain ⟨f1, f2⟩ := HD.out.stand (.cells (SC k1 cc1 j a1) 173)
        have hags := f1.ags
        rw [HLL.out] at hags
        refine hK.out _ _ ?_ (fun hHeld => Tk.wrk ?_)
        · (try dsimp only); exact ⟨hags, f2 HBd.out⟩
        clear hags f1 f2
        clear hK K
        refine wpAnyH_done (by kernel_rfl) ?_ _
        refine NoPanic.normal ?_
        clear hHeld HBd
        have HD7 := Lib.hid (HD.out.stand (.cells (SC k1 cc1 j a1) 173)).1
        have HSN := Lib.hid (heap_alloc_new W6 (.cells (SC k1 cc1 j a1) 173))
        have HGL := Lib.hid HD.out.sr.lt
        clear HD
        generalize World.alloc _ _ = W7 at HD7 HSN ⊢
        obtain ⟨x0, x1, x2, x3, x4, x5, x6, x7, x8, x9⟩ := node_cells HD7.out.lf.nb; (try dsimp only at x0 x1 x2 x3 x4 x5 x6 x7 x8 x9)
        obtain ⟨⟨s0, s1, s2⟩, s3, s4, s5⟩ := HD7.out.cells
        rw [HLL.out] at s0 s1 s2 s3
        clear s3 s5
        have s6 := s4 (L * 13 + 2)
        clear s4
        obtain ⟨y0, y1, y2, y3, y4, y5, y6, y7, y8, y9, y10, y11, y12⟩ := cells13 HSN.out
        go_wp2
        have HN8 := Lib.hid (HD7.out.next k2)
        rw [HLL.out] at HN8
        clear x0 x1 x2 x3 x4 x5 x6 x7 x8 x9 s0 s1 s2 s6 y0 y1 y2 y3 y4 y5 y6 y7 y8 y9 y10 y11 y12
        have HRN := Lib.hid (show resS (fitP X.T x) mn (-1 : Int) j (r ++ [⟨p, cc, k2, a⟩]) = R from by have := HJ.out.2.2.2; rw [resS_push, HST.out, hf] at this; rw [resS_push]; exact this)
        go_roundg (k2 + 1)
        case measure => have := HK2.out; omega
        case rel => exact ⟨k2, rfl, rfl, Lib.hid ⟨HJ.out.1, Nat.le_trans HMD.out HJ.out.2.1, HK2.out.2.1, HRN.out⟩, HN8⟩
      | some y0 =>
       cases hrc : rch X x mn (-1 : Int) k1 cc1 j
       ·
        go_wp2
        have HD := Lib.hid (HU1.out.below (Below.refl _ _).drew)
        have hags := HD.out.ags
        rw [HLL.out] at hags
        refine wp_region_noPanic ?_
        refine wp_region_held_drew (S := fun w' => AGS X w c ⟨6, z, (a0 : Nat), (b : Nat), mn, (-1 : Int), (m : Nat)⟩ g L p cc k1 a w') (by kernel_rfl) ?_ (fun hHeld => ?_)
        · (try dsimp only); exact hags
        clear hags
        generalize World.drew _ = W4 at HD hHeld ⊢
        clear HU1
        refine Tk.take 0 (h := ?_)
        refine Tk.take 1 (h := ?_)
        refine Tk.fk (fun _ h => And.intro h.1.node (And.intro h.1.bm h.2.1)) 2 (h := ?_)
        refine Tk.take 3 (h := ?_)
        refine Tk.take 4 (h := ?_)
        refine Tk.take 5 (h := ?_)
        refine Tk.fk (fun _ h => And.intro h.1.node (And.intro h.1.bm h.2.1)) 6 (h := ?_)
        refine Tk.take 7 (h := ?_)
        refine Tk.take 8 (h := ?_)
        refine Tk.take 9 (h := ?_)
        refine Tk.fk (fun _ h => And.intro h.1.node (And.intro h.1.bm h.2.1)) 10 (h := ?_)
        refine Tk.take 11 (h := ?_)
        refine Tk.take 12 (h := ?_)
        refine Tk.take 13 (h := ?_)
        refine Tk.take 14 (hy := fun wv hSw => exec_load_mid 27 (.tmp 124) rfl g (L * 13 + 3) rfl (CC a).toList _ hSw.2.2 Tryz.underlying27 rfl (by kernel_rfl)) (h := ?_)
        refine wpAnyH_ready (rs := [15, 19]) (by kernel_rfl) (by simp) ?_
        refine AllReadyH.cons (o := ?oc6) ?hic6 (fun K hK => ?stc6) (AllReadyH.cons (o := ?oa6) ?hia6 (fun K hK => ?sta6) AllReadyH.nil)
        case hic6 => simp only [List.getElem?_toArray, List.getElem?_cons_succ, List.getElem?_cons_zero]; rfl
        case hia6 => simp only [List.getElem?_toArray, List.getElem?_cons_succ, List.getElem?_cons_zero]; rfl
        case stc6 =>
         go_simp
         (go_at_call 47; have hq := HFt.out _ p k1 a _ HK2.out.2.2.2.2.2.1 HK2.out.2.2.2.2.1 HSO.out.2.2.2.2.1 HD.out.lf.tf.mm; refine hq.mono ?_; clear hq; rintro e w2 ⟨a1, b1, rfl, hl, hm, hk⟩; rw [hf] at hl; obtain ⟨hca, hb1, ha1⟩ := hl; subst hb1; subst ha1; have HCA := Lib.hid hca; have HD2 := Lib.hid (HD.out.call hm hk); clear hca hm hk)
         have hags := HD2.out.ags
         rw [HLL.out] at hags
         refine hK.out _ _ ?_ (fun hHeld => Tk.wrk ?_)
         · (try dsimp only); exact hags
         clear hags
         clear hK K
         refine Tk.take 16 (h := ?_)
         refine Tk.take 17 (h := ?_)
         refine Tk.take 18 (h := ?_)
         refine Tk.one 19 (h := fun K hK => ?_)
         go_simp
         obtain ⟨f1, f2, f3⟩ := HD2.out.zero
         have HD3 := Lib.hid f1
         have HZ := Lib.hid (And.intro f2 f3)
         clear f1 f2 f3 HD2
         have hags := HD3.out.ags
         rw [HLL.out] at hags
         refine hK.out _ _ ?_ (fun hHeld => Tk.wrk ?_)
         · (try dsimp only); exact hags
         clear hags
         clear hK K
         refine Tk.one 20 (h := fun K hK => ?_)
         refine step_store_row rfl 27 (.tmp 17) (.tmp 127) rfl w2.heap.size (CC a1) rfl rfl _ CZ HZ.out.1 (by kernel_rfl) rfl (cc_one a1) ?_
         obtain ⟨f1, f2⟩ := HD3.out.fill HZ.out.1 HZ.out.2 a1
         have HD4 := Lib.hid f1
         have HB := Lib.hid f2
         clear f1 f2 HZ HD3
         generalize World.setRow _ _ _ = W5 at HD4 HB ⊢
         have hags := HD4.out.ags
         rw [HLL.out] at hags
         refine hK.out _ _ ?_ (fun hHeld => Tk.wrk ?_)
         · (try dsimp only); exact hags
         clear hags
         clear hK K
         refine Tk.take 21 (h := ?_)
         refine wpAnyH_done (by kernel_rfl) ?_ _
         refine NoPanic.normal ?_
         clear hHeld
         go_wp2
         have HD := Lib.hid (HD4.out.below (Below.refl _ _).drew)
         have HBd := Lib.hid (show CB (World.drew _) w2.heap.size a1 from HB.out)
         have hags := HD.out.ags
         rw [HLL.out] at hags
         refine wp_region_noPanic ?_
         refine wp_region_held_drew (S := fun w' => AGS X w c ⟨6, z, (a0 : Nat), (b : Nat), mn, (-1 : Int), (m : Nat)⟩ g L p cc k1 a w' ∧ CB w' (w2.heap.size) a1) (by kernel_rfl) ?_ (fun hHeld => ?_)
         · (try dsimp only); exact ⟨hags, HBd.out⟩
         clear hags HD4 HB
         generalize World.drew _ = W6 at HD HBd hHeld ⊢
         refine Tk.take 0 (h := ?_)
         refine Tk.take 1 (h := ?_)
         refine Tk.take 2 (h := ?_)
         refine Tk.fk (fun _ h => And.intro h.1.1.node (And.intro h.1.1.bm h.1.2.1)) 3 (h := ?_)
         refine Tk.take 4 (h := ?_)
         refine Tk.take 5 (h := ?_)
         refine Tk.take 6 (h := ?_)
         refine Tk.fk (fun _ h => And.intro h.1.1.node (And.intro h.1.1.bm h.1.2.1)) 7 (h := ?_)
         refine Tk.take 8 (h := ?_)
         refine Tk.take 9 (h := ?_)
         refine Tk.take 10 (hy := fun wv hSw => exec_load_row 27 (.tmp 17) rfl (w2.heap.size) rfl _ (CC a1) _ _ hSw.2 Tryz.underlying27 rfl (by kernel_rfl)) (h := ?_)
         refine Tk.take 11 (h := ?_)
         refine Tk.one 12 (h := fun K hK => ?_)
         go_simp
         obtain ⟨f1, f2⟩ := HD.out.stand (.cells SZ 173)
         have hags := f1.ags
         rw [HLL.out] at hags
         refine hK.out _ _ ?_ (fun hHeld => Tk.wrk ?_)
         · (try dsimp only); exact ⟨hags, f2 HBd.out⟩
         clear hags f1 f2
         clear hK K
         refine Tk.one 13 (h := fun K hK => ?_)
         refine step_store_row rfl 173 (.tmp 19) (.tmp 140) rfl W6.heap.size (SC k1 cc1 j a1) rfl rfl _ SZ (heap_alloc_new _ _) (by kernel_rfl) rfl (sc_one _ _ _ _) ?_
         rw [stand_laid]
         obtain ⟨f1, f2⟩ := HD.out.stand (.cells (SC k1 cc1 j a1) 173)
         have hags := f1.ags
         rw [HLL.out] at hags
         refine hK.out _ _ ?_ (fun hHeld => Tk.wrk ?_)
         · (try dsimp only); exact ⟨hags, f2 HBd.out⟩
         clear hags f1 f2
         clear hK K
         refine wpAnyH_done (by kernel_rfl) ?_ _
         refine NoPanic.normal ?_
         clear hHeld HBd
         have HD7 := Lib.hid (HD.out.stand (.cells (SC k1 cc1 j a1) 173)).1
         have HSN := Lib.hid (heap_alloc_new W6 (.cells (SC k1 cc1 j a1) 173))
         have HGL := Lib.hid HD.out.sr.lt
         clear HD
         generalize World.alloc _ _ = W7 at HD7 HSN ⊢
         obtain ⟨x0, x1, x2, x3, x4, x5, x6, x7, x8, x9⟩ := node_cells HD7.out.lf.nb; (try dsimp only at x0 x1 x2 x3 x4 x5 x6 x7 x8 x9)
         obtain ⟨⟨s0, s1, s2⟩, s3, s4, s5⟩ := HD7.out.cells
         rw [HLL.out] at s0 s1 s2 s3
         clear s3 s5
         have s6 := s4 (L * 13 + 2)
         clear s4
         obtain ⟨y0, y1, y2, y3, y4, y5, y6, y7, y8, y9, y10, y11, y12⟩ := cells13 HSN.out
         go_wp2_with (go_at_call 117; have hq := HRE2.out _ k1 cc1 a1 W7 HK2.out.2.2.2.2.1 (by have := HK2.out; have := HSO.out; have := HLEN.out; omega) HD7.out.lf.tf.mm; rw [hrc] at hq; refine hq.mono ?_; clear hq; rintro e w8 ⟨rfl, hm, hk⟩; have HSN8 := Lib.hid (HD7.out.kept HSN.out hk); have HD8 := Lib.hid (HD7.out.call hm hk); clear hm hk HD7 HSN x0 x1 x2 x3 x4 x5 x6 x7 x8 x9 s0 s1 s2 s6 y0 y1 y2 y3 y4 y5 y6 y7 y8 y9 y10 y11 y12; obtain ⟨x0, x1, x2, x3, x4, x5, x6, x7, x8, x9⟩ := node_cells HD8.out.lf.nb; (try dsimp only at x0 x1 x2 x3 x4 x5 x6 x7 x8 x9); obtain ⟨⟨s0, s1, s2⟩, s3, s4, s5⟩ := HD8.out.cells; rw [HLL.out] at s0 s1 s2 s3; clear s3 s5; have s6 := s4 (L * 13 + 2); clear s4; obtain ⟨y0, y1, y2, y3, y4, y5, y6, y7, y8, y9, y10, y11, y12⟩ := cells13 HSN8.out)
         have HN8 := Lib.hid (HD8.out.next k2)
         rw [HLL.out] at HN8
         clear x0 x1 x2 x3 x4 x5 x6 x7 x8 x9 s0 s1 s2 s6 y0 y1 y2 y3 y4 y5 y6 y7 y8 y9 y10 y11 y12
         have HRN := Lib.hid (show resS (fitP X.T x) mn (-1 : Int) j (r ++ [⟨p, cc, k2, a⟩]) = R from by have := HJ.out.2.2.2; rw [resS_push, HST.out, hf] at this; dsimp only at this; rw [HNR.out k1 cc1 a1 HK2.out.2.2.2.2.2.2 (by first | exact Or.inl rfl | exact Or.inl trivial | (have := HSO.out.2.2.2.1; have := HNM.out; have := HK2.out; omega)) hrc, Option.none_or] at this; rw [resS_push]; exact this)
         go_roundg (k2 + 1)
         case measure => have := HK2.out; omega
         case rel => exact ⟨k2, rfl, rfl, Lib.hid ⟨HJ.out.1, Nat.le_trans HMD.out HJ.out.2.1, HK2.out.2.1, HRN.out⟩, HN8⟩
        case sta6 =>
         go_simp
         obtain ⟨f1, f2, f3⟩ := HD.out.zero
         have HD2 := Lib.hid f1
         have HZ0 := Lib.hid (And.intro f2 f3)
         clear f1 f2 f3
         have hags := HD2.out.ags
         rw [HLL.out] at hags
         refine hK.out _ _ ?_ (fun hHeld => Tk.wrk ?_)
         · (try dsimp only); exact hags
         clear hags
         clear hK K
         generalize World.alloc _ _ = W8 at HD2 HZ0 hHeld ⊢
         refine Tk.one 15 (h := fun K hK => ?_)
         go_simp
         (go_at_call 47; have hq := HFt.out _ p k1 a _ HK2.out.2.2.2.2.2.1 HK2.out.2.2.2.2.1 HSO.out.2.2.2.2.1 HD2.out.lf.tf.mm; refine hq.mono ?_; clear hq; rintro e w2 ⟨a1, b1, rfl, hl, hm, hk⟩; rw [hf] at hl; obtain ⟨hca, hb1, ha1⟩ := hl; subst hb1; subst ha1; have HCA := Lib.hid hca; have HD3 := Lib.hid (HD2.out.call hm hk); have HZ := Lib.hid (And.intro (HD2.out.kept HZ0.out.1 hk) HZ0.out.2); clear HZ0; clear hca hm hk)
         have hags := HD3.out.ags
         rw [HLL.out] at hags
         refine hK.out _ _ ?_ (fun hHeld => Tk.wrk ?_)
         · (try dsimp only); exact hags
         clear hags
         clear hK K
         refine Tk.take 16 (h := ?_)
         refine Tk.take 17 (h := ?_)
         refine Tk.take 18 (h := ?_)
         refine Tk.one 20 (h := fun K hK => ?_)
         refine step_store_row rfl 27 (.tmp 17) (.tmp 127) rfl W4.heap.size (CC a1) rfl rfl _ CZ HZ.out.1 (by kernel_rfl) rfl (cc_one a1) ?_
         obtain ⟨f1, f2⟩ := HD3.out.fill HZ.out.1 HZ.out.2 a1
         have HD4 := Lib.hid f1
         have HB := Lib.hid f2
         clear f1 f2 HZ HD3
         generalize World.setRow _ _ _ = W5 at HD4 HB ⊢
         have hags := HD4.out.ags
         rw [HLL.out] at hags
         refine hK.out _ _ ?_ (fun hHeld => Tk.wrk ?_)
         · (try dsimp only); exact hags
         clear hags
         clear hK K
         refine Tk.take 21 (h := ?_)
         refine wpAnyH_done (by kernel_rfl) ?_ _
         refine NoPanic.normal ?_
         clear hHeld
         go_wp2
         have HD := Lib.hid (HD4.out.below (Below.refl _ _).drew)
         have HBd := Lib.hid (show CB (World.drew _) W4.heap.size a1 from HB.out)
         have hags := HD.out.ags
         rw [HLL.out] at hags
         refine wp_region_noPanic ?_
         refine wp_region_held_drew (S := fun w' => AGS X w c ⟨6, z, (a0 : Nat), (b : Nat), mn, (-1 : Int), (m : Nat)⟩ g L p cc k1 a w' ∧ CB w' (W4.heap.size) a1) (by kernel_rfl) ?_ (fun hHeld => ?_)
         · (try dsimp only); exact ⟨hags, HBd.out⟩
         clear hags HD4 HB
         generalize World.drew _ = W6 at HD HBd hHeld ⊢
         refine Tk.take 0 (h := ?_)
         refine Tk.take 1 (h := ?_)
         refine Tk.take 2 (h := ?_)
         refine Tk.fk (fun _ h => And.intro h.1.1.node (And.intro h.1.1.bm h.1.2.1)) 3 (h := ?_)
         refine Tk.take 4 (h := ?_)
         refine Tk.take 5 (h := ?_)
         refine Tk.take 6 (h := ?_)
         refine Tk.fk (fun _ h => And.intro h.1.1.node (And.intro h.1.1.bm h.1.2.1)) 7 (h := ?_)
         refine Tk.take 8 (h := ?_)
         refine Tk.take 9 (h := ?_)
         refine Tk.take 10 (hy := fun wv hSw => exec_load_row 27 (.tmp 17) rfl (W4.heap.size) rfl _ (CC a1) _ _ hSw.2 Tryz.underlying27 rfl (by kernel_rfl)) (h := ?_)
         refine Tk.take 11 (h := ?_)
         refine Tk.one 12 (h := fun K hK => ?_)
         go_simp
         obtain ⟨f1, f2⟩ := HD.out.stand (.cells SZ 173)
         have hags := f1.ags
         rw [HLL.out] at hags
         refine hK.out _ _ ?_ (fun hHeld => Tk.wrk ?_)
         · (try dsimp only); exact ⟨hags, f2 HBd.out⟩
         clear hags f1 f2
         clear hK K
         refine Tk.one 13 (h := fun K hK => ?_)
         refine step_store_row rfl 173 (.tmp 19) (.tmp 140) rfl W6.heap.size (SC k1 cc1 j a1) rfl rfl _ SZ (heap_alloc_new _ _) (by kernel_rfl) rfl (sc_one _ _ _ _) ?_
         rw [stand_laid]
         obtain ⟨f1, f2⟩ := HD.out.stand (.cells (SC k1 cc1 j a1) 173)
         have hags := f1.ags
         rw [HLL.out] at hags
         refine hK.out _ _ ?_ (fun hHeld => Tk.wrk ?_)
         · (try dsimp only); exact ⟨hags, f2 HBd.out⟩
         clear hags f1 f2
         clear hK K
         refine wpAnyH_done (by kernel_rfl) ?_ _
         refine NoPanic.normal ?_
         clear hHeld HBd
         have HD7 := Lib.hid (HD.out.stand (.cells (SC k1 cc1 j a1) 173)).1
         have HSN := Lib.hid (heap_alloc_new W6 (.cells (SC k1 cc1 j a1) 173))
         have HGL := Lib.hid HD.out.sr.lt
         clear HD
         generalize World.alloc _ _ = W7 at HD7 HSN ⊢
         obtain ⟨x0, x1, x2, x3, x4, x5, x6, x7, x8, x9⟩ := node_cells HD7.out.lf.nb; (try dsimp only at x0 x1 x2 x3 x4 x5 x6 x7 x8 x9)
         obtain ⟨⟨s0, s1, s2⟩, s3, s4, s5⟩ := HD7.out.cells
         rw [HLL.out] at s0 s1 s2 s3
         clear s3 s5
         have s6 := s4 (L * 13 + 2)
         clear s4
         obtain ⟨y0, y1, y2, y3, y4, y5, y6, y7, y8, y9, y10, y11, y12⟩ := cells13 HSN.out
         go_wp2_with (go_at_call 117; have hq := HRE2.out _ k1 cc1 a1 W7 HK2.out.2.2.2.2.1 (by have := HK2.out; have := HSO.out; have := HLEN.out; omega) HD7.out.lf.tf.mm; rw [hrc] at hq; refine hq.mono ?_; clear hq; rintro e w8 ⟨rfl, hm, hk⟩; have HSN8 := Lib.hid (HD7.out.kept HSN.out hk); have HD8 := Lib.hid (HD7.out.call hm hk); clear hm hk HD7 HSN x0 x1 x2 x3 x4 x5 x6 x7 x8 x9 s0 s1 s2 s6 y0 y1 y2 y3 y4 y5 y6 y7 y8 y9 y10 y11 y12; obtain ⟨x0, x1, x2, x3, x4, x5, x6, x7, x8, x9⟩ := node_cells HD8.out.lf.nb; (try dsimp only at x0 x1 x2 x3 x4 x5 x6 x7 x8 x9); obtain ⟨⟨s0, s1, s2⟩, s3, s4, s5⟩ := HD8.out.cells; rw [HLL.out] at s0 s1 s2 s3; clear s3 s5; have s6 := s4 (L * 13 + 2); clear s4; obtain ⟨y0, y1, y2, y3, y4, y5, y6, y7, y8, y9, y10, y11, y12⟩ := cells13 HSN8.out)
         have HN8 := Lib.hid (HD8.out.next k2)
         rw [HLL.out] at HN8
         clear x0 x1 x2 x3 x4 x5 x6 x7 x8 x9 s0 s1 s2 s6 y0 y1 y2 y3 y4 y5 y6 y7 y8 y9 y10 y11 y12
         have HRN := Lib.hid (show resS (fitP X.T x) mn (-1 : Int) j (r ++ [⟨p, cc, k2, a⟩]) = R from by have := HJ.out.2.2.2; rw [resS_push, HST.out, hf] at this; dsimp only at this; rw [HNR.out k1 cc1 a1 HK2.out.2.2.2.2.2.2 (by first | exact Or.inl rfl | exact Or.inl trivial | (have := HSO.out.2.2.2.1; have := HNM.out; have := HK2.out; omega)) hrc, Option.none_or] at this; rw [resS_push]; exact this)
         go_roundg (k2 + 1)
         case measure => have := HK2.out; omega
         case rel => exact ⟨k2, rfl, rfl, Lib.hid ⟨HJ.out.1, Nat.le_trans HMD.out HJ.out.2.1, HK2.out.2.1, HRN.out⟩, HN8⟩
       ·
        go_wp2
        have HD := Lib.hid (HU1.out.below (Below.refl _ _).drew)
        have hags := HD.out.ags
        rw [HLL.out] at hags
        refine wp_region_noPanic ?_
        refine wp_region_held_drew (S := fun w' => AGS X w c ⟨6, z, (a0 : Nat), (b : Nat), mn, (-1 : Int), (m : Nat)⟩ g L p cc k1 a w') (by kernel_rfl) ?_ (fun hHeld => ?_)
        · (try dsimp only); exact hags
        clear hags
        generalize World.drew _ = W4 at HD hHeld ⊢
        clear HU1
        refine Tk.take 0 (h := ?_)
        refine Tk.take 1 (h := ?_)
        refine Tk.fk (fun _ h => And.intro h.1.node (And.intro h.1.bm h.2.1)) 2 (h := ?_)
        refine Tk.take 3 (h := ?_)
        refine Tk.take 4 (h := ?_)
        refine Tk.take 5 (h := ?_)
        refine Tk.fk (fun _ h => And.intro h.1.node (And.intro h.1.bm h.2.1)) 6 (h := ?_)
        refine Tk.take 7 (h := ?_)
        refine Tk.take 8 (h := ?_)
        refine Tk.take 9 (h := ?_)
        refine Tk.fk (fun _ h => And.intro h.1.node (And.intro h.1.bm h.2.1)) 10 (h := ?_)
        refine Tk.take 11 (h := ?_)
        refine Tk.take 12 (h := ?_)
        refine Tk.take 13 (h := ?_)
        refine Tk.take 14 (hy := fun wv hSw => exec_load_mid 27 (.tmp 124) rfl g (L * 13 + 3) rfl (CC a).toList _ hSw.2.2 Tryz.underlying27 rfl (by kernel_rfl)) (h := ?_)
        refine wpAnyH_ready (rs := [15, 19]) (by kernel_rfl) (by simp) ?_
        refine AllReadyH.cons (o := ?oc9) ?hic9 (fun K hK => ?stc9) (AllReadyH.cons (o := ?oa9) ?hia9 (fun K hK => ?sta9) AllReadyH.nil)
        case hic9 => simp only [List.getElem?_toArray, List.getElem?_cons_succ, List.getElem?_cons_zero]; rfl
        case hia9 => simp only [List.getElem?_toArray, List.getElem?_cons_succ, List.getElem?_cons_zero]; rfl
        case stc9 =>
         go_simp
         (go_at_call 47; have hq := HFt.out _ p k1 a _ HK2.out.2.2.2.2.2.1 HK2.out.2.2.2.2.1 HSO.out.2.2.2.2.1 HD.out.lf.tf.mm; refine hq.mono ?_; clear hq; rintro e w2 ⟨a1, b1, rfl, hl, hm, hk⟩; rw [hf] at hl; obtain ⟨hca, hb1, ha1⟩ := hl; subst hb1; subst ha1; have HCA := Lib.hid hca; have HD2 := Lib.hid (HD.out.call hm hk); clear hca hm hk)
         have hags := HD2.out.ags
         rw [HLL.out] at hags
         refine hK.out _ _ ?_ (fun hHeld => Tk.wrk ?_)
         · (try dsimp only); exact hags
         clear hags
         clear hK K
         refine Tk.take 16 (h := ?_)
         refine Tk.take 17 (h := ?_)
         refine Tk.take 18 (h := ?_)
         refine Tk.one 19 (h := fun K hK => ?_)
         go_simp
         obtain ⟨f1, f2, f3⟩ := HD2.out.zero
         have HD3 := Lib.hid f1
         have HZ := Lib.hid (And.intro f2 f3)
         clear f1 f2 f3 HD2
         have hags := HD3.out.ags
         rw [HLL.out] at hags
         refine hK.out _ _ ?_ (fun hHeld => Tk.wrk ?_)
         · (try dsimp only); exact hags
         clear hags
         clear hK K
         refine Tk.one 20 (h := fun K hK => ?_)
         refine step_store_row rfl 27 (.tmp 17) (.tmp 127) rfl w2.heap.size (CC a1) rfl rfl _ CZ HZ.out.1 (by kernel_rfl) rfl (cc_one a1) ?_
         obtain ⟨f1, f2⟩ := HD3.out.fill HZ.out.1 HZ.out.2 a1
         have HD4 := Lib.hid f1
         have HB := Lib.hid f2
         clear f1 f2 HZ HD3
         generalize World.setRow _ _ _ = W5 at HD4 HB ⊢
         have hags := HD4.out.ags
         rw [HLL.out] at hags
         refine hK.out _ _ ?_ (fun hHeld => Tk.wrk ?_)
         · (try dsimp only); exact hags
         clear hags
         clear hK K
         refine Tk.take 21 (h := ?_)
         refine wpAnyH_done (by kernel_rfl) ?_ _
         refine NoPanic.normal ?_
         clear hHeld
         go_wp2
         have HD := Lib.hid (HD4.out.below (Below.refl _ _).drew)
         have HBd := Lib.hid (show CB (World.drew _) w2.heap.size a1 from HB.out)
         have hags := HD.out.ags
         rw [HLL.out] at hags
         refine wp_region_noPanic ?_
         refine wp_region_held_drew (S := fun w' => AGS X w c ⟨6, z, (a0 : Nat), (b : Nat), mn, (-1 : Int), (m : Nat)⟩ g L p cc k1 a w' ∧ CB w' (w2.heap.size) a1) (by kernel_rfl) ?_ (fun hHeld => ?_)
         · (try dsimp only); exact ⟨hags, HBd.out⟩
         clear hags HD4 HB
         generalize World.drew _ = W6 at HD HBd hHeld ⊢
         refine Tk.take 0 (h := ?_)
         refine Tk.take 1 (h := ?_)
         refine Tk.take 2 (h := ?_)
         refine Tk.fk (fun _ h => And.intro h.1.1.node (And.intro h.1.1.bm h.1.2.1)) 3 (h := ?_)
         refine Tk.take 4 (h := ?_)
         refine Tk.take 5 (h := ?_)
         refine Tk.take 6 (h := ?_)
         refine Tk.fk (fun _ h => And.intro h.1.1.node (And.intro h.1.1.bm h.1.2.1)) 7 (h := ?_)
         refine Tk.take 8 (h := ?_)
         refine Tk.take 9 (h := ?_)
         refine Tk.take 10 (hy := fun wv hSw => exec_load_row 27 (.tmp 17) rfl (w2.heap.size) rfl _ (CC a1) _ _ hSw.2 Tryz.underlying27 rfl (by kernel_rfl)) (h := ?_)
         refine Tk.take 11 (h := ?_)
         refine Tk.one 12 (h := fun K hK => ?_)
         go_simp
         obtain ⟨f1, f2⟩ := HD.out.stand (.cells SZ 173)
         have hags := f1.ags
         rw [HLL.out] at hags
         refine hK.out _ _ ?_ (fun hHeld => Tk.wrk ?_)
         · (try dsimp only); exact ⟨hags, f2 HBd.out⟩
         clear hags f1 f2
         clear hK K
         refine Tk.one 13 (h := fun K hK => ?_)
         refine step_store_row rfl 173 (.tmp 19) (.tmp 140) rfl W6.heap.size (SC k1 cc1 j a1) rfl rfl _ SZ (heap_alloc_new _ _) (by kernel_rfl) rfl (sc_one _ _ _ _) ?_
         rw [stand_laid]
         obtain ⟨f1, f2⟩ := HD.out.stand (.cells (SC k1 cc1 j a1) 173)
         have hags := f1.ags
         rw [HLL.out] at hags
         refine hK.out _ _ ?_ (fun hHeld => Tk.wrk ?_)
         · (try dsimp only); exact ⟨hags, f2 HBd.out⟩
         clear hags f1 f2
         clear hK K
         refine wpAnyH_done (by kernel_rfl) ?_ _
         refine NoPanic.normal ?_
         clear hHeld HBd
         have HD7 := Lib.hid (HD.out.stand (.cells (SC k1 cc1 j a1) 173)).1
         have HSN := Lib.hid (heap_alloc_new W6 (.cells (SC k1 cc1 j a1) 173))
         have HGL := Lib.hid HD.out.sr.lt
         clear HD
         generalize World.alloc _ _ = W7 at HD7 HSN ⊢
         obtain ⟨x0, x1, x2, x3, x4, x5, x6, x7, x8, x9⟩ := node_cells HD7.out.lf.nb; (try dsimp only at x0 x1 x2 x3 x4 x5 x6 x7 x8 x9)
         obtain ⟨⟨s0, s1, s2⟩, s3, s4, s5⟩ := HD7.out.cells
         rw [HLL.out] at s0 s1 s2 s3
         clear s3 s5
         have s6 := s4 (L * 13 + 2)
         clear s4
         obtain ⟨y0, y1, y2, y3, y4, y5, y6, y7, y8, y9, y10, y11, y12⟩ := cells13 HSN.out
         go_wp2_with (go_at_call 117; have hq := HRE2.out _ k1 cc1 a1 W7 HK2.out.2.2.2.2.1 (by have := HK2.out; have := HSO.out; have := HLEN.out; omega) HD7.out.lf.tf.mm; rw [hrc] at hq; refine hq.mono ?_; clear hq; rintro e w8 ⟨rfl, hm, hk⟩; have HSN8 := Lib.hid (HD7.out.kept HSN.out hk); have HD8 := Lib.hid (HD7.out.call hm hk); clear hm hk HD7 HSN x0 x1 x2 x3 x4 x5 x6 x7 x8 x9 s0 s1 s2 s6 y0 y1 y2 y3 y4 y5 y6 y7 y8 y9 y10 y11 y12; obtain ⟨x0, x1, x2, x3, x4, x5, x6, x7, x8, x9⟩ := node_cells HD8.out.lf.nb; (try dsimp only at x0 x1 x2 x3 x4 x5 x6 x7 x8 x9); obtain ⟨⟨s0, s1, s2⟩, s3, s4, s5⟩ := HD8.out.cells; rw [HLL.out] at s0 s1 s2 s3; clear s3 s5; have s6 := s4 (L * 13 + 2); clear s4; obtain ⟨y0, y1, y2, y3, y4, y5, y6, y7, y8, y9, y10, y11, y12⟩ := cells13 HSN8.out)
         have hnx := HD8.out.next k2
         have hns := (Below.heap_setCell w8 ⟨g, r.length * 13 + 2, none⟩ (E (k2 : Nat)) W6.heap.size (by have := HGL.out; show W6.heap.size ≠ g; omega)).trans HSN8.out
         rw [HLL.out] at hnx hns
         refine at_world (p := fun V => AG X pr w c ⟨6, z, (a0 : Nat), (b : Nat), mn, (-1 : Int), (m : Nat)⟩ g cap (r ++ [⟨p, cc, k2, a⟩]) V ∧ V.heap[W6.heap.size]? = some (.cells (SC k1 cc1 j a1) 173 (0, 0))) ⟨hnx, hns⟩ (fun V hV => ?_)
         have HNV := Lib.hid hV.1
         have HSN9 := Lib.hid hV.2
         clear hV hnx hns HD8 HSN8 x0 x1 x2 x3 x4 x5 x6 x7 x8 x9 s0 s1 s2 s6 y0 y1 y2 y3 y4 y5 y6 y7 y8 y9 y10 y11 y12
         obtain ⟨y0, y1, y2, y3, y4, y5, y6, y7, y8, y9, y10, y11, y12⟩ := cells13 HSN9.out
         have HLE := Lib.hid (show (r ++ [(⟨p, cc, k2, a⟩ : Std)]).length = n1 from by rw [List.length_append, List.length_singleton, HLL.out, HN1.out])
         have HOA := Lib.hid ((HNV.out.row HLE.out).alloc (.cells (SC k1 cc1 j a1) 173))
         have HSZ := Lib.hid (show n1 ≤ 200000 ∧ w.heap.size + 1 + 1 + 1 ≤ V.heap.size from ⟨by have := HN1.out; have := HSO.out; have := HLEN.out; omega, by have := lt_heap' HNV.out.lf.nb; omega⟩)
         obtain ⟨i0, hi, hz0, hz1, hz2⟩ := info_parts infoSt
         rw [show Fz 20 = Code.region 20 from rfl]
         go_wp2_with (at_builtin; go_loud (refine wpList_append_lies _ rfl _ _ 174 rfl (w.heap.size + 1 + 1 + 1) 173 i0 _ 13 184 Tryz.underlying174 hi hz0 hz1 hz2 rfl (by decide) _ _ _ rfl HOA.out ⟨_, 0, none⟩ 1 1 (SC k1 cc1 j a1).toList rfl rfl (news_st _ k1 cc1 j a1 _ (by simp)) (sc_one' _ _ _ _) (by decide) (by have := HSZ.out; unfold maxLen; omega) (by have := HSZ.out; omega) (by have := HSZ.out; simp at this ⊢; omega) _ rfl ?_))
         rintro gg gcap w4 hown hgrow hat hlt4
         have HP := Lib.hid (HNV.out.push HLE.out hown hgrow)
         clear hown hgrow hat hlt4 HOA HSZ hi hz0 hz1 hz2
         go_wp2
         have HRN := Lib.hid (show resS (fitP X.T x) mn (-1 : Int) j (r ++ [⟨p, cc, k2, a⟩] ++ [⟨k1, cc1, j, a1⟩]) = R from by have := HJ.out.2.2.2; rw [resS_push, HST.out, hf] at this; dsimp only at this; rw [resS_push, resS_push, ← Option.or_assoc]; exact this)
         have hko : (-1 : Int) = -1 ∨ (cc1 : Int) ≤ (-1 : Int) := by first | exact Or.inl rfl | exact Or.inl trivial | (have := HSO.out.2.2.2.1; have := HNM.out; have := HK2.out; omega)
         have HKN := Lib.hid (show StkOk X (-1 : Int) i j (r ++ [⟨p, cc, k2, a⟩] ++ [⟨k1, cc1, j, a1⟩]) from stk_push (stk_push HJ.out.1 ⟨HSO.out.1, HSO.out.2.1, HK2.out.2.1, (by first | exact Or.inl rfl | exact Or.inl trivial | exact HSO.out.2.2.2.1), HSO.out.2.2.2.2.1⟩ (by rw [HLL.out]; exact HSO.out.2.2.2.2.2.1)) ⟨by have := HSO.out.1; have := HK2.out; show i + cc1 ≤ k1; omega, HK2.out.2.2.2.2.2.2, Nat.le_refl _, hko, HCA.out⟩ (by rw [HLE.out, HN1.out]; have := HSO.out.2.2.2.2.2.1; have := HK2.out; show cc1 = L + 1; omega))
         go_roundg (muL j (r ++ [⟨p, cc, k2, a⟩] ++ [⟨k1, cc1, j, a1⟩]))
         case measure => exact Nat.lt_of_lt_of_le (HMM.out a1) HJ.out.2.1
         case rel => exact ⟨_, gg, gcap, rfl, by rw [List.length_append, List.length_singleton, HLE.out], Lib.hid ⟨HKN.out, HRN.out⟩, HP⟩
        case sta9 =>
         go_simp
         obtain ⟨f1, f2, f3⟩ := HD.out.zero
         have HD2 := Lib.hid f1
         have HZ0 := Lib.hid (And.intro f2 f3)
         clear f1 f2 f3
         have hags := HD2.out.ags
         rw [HLL.out] at hags
         refine hK.out _ _ ?_ (fun hHeld => Tk.wrk ?_)
         · (try dsimp only); exact hags
         clear hags
         clear hK K
         generalize World.alloc _ _ = W8 at HD2 HZ0 hHeld ⊢
         refine Tk.one 15 (h := fun K hK => ?_)
         go_simp
         (go_at_call 47; have hq := HFt.out _ p k1 a _ HK2.out.2.2.2.2.2.1 HK2.out.2.2.2.2.1 HSO.out.2.2.2.2.1 HD2.out.lf.tf.mm; refine hq.mono ?_; clear hq; rintro e w2 ⟨a1, b1, rfl, hl, hm, hk⟩; rw [hf] at hl; obtain ⟨hca, hb1, ha1⟩ := hl; subst hb1; subst ha1; have HCA := Lib.hid hca; have HD3 := Lib.hid (HD2.out.call hm hk); have HZ := Lib.hid (And.intro (HD2.out.kept HZ0.out.1 hk) HZ0.out.2); clear HZ0; clear hca hm hk)
         have hags := HD3.out.ags
         rw [HLL.out] at hags
         refine hK.out _ _ ?_ (fun hHeld => Tk.wrk ?_)
         · (try dsimp only); exact hags
         clear hags
         clear hK K
         refine Tk.take 16 (h := ?_)
         refine Tk.take 17 (h := ?_)
         refine Tk.take 18 (h := ?_)
         refine Tk.one 20 (h := fun K hK => ?_)
         refine step_store_row rfl 27 (.tmp 17) (.tmp 127) rfl W4.heap.size (CC a1) rfl rfl _ CZ HZ.out.1 (by kernel_rfl) rfl (cc_one a1) ?_
         obtain ⟨f1, f2⟩ := HD3.out.fill HZ.out.1 HZ.out.2 a1
         have HD4 := Lib.hid f1
         have HB := Lib.hid f2
         clear f1 f2 HZ HD3
         generalize World.setRow _ _ _ = W5 at HD4 HB ⊢
         have hags := HD4.out.ags
         rw [HLL.out] at hags
         refine hK.out _ _ ?_ (fun hHeld => Tk.wrk ?_)
         · (try dsimp only); exact hags
         clear hags
         clear hK K
         refine Tk.take 21 (h := ?_)
         refine wpAnyH_done (by kernel_rfl) ?_ _
         refine NoPanic.normal ?_
         clear hHeld
         go_wp2
         have HD := Lib.hid (HD4.out.below (Below.refl _ _).drew)
         have HBd := Lib.hid (show CB (World.drew _) W4.heap.size a1 from HB.out)
         have hags := HD.out.ags
         rw [HLL.out] at hags
         refine wp_region_noPanic ?_
         refine wp_region_held_drew (S := fun w' => AGS X w c ⟨6, z, (a0 : Nat), (b : Nat), mn, (-1 : Int), (m : Nat)⟩ g L p cc k1 a w' ∧ CB w' (W4.heap.size) a1) (by kernel_rfl) ?_ (fun hHeld => ?_)
         · (try dsimp only); exact ⟨hags, HBd.out⟩
         clear hags HD4 HB
         generalize World.drew _ = W6 at HD HBd hHeld ⊢
         refine Tk.take 0 (h := ?_)
         refine Tk.take 1 (h := ?_)
         refine Tk.take 2 (h := ?_)
         refine Tk.fk (fun _ h => And.intro h.1.1.node (And.intro h.1.1.bm h.1.2.1)) 3 (h := ?_)
         refine Tk.take 4 (h := ?_)
         refine Tk.take 5 (h := ?_)
         refine Tk.take 6 (h := ?_)
         refine Tk.fk (fun _ h => And.intro h.1.1.node (And.intro h.1.1.bm h.1.2.1)) 7 (h := ?_)
         refine Tk.take 8 (h := ?_)
         refine Tk.take 9 (h := ?_)
         refine Tk.take 10 (hy := fun wv hSw => exec_load_row 27 (.tmp 17) rfl (W4.heap.size) rfl _ (CC a1) _ _ hSw.2 Tryz.underlying27 rfl (by kernel_rfl)) (h := ?_)
         refine Tk.take 11 (h := ?_)
         refine Tk.one 12 (h := fun K hK => ?_)
         go_simp
         obtain ⟨f1, f2⟩ := HD.out.stand (.cells SZ 173)
         have hags := f1.ags
         rw [HLL.out] at hags
         refine hK.out _ _ ?_ (fun hHeld => Tk.wrk ?_)
         · (try dsimp only); exact ⟨hags, f2 HBd.out⟩
         clear hags f1 f2
         clear hK K
         refine Tk.one 13 (h := fun K hK => ?_)
         refine step_store_row rfl 173 (.tmp 19) (.tmp 140) rfl W6.heap.size (SC k1 cc1 j a1) rfl rfl _ SZ (heap_alloc_new _ _) (by kernel_rfl) rfl (sc_one _ _ _ _) ?_
         rw [stand_laid]
         obtain ⟨f1, f2⟩ := HD.out.stand (.cells (SC k1 cc1 j a1) 173)
         have hags := f1.ags
         rw [HLL.out] at hags
         refine hK.out _ _ ?_ (fun hHeld => Tk.wrk ?_)
         · (try dsimp only); exact ⟨hags, f2 HBd.out⟩
         clear hags f1 f2
         clear hK K
         refine wpAnyH_done (by kernel_rfl) ?_ _
         refine NoPanic.normal ?_
         clear hHeld HBd
         have HD7 := Lib.hid (HD.out.stand (.cells (SC k1 cc1 j a1) 173)).1
         have HSN := Lib.hid (heap_alloc_new W6 (.cells (SC k1 cc1 j a1) 173))
         have HGL := Lib.hid HD.out.sr.lt
         clear HD
         generalize World.alloc _ _ = W7 at HD7 HSN ⊢
         obtain ⟨x0, x1, x2, x3, x4, x5, x6, x7, x8, x9⟩ := node_cells HD7.out.lf.nb; (try dsimp only at x0 x1 x2 x3 x4 x5 x6 x7 x8 x9)
         obtain ⟨⟨s0, s1, s2⟩, s3, s4, s5⟩ := HD7.out.cells
         rw [HLL.out] at s0 s1 s2 s3
         clear s3 s5
         have s6 := s4 (L * 13 + 2)
         clear s4
         obtain ⟨y0, y1, y2, y3, y4, y5, y6, y7, y8, y9, y10, y11, y12⟩ := cells13 HSN.out
         go_wp2_with (go_at_call 117; have hq := HRE2.out _ k1 cc1 a1 W7 HK2.out.2.2.2.2.1 (by have := HK2.out; have := HSO.out; have := HLEN.out; omega) HD7.out.lf.tf.mm; rw [hrc] at hq; refine hq.mono ?_; clear hq; rintro e w8 ⟨rfl, hm, hk⟩; have HSN8 := Lib.hid (HD7.out.kept HSN.out hk); have HD8 := Lib.hid (HD7.out.call hm hk); clear hm hk HD7 HSN x0 x1 x2 x3 x4 x5 x6 x7 x8 x9 s0 s1 s2 s6 y0 y1 y2 y3 y4 y5 y6 y7 y8 y9 y10 y11 y12; obtain ⟨x0, x1, x2, x3, x4, x5, x6, x7, x8, x9⟩ := node_cells HD8.out.lf.nb; (try dsimp only at x0 x1 x2 x3 x4 x5 x6 x7 x8 x9); obtain ⟨⟨s0, s1, s2⟩, s3, s4, s5⟩ := HD8.out.cells; rw [HLL.out] at s0 s1 s2 s3; clear s3 s5; have s6 := s4 (L * 13 + 2); clear s4; obtain ⟨y0, y1, y2, y3, y4, y5, y6, y7, y8, y9, y10, y11, y12⟩ := cells13 HSN8.out)
         have hnx := HD8.out.next k2
         have hns := (Below.heap_setCell w8 ⟨g, r.length * 13 + 2, none⟩ (E (k2 : Nat)) W6.heap.size (by have := HGL.out; show W6.heap.size ≠ g; omega)).trans HSN8.out
         rw [HLL.out] at hnx hns
         refine at_world (p := fun V => AG X pr w c ⟨6, z, (a0 : Nat), (b : Nat), mn, (-1 : Int), (m : Nat)⟩ g cap (r ++ [⟨p, cc, k2, a⟩]) V ∧ V.heap[W6.heap.size]? = some (.cells (SC k1 cc1 j a1) 173 (0, 0))) ⟨hnx, hns⟩ (fun V hV => ?_)
         have HNV := Lib.hid hV.1
         have HSN9 := Lib.hid hV.2
         clear hV hnx hns HD8 HSN8 x0 x1 x2 x3 x4 x5 x6 x7 x8 x9 s0 s1 s2 s6 y0 y1 y2 y3 y4 y5 y6 y7 y8 y9 y10 y11 y12
         obtain ⟨y0, y1, y2, y3, y4, y5, y6, y7, y8, y9, y10, y11, y12⟩ := cells13 HSN9.out
         have HLE := Lib.hid (show (r ++ [(⟨p, cc, k2, a⟩ : Std)]).length = n1 from by rw [List.length_append, List.length_singleton, HLL.out, HN1.out])
         have HOA := Lib.hid ((HNV.out.row HLE.out).alloc (.cells (SC k1 cc1 j a1) 173))
         have HSZ := Lib.hid (show n1 ≤ 200000 ∧ w.heap.size + 1 + 1 + 1 ≤ V.heap.size from ⟨by have := HN1.out; have := HSO.out; have := HLEN.out; omega, by have := lt_heap' HNV.out.lf.nb; omega⟩)
         obtain ⟨i0, hi, hz0, hz1, hz2⟩ := info_parts infoSt
         rw [show Fz 20 = Code.region 20 from rfl]
         go_wp2_with (at_builtin; go_loud (refine wpList_append_lies _ rfl _ _ 174 rfl (w.heap.size + 1 + 1 + 1) 173 i0 _ 13 184 Tryz.underlying174 hi hz0 hz1 hz2 rfl (by decide) _ _ _ rfl HOA.out ⟨_, 0, none⟩ 1 1 (SC k1 cc1 j a1).toList rfl rfl (news_st _ k1 cc1 j a1 _ (by simp)) (sc_one' _ _ _ _) (by decide) (by have := HSZ.out; unfold maxLen; omega) (by have := HSZ.out; omega) (by have := HSZ.out; simp at this ⊢; omega) _ rfl ?_))
         rintro gg gcap w4 hown hgrow hat hlt4
         have HP := Lib.hid (HNV.out.push HLE.out hown hgrow)
         clear hown hgrow hat hlt4 HOA HSZ hi hz0 hz1 hz2
         go_wp2
         have HRN := Lib.hid (show resS (fitP X.T x) mn (-1 : Int) j (r ++ [⟨p, cc, k2, a⟩] ++ [⟨k1, cc1, j, a1⟩]) = R from by have := HJ.out.2.2.2; rw [resS_push, HST.out, hf] at this; dsimp only at this; rw [resS_push, resS_push, ← Option.or_assoc]; exact this)
         have hko : (-1 : Int) = -1 ∨ (cc1 : Int) ≤ (-1 : Int) := by first | exact Or.inl rfl | exact Or.inl trivial | (have := HSO.out.2.2.2.1; have := HNM.out; have := HK2.out; omega)
         have HKN := Lib.hid (show StkOk X (-1 : Int) i j (r ++ [⟨p, cc, k2, a⟩] ++ [⟨k1, cc1, j, a1⟩]) from stk_push (stk_push HJ.out.1 ⟨HSO.out.1, HSO.out.2.1, HK2.out.2.1, (by first | exact Or.inl rfl | exact Or.inl trivial | exact HSO.out.2.2.2.1), HSO.out.2.2.2.2.1⟩ (by rw [HLL.out]; exact HSO.out.2.2.2.2.2.1)) ⟨by have := HSO.out.1; have := HK2.out; show i + cc1 ≤ k1; omega, HK2.out.2.2.2.2.2.2, Nat.le_refl _, hko, HCA.out⟩ (by rw [HLE.out, HN1.out]; have := HSO.out.2.2.2.2.2.1; have := HK2.out; show cc1 = L + 1; omega))
         go_roundg (muL j (r ++ [⟨p, cc, k2, a⟩] ++ [⟨k1, cc1, j, a1⟩]))
         case measure => exact Nat.lt_of_lt_of_le (HMM.out a1) HJ.out.2.1
         case rel => exact ⟨_, gg, gcap, rfl, by rw [List.length_append, List.length_singleton, HLE.out], Lib.hid ⟨HKN.out, HRN.out⟩, HP⟩
     ·
      have hlt : ¬ (p : Int) < (k1 : Int) := by omega
      go_wp2
      have HD := Lib.hid (HU.out.below (Below.refl _ _).drew)
      have hags := HD.out.ags
      rw [HLL.out] at hags
      refine wp_region_noPanic ?_
      refine wp_region_held_drew (S := fun w' => AGS X w c ⟨6, z, (a0 : Nat), (b : Nat), mn, (-1 : Int), (m : Nat)⟩ g L p cc k1 a w') (by kernel_rfl) ?_ (fun hHeld => ?_)
      · (try dsimp only); exact hags
      clear hags
      generalize World.drew _ = W3 at HD hHeld ⊢
      refine Tk.take 0 (h := ?_)
      refine Tk.take 1 (h := ?_)
      refine Tk.take 2 (h := ?_)
      refine Tk.fk (fun _ h => And.intro h.1.node (And.intro h.1.bm h.2.1)) 3 (h := ?_)
      refine Tk.take 4 (h := ?_)
      refine Tk.take 5 (h := ?_)
      refine Tk.take 6 (h := ?_)
      refine Tk.fk (fun _ h => And.intro h.1.node (And.intro h.1.bm h.2.1)) 7 (h := ?_)
      refine Tk.take 8 (h := ?_)
      refine wpAnyH_done (by kernel_rfl) ?_ _
      refine NoPanic.normal ?_
      clear hHeld
      have HU1 := HD
      clear HD HU
      go_wp2
      have HRS2 := Lib.hid (show resS (fitP X.T x) mn (-1 : Int) j r = R from by have := HJ.out.2.2.2; rw [resS_push, ansS_done p cc k1 a HPJ.out (by omega)] at this; simpa using this)
      go_roundg (muL j r)
      case measure => exact muL_less _ _
      case rel => exact ⟨r, g, cap, rfl, by rw [HLL.out], Lib.hid ⟨HJ.out.1, HRS2.out⟩, Lib.hid HU1.out.pop⟩
end Go.Proofs.YtlicoffnjphphaaGreatDoor.Mt
