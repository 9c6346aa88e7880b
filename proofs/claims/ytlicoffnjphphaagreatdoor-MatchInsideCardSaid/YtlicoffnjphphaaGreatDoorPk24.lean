/- The texts MtO MtL0 MtL1 MtL3 MtL4. -/
import Derived.Deep.LoopGhost
import Derived.Test.YtlicoffnjphphaaGreatDoorPk23
set_option linter.unusedVariables false
set_option linter.unusedSimpArgs false
namespace Go.Proofs.YtlicoffnjphphaaGreatDoor.Mt
open Go.RowKit Go.Shelf
open Go.Proofs.YtlicoffnjphphaaGreatDoor.Rx
open Go.Proofs.YtlicoffnjphphaaGreatDoor.Rx.Tr
open Go.Proofs.YtlicoffnjphphaaGreatDoor.St (Wf word mem SV SV_eq)
/-- What the whole pattern fits. -/
def wholeP (T : List UInt8) (t : Tr) (i j : Nat) : Option Caps := (fitP T t i j nones).map fun c => c.set 0 (some (i, j))
/-- What is answered: what groups have, and whether it fits. -/
def ansC (r : Option Caps) : Value := .tuple #[CV (r.getD nones), .bool r.isSome]
/-- The memory while the whole is tried: the answer's place. -/
structure WF (X : Par) (pr : Nat → Prop) (w wr : World) : Prop where
 mm : MM X pr wr
 rs : wr.heap[w.heap.size]? = some (.cells CZ 27 (0, 0))
 km : Km X w wr
 base : X.w0.heap.size ≤ w.heap.size
section
variable {X : Par} {pr : Nat → Prop} {w wr w' : World}
theorem wf_start (hM : MM X pr w) : WF X pr w (w.alloc (.cells CZ 27)) :=
 have hb := (Below.refl w.heap.size w).alloc (Nat.le_refl _) (.cells CZ 27)
 ⟨hM.below hb, heap_alloc_new _ _, Km.of_below hb, hM.bel.size⟩
theorem WF.call (h : WF X pr w wr) (hm : MM X pr w') (hk : Km X wr w') : WF X pr w w' := ⟨hm, mm_keep h.mm hk h.rs, h.km.trans hk, h.base⟩
theorem WF.below (h : WF X pr w wr) (hb : Below wr.heap.size wr w') : WF X pr w w' := h.call (h.mm.below hb) (Km.of_below hb)
theorem WF.zero (h : WF X pr w wr) : WF X pr w (wr.alloc (.cells CZ 27)) ∧ (wr.alloc (.cells CZ 27)).heap[wr.heap.size]? = some (.cells CZ 27 (0, 0)) ∧ w.heap.size < wr.heap.size :=
 ⟨h.below ((Below.refl _ _).alloc (Nat.le_refl _) _), heap_alloc_new _ _, lt_heap' h.rs⟩
theorem WF.other (h : WF X pr w wr) {g : Nat} {cs : Array Value} {t : TypeId} {fr : Nat × Nat} (ht1 : t ≠ 4) (ht2 : t ≠ 94) (hg : wr.heap[g]? = some (.cells cs t fr)) (hlt : w.heap.size < g) (hs : wr.heap.size ≤ w'.heap.size) (hk : ∀ k, k < wr.heap.size → k ≠ g → w'.heap[k]? = wr.heap[k]?) (hb : Below X.w0.heap.size wr w') : WF X pr w w' :=
 ⟨h.mm.other ht1 ht2 hg hs hk (h.mm.bel.trans hb), (hk _ (lt_heap' h.rs) (by omega)).trans h.rs, ⟨Nat.le_trans h.km.size hs, fun k h1 h2 h3 => (hk k (Nat.lt_of_lt_of_le h1 h.km.size) (by omega)).trans (h.km.keep k h1 h2 h3)⟩, h.base⟩
theorem WF.fill (h : WF X pr w wr) {gx : Nat} (hg : wr.heap[gx]? = some (.cells CZ 27 (0, 0))) (hlt : w.heap.size < gx) (x : Caps) : WF X pr w (wr.setRow gx (CC x)) ∧ CB (wr.setRow gx (CC x)) gx x :=
 ⟨h.other (by decide) (by decide) hg hlt (by simp) (fun q _ hq => setRow_other _ _ _ _ hq) (below_setRow (Below.refl _ _) (by have := h.base; omega) _), setRow_heap _ _ _ _ _ _ hg⟩
theorem WF.putc (h : WF X pr w wr) {g : Nat} {a : Caps} (hg : CB wr g a) (ha : a.length = 10) (hlt : w.heap.size < g) {n : Nat} (hn : n < 10) (x : Cap) : WF X pr w (wr.setCell ⟨g, n, none⟩ (capV x)) ∧ CB (wr.setCell ⟨g, n, none⟩ (capV x)) g (a.set n x) := by
 refine ⟨h.other (by decide) (by decide) hg hlt (by simp) (fun k _ hk => Below.heap_setCell wr ⟨g, n, none⟩ _ k hk) ((Below.refl _ _).setCell (by show X.w0.heap.size ≤ g; have := h.base; omega) _), ?_⟩
 have := Go.Joins.block_setCell hg (i := n) (capV x)
 rw [cc_set ha hn] at this
 exact this
theorem WF.kept (h : WF X pr w wr) {gx : Nat} {cs : Array Value} {t : TypeId} {fr : Nat × Nat} (hg : wr.heap[gx]? = some (.cells cs t fr)) (hk : Km X wr w') : w'.heap[gx]? = some (.cells cs t fr) := mm_keep h.mm hk hg
/-- The answer is laid. -/
theorem WF.ret (h : WF X pr w wr) (a : Caps) : (wr.setRow w.heap.size (CC a)).heap[w.heap.size]? = some (.cells (CC a) 27 (0, 0)) ∧ MM X pr (wr.setRow w.heap.size (CC a)) ∧ Km X w (wr.setRow w.heap.size (CC a)) := by
 have hk : ∀ k, k < wr.heap.size → k ≠ w.heap.size → (wr.setRow w.heap.size (CC a)).heap[k]? = wr.heap[k]? := fun k _ hk => setRow_other _ _ _ _ hk
 exact ⟨setRow_heap _ _ _ _ _ _ h.rs, h.mm.other (by decide) (by decide) h.rs (by simp) hk (h.mm.bel.trans (below_setRow (Below.refl _ _) h.base _)), ⟨by simpa using h.km.size, fun k h1 h2 h3 => (hk k (Nat.lt_of_lt_of_le h1 h.km.size) (by omega)).trans (h.km.keep k h1 h2 h3)⟩⟩
end
def WS (X : Par) (w' : World) : Prop := w'.heap[X.bm]? = some (.cells #[X.v, S X.T, .bool X.refs, .map (some X.b1), .map (some X.b2)] 94 (0, 0))
set_option maxRecDepth 100000 in
set_option maxHeartbeats 3200000 in
theorem whole_any (X : Par) (hX : X.Ok) (pr : Nat → Prop) (i j : Nat) (hij : i ≤ j) (hj : j ≤ X.N) (w : World) (hM : MM X pr w) (nb no cap : Nat) (hv : X.v = .slice (some ⟨nb, no, none⟩) X.l.length cap) (hn : 0 < X.l.length) (hn2 : X.l.length ≤ 1000) (hfw : FitOk X X.t (X.l.length - 1)) (R : Option Caps) (hR : R = wholeP X.T X.t i j) :
  Calls Tryz.prog 33 #[PT X.bm, E (i : Nat), E (j : Nat)] w fun e w' => e = .returned (ansC R) ∧ MM X pr w' ∧ Km X w w' := by
 have HF := Lib.hid hfw
 have HRR := Lib.hid hR
 have HIJ := Lib.hid (And.intro hij hj)
 have HS := Lib.hid (wf_start hM)
 have hlen := hX.len
 have hof := (fun W => of_cap hij (by omega : j ≤ 999999999) W)
 obtain ⟨cxa, cxb, hcx⟩ : ∃ p q, capV (some (i, j)) = .complex .f64 p q := ⟨_, _, rfl⟩
 rw [hcx] at hof
 have HCX := Lib.hid hcx
 have HOF := Lib.hid hof
 obtain ⟨n1, hn1⟩ : ∃ n1, X.l.length - 1 = n1 := ⟨_, rfl⟩
 have hwn : IntKind.i64.wrap ((X.l.length : Int) - 1) = (n1 : Int) := by rw [IntKind.wrap_i64]; omega
 rw [hn1] at HF
 have HNA := Lib.hid (fun W => none_any W)
 have hc0 := hM.facts.1
 rw [hv] at hc0
 have HV := Lib.hid hv
 clear hR hij hj hM hlen hof hcx hn1 hX hn hn2 hc0 hfw
 go_enter Tryz.func33, Tryz.ntmps33
 go_wp2
 have HD := Lib.hid (HS.out.below (Below.refl _ _).drew)
 refine wp_region_noPanic ?_
 refine wp_region_held_drew (S := fun w' => WS X w') (by kernel_rfl) ?_ (fun hHeld => ?_)
 · (try dsimp only); exact HD.out.mm.hb
 clear HS
 generalize World.drew _ = W2 at HD hHeld ⊢
 refine Tk.take 0 (h := ?_)
 refine Tk.take 1 (h := ?_)
 refine Tk.take 2 (h := ?_)
 refine Tk.take 3 (h := ?_)
 refine Tk.take 4 (hy := by (intro wv hSw; (try dsimp only at hSw); obtain ⟨p0, p1, p2, p3, p4⟩ := mm_cells hSw; rw [HV.out] at p0; go_simp) <;> with_reducible rfl) (h := ?_)
 refine Tk.take 5 (h := ?_)
 refine Tk.take 6 (h := ?_)
 refine Tk.take 7 (h := ?_)
 refine Tk.take 8 (h := ?_)
 cases hf : fitP X.T X.t i j nones with
 | none =>
  refine wpAnyH_ready (rs := [9, 14]) (by kernel_rfl) (by simp) ?_
  refine AllReadyH.cons (o := ?o9_1) ?hi9_1 (fun K hK => ?st9_1) (AllReadyH.cons (o := ?o14_1) ?hi14_1 (fun K hK => ?st14_1) AllReadyH.nil)
  case hi9_1 => simp only [List.getElem?_toArray, List.getElem?_cons_succ, List.getElem?_cons_zero]; rfl
  case hi14_1 => simp only [List.getElem?_toArray, List.getElem?_cons_succ, List.getElem?_cons_zero]; rfl
  case st9_1 =>
   go_simp
   (go_at_call 21; refine (HNA.out _).mono ?_; rintro e w1 ⟨rfl, hb⟩; have HX1_9 := Lib.hid (HD.out.below hb); clear hb)
   have hws := HX1_9.out.mm.hb
   refine hK.out _ _ ?_ (fun hHeld => Tk.wrk ?_)
   · (try dsimp only); exact hws
   clear hws
   clear hK K
   refine wpAnyH_ready (rs := [10, 14]) (by kernel_rfl) (by simp) ?_
   refine AllReadyH.cons (o := ?o10_2) ?hi10_2 (fun K hK => ?st10_2) (AllReadyH.cons (o := ?o14_2) ?hi14_2 (fun K hK => ?st14_2) AllReadyH.nil)
   case hi10_2 => simp only [List.getElem?_toArray, List.getElem?_cons_succ, List.getElem?_cons_zero]; rfl
   case hi14_2 => simp only [List.getElem?_toArray, List.getElem?_cons_succ, List.getElem?_cons_zero]; rfl
   case st10_2 =>
    go_simp
    (go_at_call 47; have hq := HF.out _ i j nones _ HIJ.out.1 HIJ.out.2 (caps_none _) HX1_9.out.mm; refine hq.mono ?_; clear hq; rintro e w2 ⟨a1, b1, rfl, hl, hm, hk⟩; rw [hf] at hl; obtain ⟨hca, hb1⟩ := hl; subst hb1; have HCA := Lib.hid hca; have HX2_10 := Lib.hid (HX1_9.out.call hm hk); clear hca hm hk)
    have hws := HX2_10.out.mm.hb
    refine hK.out _ _ ?_ (fun hHeld => Tk.wrk ?_)
    · (try dsimp only); exact hws
    clear hws
    clear hK K
    refine Tk.take 11 (h := ?_)
    refine Tk.take 12 (h := ?_)
    refine Tk.take 13 (h := ?_)
    refine Tk.one 14 (h := fun K hK => ?st14_3)
    case st14_3 =>
     go_simp
     obtain ⟨f1, f2, f3⟩ := HX2_10.out.zero
     have HX3_14 := Lib.hid f1
     have HZ := Lib.hid (And.intro f2 f3)
     clear f1 f2 f3
     have hws := HX3_14.out.mm.hb
     refine hK.out _ _ ?_ (fun hHeld => Tk.wrk ?_)
     · (try dsimp only); exact hws
     clear hws
     clear hK K
     generalize World.alloc _ _ = V3 at HX3_14 HZ hHeld ⊢
     refine Tk.one 15 (h := fun K hK => ?_)
     refine step_store_row rfl 27 (.tmp 8) (.tmp 22) rfl w2.heap.size (CC a1) rfl rfl _ CZ HZ.out.1 (by kernel_rfl) rfl (cc_one a1) ?_
     obtain ⟨f1, f2⟩ := HX3_14.out.fill HZ.out.1 HZ.out.2 a1
     have HX4 := Lib.hid f1
     have HB := Lib.hid (And.intro f2 HZ.out.2)
     clear f1 f2 HZ HX3_14
     generalize World.setRow _ _ _ = W5 at HX4 HB ⊢
     have hws := HX4.out.mm.hb
     refine hK.out _ _ ?_ (fun hHeld => Tk.wrk ?_)
     · (try dsimp only); exact hws
     clear hws
     clear hK K
     refine Tk.take 16 (h := ?_)
     refine wpAnyH_done (by kernel_rfl) ?_ _
     refine NoPanic.normal ?_
     clear hHeld
     go_wp2_with (first
      | (go_at_call 21; refine (HNA.out _).mono ?_; rintro e w3 ⟨rfl, hb⟩; have HE := Lib.hid (HX4.out.below hb); clear hb)
      | (refine wpList_store_row rfl 27 (.tmp 6) (.tmp 26) rfl w.heap.size (CC nones) rfl rfl _ CZ HE.out.rs (by kernel_rfl) rfl (cc_one nones) ?_; simp only [Act.put, List.setIfInBounds_toArray, List.set_cons_zero, List.set_cons_succ]; obtain ⟨r1, r2, r3⟩ := HE.out.ret nones; have HR := Lib.hid (And.intro r1 (And.intro r2 r3)); clear r1 r2 r3 HE; generalize World.setRow _ _ _ = W9 at HR ⊢))
     refine bodyPost_ret (res_caps rfl rfl HR.out.1 rfl) rfl ?_
     refine ⟨?_, HR.out.2.1, HR.out.2.2⟩
     rw [HRR.out, wholeP, hf]
     rfl
   case st14_2 =>
    go_simp
    obtain ⟨f1, f2, f3⟩ := HX1_9.out.zero
    have HX2_14 := Lib.hid f1
    have HZ := Lib.hid (And.intro f2 f3)
    clear f1 f2 f3
    have hws := HX2_14.out.mm.hb
    refine hK.out _ _ ?_ (fun hHeld => Tk.wrk ?_)
    · (try dsimp only); exact hws
    clear hws
    clear hK K
    generalize World.alloc _ _ = V2 at HX2_14 HZ hHeld ⊢
    refine Tk.one 10 (h := fun K hK => ?st10_5)
    case st10_5 =>
     go_simp
     (go_at_call 47; have hq := HF.out _ i j nones _ HIJ.out.1 HIJ.out.2 (caps_none _) HX2_14.out.mm; refine hq.mono ?_; clear hq; rintro e w5 ⟨a1, b1, rfl, hl, hm, hk⟩; rw [hf] at hl; obtain ⟨hca, hb1⟩ := hl; subst hb1; have HCA := Lib.hid hca; have HX5_10 := Lib.hid (HX2_14.out.call hm hk); have hzz := HX2_14.out.kept HZ.out.1 hk; have hz2 := HZ.out.2; clear HZ; have HZ := Lib.hid (And.intro hzz hz2); clear hzz hz2; clear hca hm hk)
     have hws := HX5_10.out.mm.hb
     refine hK.out _ _ ?_ (fun hHeld => Tk.wrk ?_)
     · (try dsimp only); exact hws
     clear hws
     clear hK K
     refine Tk.take 11 (h := ?_)
     refine Tk.take 12 (h := ?_)
     refine Tk.take 13 (h := ?_)
     refine Tk.one 15 (h := fun K hK => ?_)
     refine step_store_row rfl 27 (.tmp 8) (.tmp 22) rfl w1.heap.size (CC a1) rfl rfl _ CZ HZ.out.1 (by kernel_rfl) rfl (cc_one a1) ?_
     obtain ⟨f1, f2⟩ := HX5_10.out.fill HZ.out.1 HZ.out.2 a1
     have HX6 := Lib.hid f1
     have HB := Lib.hid (And.intro f2 HZ.out.2)
     clear f1 f2 HZ HX5_10
     generalize World.setRow _ _ _ = W5 at HX6 HB ⊢
     have hws := HX6.out.mm.hb
     refine hK.out _ _ ?_ (fun hHeld => Tk.wrk ?_)
     · (try dsimp only); exact hws
     clear hws
     clear hK K
     refine Tk.take 16 (h := ?_)
     refine wpAnyH_done (by kernel_rfl) ?_ _
     refine NoPanic.normal ?_
     clear hHeld
     go_wp2_with (first
      | (go_at_call 21; refine (HNA.out _).mono ?_; rintro e w3 ⟨rfl, hb⟩; have HE := Lib.hid (HX6.out.below hb); clear hb)
      | (refine wpList_store_row rfl 27 (.tmp 6) (.tmp 26) rfl w.heap.size (CC nones) rfl rfl _ CZ HE.out.rs (by kernel_rfl) rfl (cc_one nones) ?_; simp only [Act.put, List.setIfInBounds_toArray, List.set_cons_zero, List.set_cons_succ]; obtain ⟨r1, r2, r3⟩ := HE.out.ret nones; have HR := Lib.hid (And.intro r1 (And.intro r2 r3)); clear r1 r2 r3 HE; generalize World.setRow _ _ _ = W9 at HR ⊢))
     refine bodyPost_ret (res_caps rfl rfl HR.out.1 rfl) rfl ?_
     refine ⟨?_, HR.out.2.1, HR.out.2.2⟩
     rw [HRR.out, wholeP, hf]
     rfl
  case st14_1 =>
   go_simp
   obtain ⟨f1, f2, f3⟩ := HD.out.zero
   have HX1_14 := Lib.hid f1
   have HZ := Lib.hid (And.intro f2 f3)
   clear f1 f2 f3
   have hws := HX1_14.out.mm.hb
   refine hK.out _ _ ?_ (fun hHeld => Tk.wrk ?_)
   · (try dsimp only); exact hws
   clear hws
   clear hK K
   generalize World.alloc _ _ = V1 at HX1_14 HZ hHeld ⊢
   refine Tk.one 9 (h := fun K hK => ?st9_7)
   case st9_7 =>
    go_simp
    (go_at_call 21; refine (HNA.out _).mono ?_; rintro e w7 ⟨rfl, hb⟩; have HX7_9 := Lib.hid (HX1_14.out.below hb); have hzz := (hb.block _ (lt_heap' HZ.out.1)).trans HZ.out.1; have hz2 := HZ.out.2; clear HZ; have HZ := Lib.hid (And.intro hzz hz2); clear hzz hz2; clear hb)
    have hws := HX7_9.out.mm.hb
    refine hK.out _ _ ?_ (fun hHeld => Tk.wrk ?_)
    · (try dsimp only); exact hws
    clear hws
    clear hK K
    refine Tk.one 10 (h := fun K hK => ?st10_8)
    case st10_8 =>
     go_simp
     (go_at_call 47; have hq := HF.out _ i j nones _ HIJ.out.1 HIJ.out.2 (caps_none _) HX7_9.out.mm; refine hq.mono ?_; clear hq; rintro e w8 ⟨a1, b1, rfl, hl, hm, hk⟩; rw [hf] at hl; obtain ⟨hca, hb1⟩ := hl; subst hb1; have HCA := Lib.hid hca; have HX8_10 := Lib.hid (HX7_9.out.call hm hk); have hzz := HX7_9.out.kept HZ.out.1 hk; have hz2 := HZ.out.2; clear HZ; have HZ := Lib.hid (And.intro hzz hz2); clear hzz hz2; clear hca hm hk)
     have hws := HX8_10.out.mm.hb
     refine hK.out _ _ ?_ (fun hHeld => Tk.wrk ?_)
     · (try dsimp only); exact hws
     clear hws
     clear hK K
     refine Tk.take 11 (h := ?_)
     refine Tk.take 12 (h := ?_)
     refine Tk.take 13 (h := ?_)
     refine Tk.one 15 (h := fun K hK => ?_)
     refine step_store_row rfl 27 (.tmp 8) (.tmp 22) rfl W2.heap.size (CC a1) rfl rfl _ CZ HZ.out.1 (by kernel_rfl) rfl (cc_one a1) ?_
     obtain ⟨f1, f2⟩ := HX8_10.out.fill HZ.out.1 HZ.out.2 a1
     have HX9 := Lib.hid f1
     have HB := Lib.hid (And.intro f2 HZ.out.2)
     clear f1 f2 HZ HX8_10
     generalize World.setRow _ _ _ = W5 at HX9 HB ⊢
     have hws := HX9.out.mm.hb
     refine hK.out _ _ ?_ (fun hHeld => Tk.wrk ?_)
     · (try dsimp only); exact hws
     clear hws
     clear hK K
     refine Tk.take 16 (h := ?_)
     refine wpAnyH_done (by kernel_rfl) ?_ _
     refine NoPanic.normal ?_
     clear hHeld
     go_wp2_with (first
      | (go_at_call 21; refine (HNA.out _).mono ?_; rintro e w3 ⟨rfl, hb⟩; have HE := Lib.hid (HX9.out.below hb); clear hb)
      | (refine wpList_store_row rfl 27 (.tmp 6) (.tmp 26) rfl w.heap.size (CC nones) rfl rfl _ CZ HE.out.rs (by kernel_rfl) rfl (cc_one nones) ?_; simp only [Act.put, List.setIfInBounds_toArray, List.set_cons_zero, List.set_cons_succ]; obtain ⟨r1, r2, r3⟩ := HE.out.ret nones; have HR := Lib.hid (And.intro r1 (And.intro r2 r3)); clear r1 r2 r3 HE; generalize World.setRow _ _ _ = W9 at HR ⊢))
     refine bodyPost_ret (res_caps rfl rfl HR.out.1 rfl) rfl ?_
     refine ⟨?_, HR.out.2.1, HR.out.2.2⟩
     rw [HRR.out, wholeP, hf]
     rfl
 | some a0 =>
  refine wpAnyH_ready (rs := [9, 14]) (by kernel_rfl) (by simp) ?_
  refine AllReadyH.cons (o := ?o9_10) ?hi9_10 (fun K hK => ?st9_10) (AllReadyH.cons (o := ?o14_10) ?hi14_10 (fun K hK => ?st14_10) AllReadyH.nil)
  case hi9_10 => simp only [List.getElem?_toArray, List.getElem?_cons_succ, List.getElem?_cons_zero]; rfl
  case hi14_10 => simp only [List.getElem?_toArray, List.getElem?_cons_succ, List.getElem?_cons_zero]; rfl
  case st9_10 =>
   go_simp
   (go_at_call 21; refine (HNA.out _).mono ?_; rintro e w10 ⟨rfl, hb⟩; have HX10_9 := Lib.hid (HD.out.below hb); clear hb)
   have hws := HX10_9.out.mm.hb
   refine hK.out _ _ ?_ (fun hHeld => Tk.wrk ?_)
   · (try dsimp only); exact hws
   clear hws
   clear hK K
   refine wpAnyH_ready (rs := [10, 14]) (by kernel_rfl) (by simp) ?_
   refine AllReadyH.cons (o := ?o10_11) ?hi10_11 (fun K hK => ?st10_11) (AllReadyH.cons (o := ?o14_11) ?hi14_11 (fun K hK => ?st14_11) AllReadyH.nil)
   case hi10_11 => simp only [List.getElem?_toArray, List.getElem?_cons_succ, List.getElem?_cons_zero]; rfl
   case hi14_11 => simp only [List.getElem?_toArray, List.getElem?_cons_succ, List.getElem?_cons_zero]; rfl
   case st10_11 =>
    go_simp
    (go_at_call 47; have hq := HF.out _ i j nones _ HIJ.out.1 HIJ.out.2 (caps_none _) HX10_9.out.mm; refine hq.mono ?_; clear hq; rintro e w11 ⟨a1, b1, rfl, hl, hm, hk⟩; rw [hf] at hl; obtain ⟨hca, hb1, ha1⟩ := hl; subst hb1; subst ha1; have HCA := Lib.hid hca; have HX11_10 := Lib.hid (HX10_9.out.call hm hk); clear hca hm hk)
    have hws := HX11_10.out.mm.hb
    refine hK.out _ _ ?_ (fun hHeld => Tk.wrk ?_)
    · (try dsimp only); exact hws
    clear hws
    clear hK K
    refine Tk.take 11 (h := ?_)
    refine Tk.take 12 (h := ?_)
    refine Tk.take 13 (h := ?_)
    refine Tk.one 14 (h := fun K hK => ?st14_12)
    case st14_12 =>
     go_simp
     obtain ⟨f1, f2, f3⟩ := HX11_10.out.zero
     have HX12_14 := Lib.hid f1
     have HZ := Lib.hid (And.intro f2 f3)
     clear f1 f2 f3
     have hws := HX12_14.out.mm.hb
     refine hK.out _ _ ?_ (fun hHeld => Tk.wrk ?_)
     · (try dsimp only); exact hws
     clear hws
     clear hK K
     generalize World.alloc _ _ = V12 at HX12_14 HZ hHeld ⊢
     refine Tk.one 15 (h := fun K hK => ?_)
     refine step_store_row rfl 27 (.tmp 8) (.tmp 22) rfl w11.heap.size (CC a1) rfl rfl _ CZ HZ.out.1 (by kernel_rfl) rfl (cc_one a1) ?_
     obtain ⟨f1, f2⟩ := HX12_14.out.fill HZ.out.1 HZ.out.2 a1
     have HX13 := Lib.hid f1
     have HB := Lib.hid (And.intro f2 HZ.out.2)
     clear f1 f2 HZ HX12_14
     generalize World.setRow _ _ _ = W5 at HX13 HB ⊢
     have hws := HX13.out.mm.hb
     refine hK.out _ _ ?_ (fun hHeld => Tk.wrk ?_)
     · (try dsimp only); exact hws
     clear hws
     clear hK K
     refine Tk.take 16 (h := ?_)
     refine wpAnyH_done (by kernel_rfl) ?_ _
     refine NoPanic.normal ?_
     clear hHeld
     have HG := Lib.hid HB.out.2
     have hcl := cap_cell HB.out.1 (n := 0) (by decide)
     have hfz : W5.frozen? ⟨w11.heap.size, 0, none⟩ = false := by simp [World.frozen?, HB.out.1]
     have hst := store_complex Tryz.prog W5 (w11.heap.size) 0 cxa cxb hcl hfz
     obtain ⟨hp1, hp2⟩ := HX13.out.putc HB.out.1 HCA.out.len HG.out (n := 0) (by decide) (some (i, j))
     obtain ⟨a2, ha2⟩ : ∃ a2, a2 = a1.set 0 (some (i, j)) := ⟨_, rfl⟩
     rw [← ha2] at hp2
     rw [HCX.out] at hp1 hp2
     have HA2 := Lib.hid ha2
     have HS5 := Lib.hid hp1
     have HB5 := Lib.hid hp2
     clear hp1 hp2 ha2 HX13 HB
     go_wp2_with (first
      | (go_at_call 48; refine (HOF.out W5).mono ?_; rintro e w6 ⟨rfl, rfl⟩)
      | (refine wpList_load_row rfl 27 (.tmp 8) rfl w11.heap.size rfl _ (CC a2) (0, 0) _ HB5.out Tryz.underlying27 rfl (by kernel_rfl) ?_; simp only [Act.put, List.setIfInBounds_toArray, List.set_cons_zero, List.set_cons_succ])
      | (refine wpList_store_row rfl 27 (.tmp 6) (.tmp 34) rfl w.heap.size (CC a2) rfl rfl _ CZ HS5.out.rs (by kernel_rfl) rfl (cc_one a2) ?_; simp only [Act.put, List.setIfInBounds_toArray, List.set_cons_zero, List.set_cons_succ]; obtain ⟨r1, r2, r3⟩ := HS5.out.ret a2; have HR := Lib.hid (And.intro r1 (And.intro r2 r3)); clear r1 r2 r3 HS5; generalize World.setRow _ _ _ = W9 at HR ⊢))
     refine bodyPost_ret (res_caps rfl rfl HR.out.1 rfl) rfl ?_
     refine ⟨?_, HR.out.2.1, HR.out.2.2⟩
     rw [HRR.out, wholeP, hf, HA2.out]
     rfl
   case st14_11 =>
    go_simp
    obtain ⟨f1, f2, f3⟩ := HX10_9.out.zero
    have HX11_14 := Lib.hid f1
    have HZ := Lib.hid (And.intro f2 f3)
    clear f1 f2 f3
    have hws := HX11_14.out.mm.hb
    refine hK.out _ _ ?_ (fun hHeld => Tk.wrk ?_)
    · (try dsimp only); exact hws
    clear hws
    clear hK K
    generalize World.alloc _ _ = V11 at HX11_14 HZ hHeld ⊢
    refine Tk.one 10 (h := fun K hK => ?st10_14)
    case st10_14 =>
     go_simp
     (go_at_call 47; have hq := HF.out _ i j nones _ HIJ.out.1 HIJ.out.2 (caps_none _) HX11_14.out.mm; refine hq.mono ?_; clear hq; rintro e w14 ⟨a1, b1, rfl, hl, hm, hk⟩; rw [hf] at hl; obtain ⟨hca, hb1, ha1⟩ := hl; subst hb1; subst ha1; have HCA := Lib.hid hca; have HX14_10 := Lib.hid (HX11_14.out.call hm hk); have hzz := HX11_14.out.kept HZ.out.1 hk; have hz2 := HZ.out.2; clear HZ; have HZ := Lib.hid (And.intro hzz hz2); clear hzz hz2; clear hca hm hk)
     have hws := HX14_10.out.mm.hb
     refine hK.out _ _ ?_ (fun hHeld => Tk.wrk ?_)
     · (try dsimp only); exact hws
     clear hws
     clear hK K
     refine Tk.take 11 (h := ?_)
     refine Tk.take 12 (h := ?_)
     refine Tk.take 13 (h := ?_)
     refine Tk.one 15 (h := fun K hK => ?_)
     refine step_store_row rfl 27 (.tmp 8) (.tmp 22) rfl w10.heap.size (CC a1) rfl rfl _ CZ HZ.out.1 (by kernel_rfl) rfl (cc_one a1) ?_
     obtain ⟨f1, f2⟩ := HX14_10.out.fill HZ.out.1 HZ.out.2 a1
     have HX15 := Lib.hid f1
     have HB := Lib.hid (And.intro f2 HZ.out.2)
     clear f1 f2 HZ HX14_10
     generalize World.setRow _ _ _ = W5 at HX15 HB ⊢
     have hws := HX15.out.mm.hb
     refine hK.out _ _ ?_ (fun hHeld => Tk.wrk ?_)
     · (try dsimp only); exact hws
     clear hws
     clear hK K
     refine Tk.take 16 (h := ?_)
     refine wpAnyH_done (by kernel_rfl) ?_ _
     refine NoPanic.normal ?_
     clear hHeld
     have HG := Lib.hid HB.out.2
     have hcl := cap_cell HB.out.1 (n := 0) (by decide)
     have hfz : W5.frozen? ⟨w10.heap.size, 0, none⟩ = false := by simp [World.frozen?, HB.out.1]
     have hst := store_complex Tryz.prog W5 (w10.heap.size) 0 cxa cxb hcl hfz
     obtain ⟨hp1, hp2⟩ := HX15.out.putc HB.out.1 HCA.out.len HG.out (n := 0) (by decide) (some (i, j))
     obtain ⟨a2, ha2⟩ : ∃ a2, a2 = a1.set 0 (some (i, j)) := ⟨_, rfl⟩
     rw [← ha2] at hp2
     rw [HCX.out] at hp1 hp2
     have HA2 := Lib.hid ha2
     have HS5 := Lib.hid hp1
     have HB5 := Lib.hid hp2
     clear hp1 hp2 ha2 HX15 HB
     go_wp2_with (first
      | (go_at_call 48; refine (HOF.out W5).mono ?_; rintro e w6 ⟨rfl, rfl⟩)
      | (refine wpList_load_row rfl 27 (.tmp 8) rfl w10.heap.size rfl _ (CC a2) (0, 0) _ HB5.out Tryz.underlying27 rfl (by kernel_rfl) ?_; simp only [Act.put, List.setIfInBounds_toArray, List.set_cons_zero, List.set_cons_succ])
      | (refine wpList_store_row rfl 27 (.tmp 6) (.tmp 34) rfl w.heap.size (CC a2) rfl rfl _ CZ HS5.out.rs (by kernel_rfl) rfl (cc_one a2) ?_; simp only [Act.put, List.setIfInBounds_toArray, List.set_cons_zero, List.set_cons_succ]; obtain ⟨r1, r2, r3⟩ := HS5.out.ret a2; have HR := Lib.hid (And.intro r1 (And.intro r2 r3)); clear r1 r2 r3 HS5; generalize World.setRow _ _ _ = W9 at HR ⊢))
     refine bodyPost_ret (res_caps rfl rfl HR.out.1 rfl) rfl ?_
     refine ⟨?_, HR.out.2.1, HR.out.2.2⟩
     rw [HRR.out, wholeP, hf, HA2.out]
     rfl
  case st14_10 =>
   go_simp
   obtain ⟨f1, f2, f3⟩ := HD.out.zero
   have HX10_14 := Lib.hid f1
   have HZ := Lib.hid (And.intro f2 f3)
   clear f1 f2 f3
   have hws := HX10_14.out.mm.hb
   refine hK.out _ _ ?_ (fun hHeld => Tk.wrk ?_)
   · (try dsimp only); exact hws
   clear hws
   clear hK K
   generalize World.alloc _ _ = V10 at HX10_14 HZ hHeld ⊢
   refine Tk.one 9 (h := fun K hK => ?st9_16)
   case st9_16 =>
    go_simp
    (go_at_call 21; refine (HNA.out _).mono ?_; rintro e w16 ⟨rfl, hb⟩; have HX16_9 := Lib.hid (HX10_14.out.below hb); have hzz := (hb.block _ (lt_heap' HZ.out.1)).trans HZ.out.1; have hz2 := HZ.out.2; clear HZ; have HZ := Lib.hid (And.intro hzz hz2); clear hzz hz2; clear hb)
    have hws := HX16_9.out.mm.hb
    refine hK.out _ _ ?_ (fun hHeld => Tk.wrk ?_)
    · (try dsimp only); exact hws
    clear hws
    clear hK K
    refine Tk.one 10 (h := fun K hK => ?st10_17)
    case st10_17 =>
     go_simp
     (go_at_call 47; have hq := HF.out _ i j nones _ HIJ.out.1 HIJ.out.2 (caps_none _) HX16_9.out.mm; refine hq.mono ?_; clear hq; rintro e w17 ⟨a1, b1, rfl, hl, hm, hk⟩; rw [hf] at hl; obtain ⟨hca, hb1, ha1⟩ := hl; subst hb1; subst ha1; have HCA := Lib.hid hca; have HX17_10 := Lib.hid (HX16_9.out.call hm hk); have hzz := HX16_9.out.kept HZ.out.1 hk; have hz2 := HZ.out.2; clear HZ; have HZ := Lib.hid (And.intro hzz hz2); clear hzz hz2; clear hca hm hk)
     have hws := HX17_10.out.mm.hb
     refine hK.out _ _ ?_ (fun hHeld => Tk.wrk ?_)
     · (try dsimp only); exact hws
     clear hws
     clear hK K
     refine Tk.take 11 (h := ?_)
     refine Tk.take 12 (h := ?_)
     refine Tk.take 13 (h := ?_)
     refine Tk.one 15 (h := fun K hK => ?_)
     refine step_store_row rfl 27 (.tmp 8) (.tmp 22) rfl W2.heap.size (CC a1) rfl rfl _ CZ HZ.out.1 (by kernel_rfl) rfl (cc_one a1) ?_
     obtain ⟨f1, f2⟩ := HX17_10.out.fill HZ.out.1 HZ.out.2 a1
     have HX18 := Lib.hid f1
     have HB := Lib.hid (And.intro f2 HZ.out.2)
     clear f1 f2 HZ HX17_10
     generalize World.setRow _ _ _ = W5 at HX18 HB ⊢
     have hws := HX18.out.mm.hb
     refine hK.out _ _ ?_ (fun hHeld => Tk.wrk ?_)
     · (try dsimp only); exact hws
     clear hws
     clear hK K
     refine Tk.take 16 (h := ?_)
     refine wpAnyH_done (by kernel_rfl) ?_ _
     refine NoPanic.normal ?_
     clear hHeld
     have HG := Lib.hid HB.out.2
     have hcl := cap_cell HB.out.1 (n := 0) (by decide)
     have hfz : W5.frozen? ⟨W2.heap.size, 0, none⟩ = false := by simp [World.frozen?, HB.out.1]
     have hst := store_complex Tryz.prog W5 (W2.heap.size) 0 cxa cxb hcl hfz
     obtain ⟨hp1, hp2⟩ := HX18.out.putc HB.out.1 HCA.out.len HG.out (n := 0) (by decide) (some (i, j))
     obtain ⟨a2, ha2⟩ : ∃ a2, a2 = a1.set 0 (some (i, j)) := ⟨_, rfl⟩
     rw [← ha2] at hp2
     rw [HCX.out] at hp1 hp2
     have HA2 := Lib.hid ha2
     have HS5 := Lib.hid hp1
     have HB5 := Lib.hid hp2
     clear hp1 hp2 ha2 HX18 HB
     go_wp2_with (first
      | (go_at_call 48; refine (HOF.out W5).mono ?_; rintro e w6 ⟨rfl, rfl⟩)
      | (refine wpList_load_row rfl 27 (.tmp 8) rfl W2.heap.size rfl _ (CC a2) (0, 0) _ HB5.out Tryz.underlying27 rfl (by kernel_rfl) ?_; simp only [Act.put, List.setIfInBounds_toArray, List.set_cons_zero, List.set_cons_succ])
      | (refine wpList_store_row rfl 27 (.tmp 6) (.tmp 34) rfl w.heap.size (CC a2) rfl rfl _ CZ HS5.out.rs (by kernel_rfl) rfl (cc_one a2) ?_; simp only [Act.put, List.setIfInBounds_toArray, List.set_cons_zero, List.set_cons_succ]; obtain ⟨r1, r2, r3⟩ := HS5.out.ret a2; have HR := Lib.hid (And.intro r1 (And.intro r2 r3)); clear r1 r2 r3 HS5; generalize World.setRow _ _ _ = W9 at HR ⊢))
     refine bodyPost_ret (res_caps rfl rfl HR.out.1 rfl) rfl ?_
     refine ⟨?_, HR.out.2.1, HR.out.2.2⟩
     rw [HRR.out, wholeP, hf, HA2.out]
     rfl
set_option maxRecDepth 100000 in
set_option maxHeartbeats 3200000 in
theorem look_0 (X : Par) (hX : X.Ok) (ia : Nat) (pr : Nat → Prop) (i j : Nat) (c : Caps) (w : World) (hij : i ≤ j) (hj : j ≤ X.N) (hc : CapsOk X.N c) (hM : MM X pr w) (nb no cap : Nat) (hv : X.v = .slice (some ⟨nb, no, none⟩) X.l.length cap) (hil : ia < X.l.length) (z : List Nat) (a b : Nat) (mn mx : Int) (m : Nat) (hN : NCell w nb (no + ia * 10) ⟨0, z, (a : Nat), (b : Nat), mn, mx, (m : Nat)⟩) (R : Option Caps) (hR : R = (if i = j then some c else none)) :
    Calls Tryz.prog 69 #[PT X.bm, E (ia : Nat), E (i : Nat), E (j : Nat), CV c] w (FitAns X pr w R) := by
  obtain ⟨c0, c1, c2, c3, c4⟩ := hM.facts
  rw [hv] at c0
  obtain ⟨q0, q1, q2, q3, q4, q5, q6, q7, q8, q9⟩ := hN
  have hbm := lt_heap' hM.hb
  have hbm2 : X.bm < w.heap.size + 1 := by omega
  have hbm3 : X.bm < w.heap.size + 1 + 1 := by omega
  have hnb : nb < w.heap.size := lt_cell q0
  have hnb2 : nb < w.heap.size + 1 := by omega
  have hnb3 : nb < w.heap.size + 1 + 1 := by omega
  have ha0 : (0 : Int) ≤ (ia : Int) := by omega
  have ha1 : (ia : Int) < (X.l.length : Int) := by omega
  have HT := Lib.hid (lf_start hM c ⟨0, z, (a : Nat), (b : Nat), mn, mx, (m : Nat)⟩)
  have HC := Lib.hid hc
  have HRR := Lib.hid hR
  clear hR
  have hlen := hX.len
  have HLEN := Lib.hid hlen
  clear hlen hM hX hc
  go_enter Tryz.func69, Tryz.ntmps69
  rw [show Code.region 2 = Fz 2 from rfl]
  go_wp2
  refine at_world (p := fun W => LF X pr w c ⟨0, z, (a : Nat), (b : Nat), mn, mx, (m : Nat)⟩ W) HT.out (fun W hW => ?_)
  have HS := Lib.hid hW
  clear hW HT c0 c1 c2 c3 c4 q0 q1 q2 q3 q4 q5 q6 q7 q8 q9 hbm hbm2 hbm3 hnb hnb2 hnb3 ha0 ha1
  rw [show Fz 2 = Code.region 2 from rfl]
  obtain ⟨x0, x1, x2, x3, x4, x5, x6, x7, x8, x9⟩ := node_cells HS.out.nb
  (try dsimp only at x0 x1 x2 x3 x4 x5 x6 x7 x8 x9)
  obtain ⟨m0, m1, m2, m3, m4⟩ := HS.out.tf.mm.facts
  go_wp2_with (first
    | (refine wpList_load_row rfl 27 (.tmp 9) rfl w.heap.size rfl _ (CC c) (0, 0) _ HS.out.tf.bx Tryz.underlying27 rfl (by kernel_rfl) ?_; simp only [Act.put, List.setIfInBounds_toArray, List.set_cons_zero, List.set_cons_succ])
    | (refine wpList_store_row rfl 27 (.tmp 10) (.tmp 180) rfl (w.heap.size + 1) (CC c) rfl rfl _ CZ HS.out.tf.rs (by kernel_rfl) rfl (cc_one c) ?_; simp only [Act.put, List.setIfInBounds_toArray, List.set_cons_zero, List.set_cons_succ]; obtain ⟨r1, r2, r3⟩ := HS.out.tf.ret c; have HR := Lib.hid (And.intro r1 (And.intro r2 r3)); clear r1 r2 r3 HS; generalize World.setRow _ _ _ = W9 at HR ⊢))
  refine bodyPost_ret (res_caps rfl rfl HR.out.1 rfl) rfl ?_
  refine ⟨c, _, rfl, ?_, HR.out.2.1, HR.out.2.2⟩
  refine ⟨HC.out, ?_⟩
  rw [HRR.out]
  by_cases e : i = j
  · rw [if_pos e]; simp [e]
  · rw [if_neg e]; simp [e]; (try omega)
set_option maxRecDepth 100000 in
set_option maxHeartbeats 3200000 in
theorem look_2 (X : Par) (hX : X.Ok) (ia : Nat) (pr : Nat → Prop) (i j : Nat) (c : Caps) (w : World) (hij : i ≤ j) (hj : j ≤ X.N) (hc : CapsOk X.N c) (hM : MM X pr w) (nb no cap : Nat) (hv : X.v = .slice (some ⟨nb, no, none⟩) X.l.length cap) (hil : ia < X.l.length) (z : List Nat) (a b : Nat) (mn mx : Int) (m : Nat) (hN : NCell w nb (no + ia * 10) ⟨2, z, (a : Nat), (b : Nat), mn, mx, (m : Nat)⟩) (R : Option Caps) (hR : R = (if j = 0 then some c else none)) :
    Calls Tryz.prog 69 #[PT X.bm, E (ia : Nat), E (i : Nat), E (j : Nat), CV c] w (FitAns X pr w R) := by
  obtain ⟨c0, c1, c2, c3, c4⟩ := hM.facts
  rw [hv] at c0
  obtain ⟨q0, q1, q2, q3, q4, q5, q6, q7, q8, q9⟩ := hN
  have hbm := lt_heap' hM.hb
  have hbm2 : X.bm < w.heap.size + 1 := by omega
  have hbm3 : X.bm < w.heap.size + 1 + 1 := by omega
  have hnb : nb < w.heap.size := lt_cell q0
  have hnb2 : nb < w.heap.size + 1 := by omega
  have hnb3 : nb < w.heap.size + 1 + 1 := by omega
  have ha0 : (0 : Int) ≤ (ia : Int) := by omega
  have ha1 : (ia : Int) < (X.l.length : Int) := by omega
  have HT := Lib.hid (lf_start hM c ⟨2, z, (a : Nat), (b : Nat), mn, mx, (m : Nat)⟩)
  have HC := Lib.hid hc
  have HRR := Lib.hid hR
  clear hR
  have hlen := hX.len
  have HLEN := Lib.hid hlen
  clear hlen hM hX hc
  go_enter Tryz.func69, Tryz.ntmps69
  rw [show Code.region 2 = Fz 2 from rfl]
  go_wp2
  refine at_world (p := fun W => LF X pr w c ⟨2, z, (a : Nat), (b : Nat), mn, mx, (m : Nat)⟩ W) HT.out (fun W hW => ?_)
  have HS := Lib.hid hW
  clear hW HT c0 c1 c2 c3 c4 q0 q1 q2 q3 q4 q5 q6 q7 q8 q9 hbm hbm2 hbm3 hnb hnb2 hnb3 ha0 ha1
  rw [show Fz 2 = Code.region 2 from rfl]
  obtain ⟨x0, x1, x2, x3, x4, x5, x6, x7, x8, x9⟩ := node_cells HS.out.nb
  (try dsimp only at x0 x1 x2 x3 x4 x5 x6 x7 x8 x9)
  obtain ⟨m0, m1, m2, m3, m4⟩ := HS.out.tf.mm.facts
  go_wp2_with (first
    | (refine wpList_load_row rfl 27 (.tmp 9) rfl w.heap.size rfl _ (CC c) (0, 0) _ HS.out.tf.bx Tryz.underlying27 rfl (by kernel_rfl) ?_; simp only [Act.put, List.setIfInBounds_toArray, List.set_cons_zero, List.set_cons_succ])
    | (refine wpList_store_row rfl 27 (.tmp 10) (.tmp 51) rfl (w.heap.size + 1) (CC c) rfl rfl _ CZ HS.out.tf.rs (by kernel_rfl) rfl (cc_one c) ?_; simp only [Act.put, List.setIfInBounds_toArray, List.set_cons_zero, List.set_cons_succ]; obtain ⟨r1, r2, r3⟩ := HS.out.tf.ret c; have HR := Lib.hid (And.intro r1 (And.intro r2 r3)); clear r1 r2 r3 HS; generalize World.setRow _ _ _ = W9 at HR ⊢))
  refine bodyPost_ret (res_caps rfl rfl HR.out.1 rfl) rfl ?_
  refine ⟨c, _, rfl, ?_, HR.out.2.1, HR.out.2.2⟩
  refine ⟨HC.out, ?_⟩
  rw [HRR.out]
  by_cases e : j = 0
  · rw [if_pos e]; simp [e]
  · rw [if_neg e]; simp [e]; (try omega)
set_option maxRecDepth 100000 in
set_option maxHeartbeats 3200000 in
theorem look_1 (X : Par) (hX : X.Ok) (ia : Nat) (pr : Nat → Prop) (i j : Nat) (c : Caps) (w : World) (hij : i ≤ j) (hj : j ≤ X.N) (hc : CapsOk X.N c) (hM : MM X pr w) (nb no cap : Nat) (hv : X.v = .slice (some ⟨nb, no, none⟩) X.l.length cap) (hil : ia < X.l.length) (z : List Nat) (a b : Nat) (mn mx : Int) (m : Nat) (hN : NCell w nb (no + ia * 10) ⟨1, z, (a : Nat), (b : Nat), mn, mx, (m : Nat)⟩) (hz : Wf z) (R : Option Caps) (hR : R = (if j = i + 1 ∧ hasAt z X.T i = true then some c else none)) :
    Calls Tryz.prog 69 #[PT X.bm, E (ia : Nat), E (i : Nat), E (j : Nat), CV c] w (FitAns X pr w R) := by
  obtain ⟨c0, c1, c2, c3, c4⟩ := hM.facts
  rw [hv] at c0
  obtain ⟨q0, q1, q2, q3, q4, q5, q6, q7, q8, q9⟩ := hN
  have hbm := lt_heap' hM.hb
  have hbm2 : X.bm < w.heap.size + 1 := by omega
  have hbm3 : X.bm < w.heap.size + 1 + 1 := by omega
  have hnb : nb < w.heap.size := lt_cell q0
  have hnb2 : nb < w.heap.size + 1 := by omega
  have hnb3 : nb < w.heap.size + 1 + 1 := by omega
  have ha0 : (0 : Int) ≤ (ia : Int) := by omega
  have ha1 : (ia : Int) < (X.l.length : Int) := by omega
  have HT := Lib.hid (lf_start hM c ⟨1, z, (a : Nat), (b : Nat), mn, mx, (m : Nat)⟩)
  have HC := Lib.hid hc
  have HRR := Lib.hid hR
  clear hR
  have hlen := hX.len
  have HLEN := Lib.hid hlen
  have hw1 : IntKind.i64.wrap ((i : Int) + 1) = (i : Int) + 1 := by rw [IntKind.wrap_i64]; omega
  have hi0 : (0 : Int) ≤ (i : Int) := by omega
  have HJ := Lib.hid hj
  have HZ := Lib.hid hz
  clear hlen hM hX hc hz
  go_enter Tryz.func69, Tryz.ntmps69
  rw [show Code.region 2 = Fz 2 from rfl]
  go_wp2
  refine at_world (p := fun W => LF X pr w c ⟨1, z, (a : Nat), (b : Nat), mn, mx, (m : Nat)⟩ W) HT.out (fun W hW => ?_)
  have HS := Lib.hid hW
  clear hW HT c0 c1 c2 c3 c4 q0 q1 q2 q3 q4 q5 q6 q7 q8 q9 hbm hbm2 hbm3 hnb hnb2 hnb3 ha0 ha1
  rw [show Fz 2 = Code.region 2 from rfl]
  obtain ⟨x0, x1, x2, x3, x4, x5, x6, x7, x8, x9⟩ := node_cells HS.out.nb
  (try dsimp only at x0 x1 x2 x3 x4 x5 x6 x7 x8 x9)
  obtain ⟨m0, m1, m2, m3, m4⟩ := HS.out.tf.mm.facts
  have hsz : (ByteArray.mk X.T.toArray).size = X.T.length := by simp [ByteArray.size]
  by_cases hji : j = i + 1
  · have hq : ((j : Int) == (i : Int) + 1) = true := by rw [hji]; simp
    have hlt : i < X.T.length := by have := HJ.out; show i < X.N; omega
    have hlt' : (i : Int) < (X.T.length : Int) := by omega
    have hg := (show (ByteArray.mk X.T.toArray)[i]'(by rw [hsz]; exact hlt) = X.T[i] from rfl)
    have HHA := Lib.hid (show hasAt z X.T i = mem z (X.T[i]).toNat from by unfold hasAt; rw [List.getElem?_eq_getElem hlt])
    generalize X.T[i] = by0 at *
    have HHS := Lib.hid (fun W => (by have h1 := Go.Proofs.YtlicoffnjphphaaGreatDoor.St.has_any z by0 W HZ.out; rw [SV_eq HZ.out] at h1; exact h1 : Calls Tryz.prog 30 #[.agg #[U (word z 0), U (word z 1), U (word z 2), U (word z 3)], .int .u8 (by0.toNat : Int)] W fun e w' => e = .returned (.bool (mem z by0.toNat)) ∧ Below W.heap.size W w'))
    have HJI := Lib.hid hji
    clear hji
    go_wp2
    have HD := Lib.hid (HS.out.below (Below.refl _ _).drew)
    clear x0 x1 x2 x3 x4 x5 x6 x7 x8 x9 m0 m1 m2 m3 m4 HS
    refine wp_region_noPanic ?_
    refine wp_region_held_drew (S := fun w' => LW X w c ⟨1, z, (a : Nat), (b : Nat), mn, mx, (m : Nat)⟩ w') (by kernel_rfl) ?_ (fun hHeld => ?_)
    · (try dsimp only); exact HD.out.ls
    generalize World.drew _ = W4 at HD hHeld ⊢
    refine Tk.take 0 (hy := fun wv hSw => exec_load_row 27 (.tmp 9) rfl w.heap.size rfl _ (CC c) _ _ hSw.2.1 Tryz.underlying27 rfl (by kernel_rfl)) (h := ?_)
    refine Tk.take 1 (h := ?_)
    refine Tk.take 2 (h := ?_)
    refine Tk.take 3 (h := ?_)
    refine Tk.take 4 (h := ?_)
    refine Tk.take 5 (h := ?_)
    refine Tk.take 6 (h := ?_)
    refine Tk.fk (fun _ h => And.intro h.node h.bm) 7 (h := ?_)
    refine Tk.take 8 (h := ?_)
    refine Tk.take 9 (h := ?_)
    refine Tk.take 10 (h := ?_)
    refine Tk.fk (fun _ h => And.intro h.node h.bm) 11 (h := ?_)
    refine Tk.take 12 (h := ?_)
    refine Tk.take 13 (h := ?_)
    refine Tk.one 14 (h := fun K hK => ?_)
    go_simp
    (go_at_call 30; refine (HHS.out _).mono ?_; rintro e w6 ⟨rfl, hbl⟩; have HD2 := Lib.hid (HD.out.below hbl); clear HD)
    refine hK.out _ _ ?_ (fun hHeld => Tk.wrk ?_)
    · (try dsimp only); (exact HD2.out.ls)
    clear hK K
    refine Tk.take 15 (h := ?_)
    refine Tk.one 16 (h := fun K hK => ?_)
    refine step_store_row rfl 27 (.tmp 10) (.tmp 33) rfl (w.heap.size + 1) (CC c) rfl rfl _ CZ HD2.out.tf.rs (by kernel_rfl) rfl (cc_one c) ?_
    obtain ⟨r1, r2, r3⟩ := HD2.out.tf.ret c
    have r4 := HD2.out.ls_ret c
    have HR := Lib.hid (And.intro r1 (And.intro r2 r3))
    clear r1 r2 r3 HD2
    generalize World.setRow _ _ _ = W9 at HR r4 ⊢
    refine hK.out _ _ ?_ (fun hHeld => Tk.wrk ?_)
    · (try dsimp only); (exact r4)
    clear hK K
    refine Tk.take 17 (h := ?_)
    refine wpAnyH_done (by kernel_rfl) ?_ _
    refine NoPanic.normal ?_
    clear hHeld r4
    go_wp2
    refine bodyPost_ret (res_caps rfl rfl HR.out.1 rfl) rfl ?_
    refine ⟨c, _, rfl, ?_, HR.out.2.1, HR.out.2.2⟩
    refine ⟨HC.out, ?_⟩
    rw [HRR.out]
    rw [HHA.out]
    cases mem z by0.toNat
    · rw [if_neg (by simp)]
    · rw [if_pos ⟨HJI.out, rfl⟩]; exact ⟨rfl, rfl⟩
  · have hq : ((j : Int) == (i : Int) + 1) = false := by rw [beq_eq_false_iff_ne]; omega
    have HJI := Lib.hid hji
    clear hji
    go_wp2
    have HD := Lib.hid (HS.out.below (Below.refl _ _).drew)
    clear x0 x1 x2 x3 x4 x5 x6 x7 x8 x9 m0 m1 m2 m3 m4 HS
    refine wp_region_noPanic ?_
    refine wp_region_held_drew (S := fun w' => LW X w c ⟨1, z, (a : Nat), (b : Nat), mn, mx, (m : Nat)⟩ w') (by kernel_rfl) ?_ (fun hHeld => ?_)
    · (try dsimp only); exact HD.out.ls
    generalize World.drew _ = W4 at HD hHeld ⊢
    refine Tk.take 0 (hy := fun wv hSw => exec_load_row 27 (.tmp 9) rfl w.heap.size rfl _ (CC c) _ _ hSw.2.1 Tryz.underlying27 rfl (by kernel_rfl)) (h := ?_)
    refine Tk.take 1 (h := ?_)
    refine Tk.take 2 (h := ?_)
    refine Tk.take 3 (h := ?_)
    refine Tk.take 4 (h := ?_)
    refine Tk.take 5 (h := ?_)
    refine Tk.pass 6 (h := ?_)
    refine Tk.pass 7 (h := ?_)
    refine Tk.pass 8 (h := ?_)
    refine Tk.pass 9 (h := ?_)
    refine Tk.pass 10 (h := ?_)
    refine Tk.pass 11 (h := ?_)
    refine Tk.pass 12 (h := ?_)
    refine Tk.pass 13 (h := ?_)
    refine Tk.pass 14 (h := ?_)
    refine Tk.take 15 (h := ?_)
    refine Tk.one 16 (h := fun K hK => ?_)
    refine step_store_row rfl 27 (.tmp 10) (.tmp 33) rfl (w.heap.size + 1) (CC c) rfl rfl _ CZ HD.out.tf.rs (by kernel_rfl) rfl (cc_one c) ?_
    obtain ⟨r1, r2, r3⟩ := HD.out.tf.ret c
    have r4 := HD.out.ls_ret c
    have HR := Lib.hid (And.intro r1 (And.intro r2 r3))
    clear r1 r2 r3 HD
    generalize World.setRow _ _ _ = W9 at HR r4 ⊢
    refine hK.out _ _ ?_ (fun hHeld => Tk.wrk ?_)
    · (try dsimp only); (exact r4)
    clear hK K
    refine Tk.take 17 (h := ?_)
    refine wpAnyH_done (by kernel_rfl) ?_ _
    refine NoPanic.normal ?_
    clear hHeld r4
    go_wp2
    refine bodyPost_ret (res_caps rfl rfl HR.out.1 rfl) rfl ?_
    refine ⟨c, _, rfl, ?_, HR.out.2.1, HR.out.2.2⟩
    refine ⟨HC.out, ?_⟩
    rw [HRR.out]
    rw [if_neg (fun q => HJI.out q.1)]
set_option maxRecDepth 100000 in
set_option maxHeartbeats 3200000 in
theorem look_3 (X : Par) (hX : X.Ok) (ia : Nat) (pr : Nat → Prop) (i j : Nat) (c : Caps) (w : World) (hij : i ≤ j) (hj : j ≤ X.N) (hc : CapsOk X.N c) (hM : MM X pr w) (nb no cap : Nat) (hv : X.v = .slice (some ⟨nb, no, none⟩) X.l.length cap) (hil : ia < X.l.length) (z : List Nat) (a b : Nat) (mn mx : Int) (m : Nat) (hN : NCell w nb (no + ia * 10) ⟨3, z, (a : Nat), (b : Nat), mn, mx, (m : Nat)⟩) (R : Option Caps) (hR : R = (if i = X.T.length then some c else none)) :
    Calls Tryz.prog 69 #[PT X.bm, E (ia : Nat), E (i : Nat), E (j : Nat), CV c] w (FitAns X pr w R) := by
  obtain ⟨c0, c1, c2, c3, c4⟩ := hM.facts
  rw [hv] at c0
  obtain ⟨q0, q1, q2, q3, q4, q5, q6, q7, q8, q9⟩ := hN
  have hbm := lt_heap' hM.hb
  have hbm2 : X.bm < w.heap.size + 1 := by omega
  have hbm3 : X.bm < w.heap.size + 1 + 1 := by omega
  have hnb : nb < w.heap.size := lt_cell q0
  have hnb2 : nb < w.heap.size + 1 := by omega
  have hnb3 : nb < w.heap.size + 1 + 1 := by omega
  have ha0 : (0 : Int) ≤ (ia : Int) := by omega
  have ha1 : (ia : Int) < (X.l.length : Int) := by omega
  have HT := Lib.hid (lf_start hM c ⟨3, z, (a : Nat), (b : Nat), mn, mx, (m : Nat)⟩)
  have HC := Lib.hid hc
  have HRR := Lib.hid hR
  clear hR
  have hlen := hX.len
  have HLEN := Lib.hid hlen
  clear hlen hM hX hc
  go_enter Tryz.func69, Tryz.ntmps69
  rw [show Code.region 2 = Fz 2 from rfl]
  go_wp2
  refine at_world (p := fun W => LF X pr w c ⟨3, z, (a : Nat), (b : Nat), mn, mx, (m : Nat)⟩ W) HT.out (fun W hW => ?_)
  have HS := Lib.hid hW
  clear hW HT c0 c1 c2 c3 c4 q0 q1 q2 q3 q4 q5 q6 q7 q8 q9 hbm hbm2 hbm3 hnb hnb2 hnb3 ha0 ha1
  rw [show Fz 2 = Code.region 2 from rfl]
  obtain ⟨x0, x1, x2, x3, x4, x5, x6, x7, x8, x9⟩ := node_cells HS.out.nb
  (try dsimp only at x0 x1 x2 x3 x4 x5 x6 x7 x8 x9)
  obtain ⟨m0, m1, m2, m3, m4⟩ := HS.out.tf.mm.facts
  go_wp2
  have HD := Lib.hid (HS.out.below (Below.refl _ _).drew)
  clear x0 x1 x2 x3 x4 x5 x6 x7 x8 x9 m0 m1 m2 m3 m4 HS
  refine wp_region_noPanic ?_
  refine wp_region_held_drew (S := fun w' => LW X w c ⟨3, z, (a : Nat), (b : Nat), mn, mx, (m : Nat)⟩ w') (by kernel_rfl) ?_ (fun hHeld => ?_)
  · (try dsimp only); exact HD.out.ls
  generalize World.drew _ = W4 at HD hHeld ⊢
  refine Tk.take 0 (hy := fun wv hSw => exec_load_row 27 (.tmp 9) rfl w.heap.size rfl _ (CC c) _ _ hSw.2.1 Tryz.underlying27 rfl (by kernel_rfl)) (h := ?_)
  refine Tk.take 1 (h := ?_)
  refine Tk.take 2 (h := ?_)
  refine Tk.take 3 (h := ?_)
  refine Tk.take 4 (h := ?_)
  refine Tk.fk (fun _ h => And.intro h.node h.bm) 5 (h := ?_)
  refine Tk.take 6 (h := ?_)
  refine Tk.take 7 (h := ?_)
  refine Tk.one 8 (h := fun K hK => ?_)
  refine step_store_row rfl 27 (.tmp 10) (.tmp 56) rfl (w.heap.size + 1) (CC c) rfl rfl _ CZ HD.out.tf.rs (by kernel_rfl) rfl (cc_one c) ?_
  obtain ⟨r1, r2, r3⟩ := HD.out.tf.ret c
  have r4 := HD.out.ls_ret c
  have HR := Lib.hid (And.intro r1 (And.intro r2 r3))
  clear r1 r2 r3 HD
  generalize World.setRow _ _ _ = W9 at HR r4 ⊢
  refine hK.out _ _ ?_ (fun hHeld => Tk.wrk ?_)
  · (try dsimp only); (exact r4)
  clear hK K
  refine Tk.take 9 (h := ?_)
  refine wpAnyH_done (by kernel_rfl) ?_ _
  refine NoPanic.normal ?_
  clear hHeld r4
  go_wp2
  refine bodyPost_ret (res_caps rfl rfl HR.out.1 rfl) rfl ?_
  refine ⟨c, _, rfl, ?_, HR.out.2.1, HR.out.2.2⟩
  refine ⟨HC.out, ?_⟩
  rw [HRR.out]
  by_cases e : i = X.T.length
  · rw [if_pos e]; simp [e]
  · rw [if_neg e]; simp [e]; (try omega)
set_option maxRecDepth 100000 in
set_option maxHeartbeats 3200000 in
theorem look_4 (X : Par) (hX : X.Ok) (ia : Nat) (pr : Nat → Prop) (i j : Nat) (c : Caps) (w : World) (hij : i ≤ j) (hj : j ≤ X.N) (hc : CapsOk X.N c) (hM : MM X pr w) (nb no cap : Nat) (hv : X.v = .slice (some ⟨nb, no, none⟩) X.l.length cap) (hil : ia < X.l.length) (z : List Nat) (a b : Nat) (mn mx : Int) (m : Nat) (hN : NCell w nb (no + ia * 10) ⟨4, z, (a : Nat), (b : Nat), mn, mx, (m : Nat)⟩) (x y : Tr) (HFx : FitOk X x a) (HFy : FitOk X y b) (R : Option Caps) (hR : R = down (fun k => (fitP X.T x i k c).bind fun q => fitP X.T y k j q) i (j - i)) :
    Calls Tryz.prog 69 #[PT X.bm, E (ia : Nat), E (i : Nat), E (j : Nat), CV c] w (FitAns X pr w R) := by
  obtain ⟨c0, c1, c2, c3, c4⟩ := hM.facts
  rw [hv] at c0
  obtain ⟨q0, q1, q2, q3, q4, q5, q6, q7, q8, q9⟩ := hN
  have hbm := lt_heap' hM.hb
  have hbm2 : X.bm < w.heap.size + 1 := by omega
  have hbm3 : X.bm < w.heap.size + 1 + 1 := by omega
  have hnb : nb < w.heap.size := lt_cell q0
  have hnb2 : nb < w.heap.size + 1 := by omega
  have hnb3 : nb < w.heap.size + 1 + 1 := by omega
  have ha0 : (0 : Int) ≤ (ia : Int) := by omega
  have ha1 : (ia : Int) < (X.l.length : Int) := by omega
  have HT := Lib.hid (lf_start hM c ⟨4, z, (a : Nat), (b : Nat), mn, mx, (m : Nat)⟩)
  have HC := Lib.hid hc
  have HRR := Lib.hid hR
  clear hR
  have hlen := hX.len
  have HLEN := Lib.hid hlen
  have HFa := Lib.hid HFx
  have HFb := Lib.hid HFy
  clear hlen hM hX hc HFx HFy
  go_enter Tryz.func69, Tryz.ntmps69
  rw [show Code.region 2 = Fz 2 from rfl]
  go_wp2
  refine at_world (p := fun W => LF X pr w c ⟨4, z, (a : Nat), (b : Nat), mn, mx, (m : Nat)⟩ W) HT.out (fun W hW => ?_)
  have HS := Lib.hid hW
  clear hW HT c0 c1 c2 c3 c4 q0 q1 q2 q3 q4 q5 q6 q7 q8 q9 hbm hbm2 hbm3 hnb hnb2 hnb3 ha0 ha1
  rw [show Fz 2 = Code.region 2 from rfl]
  obtain ⟨x0, x1, x2, x3, x4, x5, x6, x7, x8, x9⟩ := node_cells HS.out.nb
  (try dsimp only at x0 x1 x2 x3 x4 x5 x6 x7 x8 x9)
  obtain ⟨m0, m1, m2, m3, m4⟩ := HS.out.tf.mm.facts
  obtain ⟨G, hG⟩ : ∃ G, G = (fun k => (fitP X.T x i k c).bind fun q => fitP X.T y k j q) := ⟨_, rfl⟩
  have HGG := Lib.hid hG
  have HR2 := Lib.hid (show R = down G i (j - i) from by rw [HRR.out, hG])
  clear hG HRR
  go_wp2
  clear x0 x1 x2 x3 x4 x5 x6 x7 x8 x9 m0 m1 m2 m3 m4
  go_loopg [17] (j - i + 1) (fun n kv wr => n ≤ j - i + 1 ∧ ∃ k : Int, k = (i : Int) + (n : Int) - 1 ∧ kv = .int .i64 k ∧ Hid (dn G i n = down G i (j - i)) ∧ Hid (LF X pr w c ⟨4, z, (a : Nat), (b : Nat), mn, mx, (m : Nat)⟩ wr))
  case atStart => exact ⟨Nat.le_refl _, (j : Int), by omega, rfl, Lib.hid (down_dn G i (j - i)).symm, HS⟩
  case round =>
    clear HS
    obtain ⟨hn, k, hk, rfl, HG, HV⟩ := hrel
    cases gk with
    | zero =>
      have hlt : ¬ ((i : Int) ≤ k) := by omega
      clear hk
      go_wp2_with (first
        | (refine wpList_load_row rfl 27 (.tmp 9) rfl w.heap.size rfl _ (CC c) (0, 0) _ HV.out.tf.bx Tryz.underlying27 rfl (by kernel_rfl) ?_; simp only [Act.put, List.setIfInBounds_toArray, List.set_cons_zero, List.set_cons_succ])
        | (refine wpList_store_row rfl 27 (.tmp 10) (.tmp 169) rfl (w.heap.size + 1) (CC c) rfl rfl _ CZ HV.out.tf.rs (by kernel_rfl) rfl (cc_one c) ?_; simp only [Act.put, List.setIfInBounds_toArray, List.set_cons_zero, List.set_cons_succ]; obtain ⟨r1, r2, r3⟩ := HV.out.tf.ret c; have HR := Lib.hid (And.intro r1 (And.intro r2 r3)); clear r1 r2 r3 HV; generalize World.setRow _ _ _ = W9 at HR ⊢))
      refine bodyPost_ret (res_caps rfl rfl HR.out.1 rfl) rfl ?_
      refine ⟨c, false, rfl, ?_, HR.out.2.1, HR.out.2.2⟩
      rw [HR2.out, ← HG.out]
      exact ⟨HC.out, rfl⟩
    | succ n =>
      obtain ⟨q, hq⟩ : ∃ q, q = i + n := ⟨_, rfl⟩
      obtain rfl : k = (q : Int) := by omega
      have hle : (i : Int) ≤ (q : Int) := by omega
      have hlt : ¬ ((q : Int) < (i : Int)) := by omega
      have hwq : IntKind.i64.wrap ((q : Int) - 1) = (q : Int) - 1 := by rw [IntKind.wrap_i64]; have := HLEN.out; omega
      have HQ := Lib.hid (show i ≤ q ∧ q ≤ j ∧ q ≤ X.N ∧ q = i + n ∧ n ≤ j - i + 1 from ⟨by omega, by omega, by omega, hq, by omega⟩)
      have HDN := Lib.hid (show (match G q with | some a => some a | none => dn G i n) = down G i (j - i) from by rw [← HG.out, hq, dn_succ]; cases G (i + n) <;> rfl)
      clear hk hq hn HG
      obtain ⟨x0, x1, x2, x3, x4, x5, x6, x7, x8, x9⟩ := node_cells HV.out.nb
      (try dsimp only at x0 x1 x2 x3 x4 x5 x6 x7 x8 x9)
      cases hf1 : fitP X.T x i q c with
      | none =>
        have HGQ := Lib.hid (show G q = none from by rw [HGG.out]; dsimp only; rw [hf1]; rfl)
        go_wp2_with (first
          | (refine wpList_load_row rfl 27 (.tmp 9) rfl w.heap.size rfl _ (CC c) (0, 0) _ HV.out.tf.bx Tryz.underlying27 rfl (by kernel_rfl) ?_; simp only [Act.put, List.setIfInBounds_toArray, List.set_cons_zero, List.set_cons_succ])
          | (go_at_call 47; have hq := HFa.out _ i q c _ HQ.out.1 HQ.out.2.2.1 HC.out HV.out.tf.mm; refine hq.mono ?_; clear hq; rintro e w2 ⟨a1, b1, rfl, hl, hm, hk⟩; have HS2 := Lib.hid (HV.out.call hm hk); have HLE := Lib.hid hl; clear hl hm HV HFa x0 x1 x2 x3 x4 x5 x6 x7 x8 x9; rw [hf1] at HLE; obtain ⟨hca, hb1⟩ := HLE.out; subst hb1; have HCA1 := Lib.hid hca; clear hca HLE; clear hk)
          | (refine wpList_store_row rfl 27 (.tmp 18) (.tmp 154) rfl _ (CC a1) rfl rfl _ CZ (heap_alloc_new _ _) (by kernel_rfl) rfl (cc_one a1) ?_; simp only [Act.put, List.setIfInBounds_toArray, List.set_cons_zero, List.set_cons_succ]; rw [box_laid]; obtain ⟨r1, r2, r3⟩ := HS2.out.box a1; have HS3 := Lib.hid r1; have HB := Lib.hid (And.intro r2 r3); clear r1 r2 r3 HS2; generalize World.alloc _ _ = W3 at HS3 HB ⊢; obtain ⟨x0, x1, x2, x3, x4, x5, x6, x7, x8, x9⟩ := node_cells HS3.out.nb; (try dsimp only at x0 x1 x2 x3 x4 x5 x6 x7 x8 x9)))
        clear x0 x1 x2 x3 x4 x5 x6 x7 x8 x9
        rw [HGQ.out] at HDN
        go_roundg n
        case measure => omega
        case rel => exact ⟨by have := HQ.out; omega, _, by have := HQ.out; omega, rfl, HDN, HS3⟩
      | some a0 =>
        have HGQ := Lib.hid (show G q = fitP X.T y q j a0 from by rw [HGG.out]; dsimp only; rw [hf1]; rfl)
        have HFb2 := Lib.hid HFb.out
        cases hf2 : fitP X.T y q j a0 with
        | none =>
          go_wp2_with (first
            | (refine wpList_load_row rfl 27 (.tmp 9) rfl w.heap.size rfl _ (CC c) (0, 0) _ HV.out.tf.bx Tryz.underlying27 rfl (by kernel_rfl) ?_; simp only [Act.put, List.setIfInBounds_toArray, List.set_cons_zero, List.set_cons_succ])
            | (go_at_call 47; have hq := HFa.out _ i q c _ HQ.out.1 HQ.out.2.2.1 HC.out HV.out.tf.mm; refine hq.mono ?_; clear hq; rintro e w2 ⟨a1, b1, rfl, hl, hm, hk⟩; have HS2 := Lib.hid (HV.out.call hm hk); have HLE := Lib.hid hl; clear hl hm HV HFa x0 x1 x2 x3 x4 x5 x6 x7 x8 x9; rw [hf1] at HLE; obtain ⟨hca, hb1, ha1⟩ := HLE.out; subst hb1; subst ha1; have HCA1 := Lib.hid hca; clear hca HLE; clear hk)
            | (refine wpList_store_row rfl 27 (.tmp 18) (.tmp 154) rfl _ (CC a1) rfl rfl _ CZ (heap_alloc_new _ _) (by kernel_rfl) rfl (cc_one a1) ?_; simp only [Act.put, List.setIfInBounds_toArray, List.set_cons_zero, List.set_cons_succ]; rw [box_laid]; obtain ⟨r1, r2, r3⟩ := HS2.out.box a1; have HS3 := Lib.hid r1; have HB := Lib.hid (And.intro r2 r3); clear r1 r2 r3 HS2; generalize World.alloc _ _ = W3 at HS3 HB ⊢; obtain ⟨x0, x1, x2, x3, x4, x5, x6, x7, x8, x9⟩ := node_cells HS3.out.nb; (try dsimp only at x0 x1 x2 x3 x4 x5 x6 x7 x8 x9))
            | (refine wpList_load_row rfl 27 (.tmp 18) rfl w2.heap.size rfl _ (CC a1) (0, 0) _ HB.out.1 Tryz.underlying27 rfl (by kernel_rfl) ?_; simp only [Act.put, List.setIfInBounds_toArray, List.set_cons_zero, List.set_cons_succ])
            | (go_at_call 47; have hq := HFb.out _ q j a1 _ HQ.out.2.1 hj HCA1.out HS3.out.tf.mm; refine hq.mono ?_; clear hq; rintro e w4 ⟨a2, b2, rfl, hl, hm, hk⟩; have HS4 := Lib.hid (HS3.out.call hm hk); have HLE := Lib.hid hl; clear hl hm HS3 HFb x0 x1 x2 x3 x4 x5 x6 x7 x8 x9; rw [hf2] at HLE; obtain ⟨hca, hb1⟩ := HLE.out; subst hb1; have HCA2 := Lib.hid hca; clear hca HLE; clear hk)
            | (refine wpList_store_row rfl 27 (.tmp 20) (.tmp 165) rfl _ (CC a2) rfl rfl _ CZ (heap_alloc_new _ _) (by kernel_rfl) rfl (cc_one a2) ?_; simp only [Act.put, List.setIfInBounds_toArray, List.set_cons_zero, List.set_cons_succ]; rw [box_laid]; obtain ⟨r1, r2, r3⟩ := HS4.out.box a2; have HS5 := Lib.hid r1; have HB2 := Lib.hid (And.intro r2 r3); clear r1 r2 r3 HS4; generalize World.alloc _ _ = W5 at HS5 HB2 ⊢))
          rw [HGQ.out, hf2] at HDN
          go_roundg n
          case measure => omega
          case rel => exact ⟨by have := HQ.out; omega, _, by have := HQ.out; omega, rfl, HDN, HS5⟩
        | some a9 =>
          go_wp2_with (first
            | (refine wpList_load_row rfl 27 (.tmp 9) rfl w.heap.size rfl _ (CC c) (0, 0) _ HV.out.tf.bx Tryz.underlying27 rfl (by kernel_rfl) ?_; simp only [Act.put, List.setIfInBounds_toArray, List.set_cons_zero, List.set_cons_succ])
            | (go_at_call 47; have hq := HFa.out _ i q c _ HQ.out.1 HQ.out.2.2.1 HC.out HV.out.tf.mm; refine hq.mono ?_; clear hq; rintro e w2 ⟨a1, b1, rfl, hl, hm, hk⟩; have HS2 := Lib.hid (HV.out.call hm hk); have HLE := Lib.hid hl; clear hl hm HV HFa x0 x1 x2 x3 x4 x5 x6 x7 x8 x9; rw [hf1] at HLE; obtain ⟨hca, hb1, ha1⟩ := HLE.out; subst hb1; subst ha1; have HCA1 := Lib.hid hca; clear hca HLE; clear hk)
            | (refine wpList_store_row rfl 27 (.tmp 18) (.tmp 154) rfl _ (CC a1) rfl rfl _ CZ (heap_alloc_new _ _) (by kernel_rfl) rfl (cc_one a1) ?_; simp only [Act.put, List.setIfInBounds_toArray, List.set_cons_zero, List.set_cons_succ]; rw [box_laid]; obtain ⟨r1, r2, r3⟩ := HS2.out.box a1; have HS3 := Lib.hid r1; have HB := Lib.hid (And.intro r2 r3); clear r1 r2 r3 HS2; generalize World.alloc _ _ = W3 at HS3 HB ⊢; obtain ⟨x0, x1, x2, x3, x4, x5, x6, x7, x8, x9⟩ := node_cells HS3.out.nb; (try dsimp only at x0 x1 x2 x3 x4 x5 x6 x7 x8 x9))
            | (refine wpList_load_row rfl 27 (.tmp 18) rfl w2.heap.size rfl _ (CC a1) (0, 0) _ HB.out.1 Tryz.underlying27 rfl (by kernel_rfl) ?_; simp only [Act.put, List.setIfInBounds_toArray, List.set_cons_zero, List.set_cons_succ])
            | (go_at_call 47; have hq := HFb.out _ q j a1 _ HQ.out.2.1 hj HCA1.out HS3.out.tf.mm; refine hq.mono ?_; clear hq; rintro e w4 ⟨a2, b2, rfl, hl, hm, hk⟩; have HS4 := Lib.hid (HS3.out.call hm hk); have HLE := Lib.hid hl; clear hl hm HS3 HFb x0 x1 x2 x3 x4 x5 x6 x7 x8 x9; rw [hf2] at HLE; obtain ⟨hca, hb1, ha1⟩ := HLE.out; subst hb1; subst ha1; have HCA2 := Lib.hid hca; clear hca HLE; clear hk)
            | (refine wpList_store_row rfl 27 (.tmp 20) (.tmp 165) rfl _ (CC a2) rfl rfl _ CZ (heap_alloc_new _ _) (by kernel_rfl) rfl (cc_one a2) ?_; simp only [Act.put, List.setIfInBounds_toArray, List.set_cons_zero, List.set_cons_succ]; rw [box_laid]; obtain ⟨r1, r2, r3⟩ := HS4.out.box a2; have HS5 := Lib.hid r1; have HB2 := Lib.hid (And.intro r2 r3); clear r1 r2 r3 HS4; generalize World.alloc _ _ = W5 at HS5 HB2 ⊢)
            | (refine wpList_load_row rfl 27 (.tmp 20) rfl w4.heap.size rfl _ (CC a2) (0, 0) _ HB2.out.1 Tryz.underlying27 rfl (by kernel_rfl) ?_; simp only [Act.put, List.setIfInBounds_toArray, List.set_cons_zero, List.set_cons_succ])
            | (refine wpList_store_row rfl 27 (.tmp 10) (.tmp 168) rfl (w.heap.size + 1) (CC a2) rfl rfl _ CZ HS5.out.tf.rs (by kernel_rfl) rfl (cc_one a2) ?_; simp only [Act.put, List.setIfInBounds_toArray, List.set_cons_zero, List.set_cons_succ]; obtain ⟨r1, r2, r3⟩ := HS5.out.tf.ret a2; have HR := Lib.hid (And.intro r1 (And.intro r2 r3)); clear r1 r2 r3 HS5; generalize World.setRow _ _ _ = W9 at HR ⊢))
          refine bodyPost_ret (res_caps rfl rfl HR.out.1 rfl) rfl ?_
          refine ⟨a2, true, rfl, ?_, HR.out.2.1, HR.out.2.2⟩
          rw [HR2.out, ← HDN.out, HGQ.out, hf2]
          exact ⟨HCA2.out, rfl, rfl⟩
end Go.Proofs.YtlicoffnjphphaaGreatDoor.Mt
