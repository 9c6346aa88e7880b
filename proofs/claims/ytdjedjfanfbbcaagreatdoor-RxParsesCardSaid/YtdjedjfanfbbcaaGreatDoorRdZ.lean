/- The document's reading of a node: the walk of a set. The document's read and Parse: whole. Patterns: RxParses: the walk. -/
import Derived.Test.YtdjedjfanfbbcaaGreatDoorRdW
import Derived.Test.YtdjedjfanfbbcaaGreatDoorSmA
import Derived.Test.YtdjedjfanfbbcaaGreatDoorRrD
import Derived.Test.YtdjedjfanfbbcaaGreatDoorRxR1
import Derived.Test.YtdjedjfanfbbcaaGreatDoorTk
import Derived.Test.YtdjedjfanfbbcaaGreatDoorRrZ
import Derived.Test.YtdjedjfanfbbcaaGreatDoorRxP
import Derived.Test.YtdjedjfanfbbcaaGreatDoorRxSh
namespace Go.Proofs.YtdjedjfanfbbcaaGreatDoor.Rx
open Go.RowKit Go.Shelf
open Go.Proofs.YtdjedjfanfbbcaaGreatDoor.St (Wf word zeroW Tab SV SV_eq BB bc FF bc_congr bc_one bc_size zero_at mem BV size_at refWords_any)
set_option linter.unusedVariables false
set_option linter.unusedSimpArgs false
/-- A node, the row, and a row of truths, while a set is read. -/
structure SG (w0 w1 : World) (v1 : Value) (n : Nd) (l : List Nd) (v : Value) (f : Nat → Bool) (w : World) : Prop where
  sn : SN w0 w1 v1 n l v w
  bb : BB w (w1.heap.size + 1) f
  ob : v.ownBlock ≠ some (w1.heap.size + 1)
section
variable {w0 w1 w w' : World} {v1 v : Value} {n : Nd} {l : List Nd} {f g : Nat → Bool}
theorem SG.below (h : SG w0 w1 v1 n l v f w) (hb : Below w.heap.size w w') : SG w0 w1 v1 n l v f w' :=
  ⟨h.sn.below hb, (hb.block _ (lt_heap' h.bb)).trans h.bb, h.ob⟩
theorem SN.far (h : SN w0 w1 v1 n l v w) {b : Nat} (hb : w1.heap.size < b) (ob : v.ownBlock ≠ some b) (i : Nat) (u : Value) : SN w0 w1 v1 n l v (w.setCell ⟨b, i, none⟩ u) := by
  have h01 := h.h01
  refine ⟨⟨ownsRow_setCell_other h.ro.own ob _, h.ro.bel.setCell (by show w0.heap.size ≤ b; omega) _⟩, ?_, setne h.nb (by omega), h.own, h.h01⟩
  refine ⟨by simpa using h.kd.size, fun k h1 h2 => ?_⟩
  obtain ⟨e1, e2⟩ := h.kd.far k h1 h2
  exact ⟨(Below.heap_setCell w ⟨b, i, none⟩ u k (by show k ≠ b; omega)).trans e1, e2⟩
theorem SG.put (h : SG w0 w1 v1 n l v f w) {k : Nat} {x : Bool} (hg : ∀ i, i < 256 → g i = if i = k then x else f i) : SG w0 w1 v1 n l v g (w.setCell ⟨w1.heap.size + 1, k, none⟩ (.bool x)) :=
  ⟨h.sn.far (Nat.lt_succ_self _) h.ob k _, Go.Proofs.YtdjedjfanfbbcaaGreatDoor.St.BB.put h.bb hg, h.ob⟩
theorem SG.congr (h : SG w0 w1 v1 n l v f w) (hg : ∀ i, i < 256 → g i = f i) : SG w0 w1 v1 n l v g w :=
  ⟨h.sn, by have := h.bb; unfold BB at *; rw [bc_congr hg]; exact this, h.ob⟩
theorem sg_start (h : SN w0 w1 v1 n l v w) (hs : w.heap.size = w1.heap.size + 1) (hv : ∀ k, w1.heap.size ≤ k → v.ownBlock ≠ some k) :
    SG w0 w1 v1 n l v FF (w.alloc (.cells (bc FF) 72)) :=
  ⟨h.below ((Below.refl _ _).alloc (Nat.le_refl _) _), by rw [← hs]; exact heap_alloc_new _ _, hv _ (by omega)⟩
end
theorem ro_far {w0 w : World} {l : List Nd} {v : Value} (h : RO w0 l v w) : ∀ k, w.heap.size ≤ k → v.ownBlock ≠ some k := by
  intro k hk q
  rcases own_forms h.own with ⟨rfl, _⟩ | ⟨g, cap, rfl, _⟩
  · cases q
  · have h3 := (h.own.lt g rfl).2
    simp only [Value.ownBlock, Option.some.injEq] at q
    omega
theorem one_cut {l : List UInt8} {q : Nat} (h : q + 1 < l.length) : (⟨l.toArray⟩ : ByteArray).extract q (q + 2) = ⟨#[l[q], l[q + 1]]⟩ := by
  rw [ex_midR, List.drop_eq_getElem_cons (by omega), List.drop_eq_getElem_cons h]
  rfl
theorem wf_list {ws : List Nat} (h : Wf ws) : [word ws 0, word ws 1, word ws 2, word ws 3] = ws := by
  have hl := h.len
  match ws, hl with
  | [a, b, c, d], _ => rfl
def fK (f : Nat → Bool) (c d : UInt8) (k : Nat) : Nat → Bool := fun j => f j || (decide (j < k) && decide (hexB (UInt8.ofNat j) = [c, d]))
theorem fK_next {f : Nat → Bool} {c d : UInt8} {k : Nat} {u : UInt8} (hu : UInt8.ofNat k = u) : (hexB u = [c, d] → ∀ i, fK f c d (k + 1) i = if i = k then true else fK f c d k i) ∧ (hexB u ≠ [c, d] → ∀ i, fK f c d (k + 1) i = fK f c d k i) := by
  subst hu
  constructor
  · intro h i
    unfold fK
    by_cases e : i = k
    · subst e; simp [h]
    · rw [if_neg e]
      congr 2
      rw [Bool.eq_iff_iff, decide_eq_true_eq, decide_eq_true_eq]; omega
  · intro h i
    unfold fK
    by_cases e : i = k
    · subst e; simp [h]
    · congr 2
      rw [Bool.eq_iff_iff, decide_eq_true_eq, decide_eq_true_eq]; omega
theorem fK_zero (f : Nat → Bool) (c d : UInt8) : ∀ i, fK f c d 0 i = f i := fun i => by simp [fK]
theorem fK_all (f : Nat → Bool) (c d : UInt8) : ∀ i, i < 256 → pairB f c d i = fK f c d 256 i := fun i hi => by simp [fK, pairB, hi]
theorem hex_one (d : UInt8) (W : World) : Calls Tryz.prog 41 #[S [d]] W fun e w' => e = .returned (S (hexB d)) ∧ Below W.heap.size W w' := by
  have := hex_any [d] (by simp) W
  rw [show [d].flatMap hexB = hexB d from by simp] at this
  exact this
theorem words_row (f : Nat → Bool) (W : World) : Calls Tryz.prog 33 #[BV f] W fun e w' => e = .returned (.agg #[U (word (wsOf f) 0), U (word (wsOf f) 1), U (word (wsOf f) 2), U (word (wsOf f) 3)]) ∧ Below W.heap.size W w' := by
  have := refWords_any (wsOf f) W (wf_wsOf f)
  rw [show BV (mem (wsOf f)) = BV f from congrArg Value.agg (bc_congr fun i hi => mem_wsOf f hi), SV_eq (wf_wsOf f)] at this
  exact this
set_option maxRecDepth 100000 in
set_option maxHeartbeats 3200000 in
theorem read_s (w0 : World) (s : List UInt8) (k p d : Nat) (c : UInt8) (t : List UInt8) (l : List Nd) (g : Int) (v : Value) (w : World) (h : RO w0 l v w) (hp : p < s.length) (hc : s[p] = c) (ht : s.drop (p + 1) = t) (hd : d + (k + 1) = 131) (hlen : l.length + (s.length - p) ≤ 100000) (hs : s.length ≤ 100000) (hg0 : 0 ≤ g) (hg1 : g + ((s.length - p : Nat) : Int) ≤ 100000) (IH : ReadOk w0 s k) 
    (k0 : c = 91) :
    Calls Tryz.prog 22 #[S s, E (p : Nat), v, E g, E (d : Nat)] w (ReadAns w0 s.length v w (readB (readR k) c t l g)) := by
  obtain ⟨ao, cap, rfl⟩ : ∃ ao cap, v = .slice ao l.length cap := own_slice h.own
  obtain ⟨i0, hi, hz0, hz1, hz2⟩ := info_parts infoRd
  have hsz : (ByteArray.mk s.toArray).size = s.length := by simp [ByteArray.size]
  have hx : (ByteArray.mk s.toArray)[p]'(by rw [hsz]; exact hp) = c := hc
  have htl : t.length = s.length - (p + 1) := by rw [← ht, List.length_drop]
  have hlt' : ((p : Nat) : Int) < ((s.length : Nat) : Int) := by omega
  have hge' : ¬ ((s.length : Nat) : Int) ≤ ((p : Nat) : Int) := by omega
  have hd' : ¬ (130 : Int) < ((d : Nat) : Int) := by omega
  have hp1 : IntKind.i64.wrap ((p : Int) + 1) = (p : Int) + 1 := by rw [IntKind.wrap_i64]; omega
  have HS0 := Lib.hid (sn_start h)
  have hown0 := h.own
  have HPQ := Lib.hid (show l.length + 1 ≤ 200000 by omega)
  have HV := Lib.hid (ro_far h)
  have HO1 := Lib.hid (show readB (readR k) c t l g = (pairsR t FF).bind fun p => some (l ++ [⟨1, wsOf p.1, 0, 0, 0, 0, 0⟩], g, p.2) from by subst k0; rfl)
  generalize hres : readB (readR k) c t l g = ans at *
  generalize hprs : pairsR t FF = prs at *
  have HPR := Lib.hid hprs
  have HT := Lib.hid ht
  have hz := zero_at
  have HI := Lib.hid (fun (k : Nat) (h : k < s.length) => show (ByteArray.mk s.toArray)[k]'(by rw [hsz]; exact h) = s[k] from rfl)
  clear hd hlen hg0 hg1 IH ht hc h htl hres hprs
  subst k0
  go_enter Tryz.func22, Tryz.ntmps22
  rw [show Code.region 4 = Fz 4 from rfl, show Code.region 15 = Fz 15 from rfl, show Code.region 16 = Fz 16 from rfl, show Code.region 26 = Fz 26 from rfl, show Code.region 27 = Fz 27 from rfl]
  go_wp2
  refine at_world (p := fun W => SN w0 w _ N0 l _ W ∧ W.heap.size = w.heap.size + 1) ⟨HS0.out, by simp⟩ (fun W hW => ?_)
  have HS1 := Lib.hid hW.1
  have hWs := hW.2
  clear hW HS0
  rw [show Fz 4 = Code.region 4 from rfl]
  obtain ⟨⟨x0, x1, x2, x3, x4, x5, x6, x7, x8, x9⟩, xz⟩ := HS1.out.cells
  (try dsimp only at x0 x1 x2 x3 x4 x5 x6 x7 x8 x9)
  have HSa := Lib.hid (HS1.out.node (i := 0) (u := E 1) (m := ⟨1, z4, 0, 0, 0, 0, 0⟩) rfl)
  go_wp2
  refine at_world (p := fun W => SN w0 w _ ⟨1, z4, 0, 0, 0, 0, 0⟩ l _ W ∧ W.heap.size = w.heap.size + 1) ⟨HSa.out, by simpa using hWs⟩ (fun W0 hW => ?_)
  clear HSa HS1 hWs x0 x1 x2 x3 x4 x5 x6 x7 x8 x9 xz W
  have HS2 := Lib.hid hW.1
  have hWs := hW.2
  clear hW
  rw [show Fz 15 = Code.region 15 from rfl]
  have hsc := run_storeCells_new (P := Tryz.prog) W0 72 (bc FF) (bc FF) (by rw [bc_size]; kernel_rfl) rfl (bc_one _)
  rw [hWs] at hsc
  have hn := bc_size FF
  go_wp2
  clear hsc hn hz
  refine at_world (p := fun W => SG w0 w _ ⟨1, z4, 0, 0, 0, 0, 0⟩ l _ FF W) (sg_start HS2.out hWs HV.out) (fun W1 hW => ?_)
  have HG := Lib.hid hW
  clear hW HS2 hWs HV W0
  rw [show Fz 16 = Code.region 16 from rfl]
  go_wp2
  go_loopw [15] (fun i wr => ∃ (q : Nat) (f : Nat → Bool), p < q ∧ q ≤ s.length ∧ i = .int .i64 (q : Nat) ∧ Hid (pairsR (s.drop q) f = prs) ∧ Hid (SG w0 w (.slice ao l.length cap) ⟨1, z4, 0, 0, 0, 0, 0⟩ l (.slice ao l.length cap) f wr)) (fun i _ => s.length - (intOf i).toNat)
  case atStart => exact ⟨p + 1, FF, by omega, by omega, by go_num, Lib.hid ((congrArg (fun x => pairsR x FF) HT.out).trans HPR.out), HG⟩
  case round =>
  clear HG HPR
  obtain ⟨q, f, hpq, hq, rfl, HPR, HS⟩ := hrel
  by_cases hq1 : q + 1 < s.length
  · have hlt1 : (q : Int) + 1 < ((s.length : Nat) : Int) := by omega
    have hltq : (q : Int) < ((s.length : Nat) : Int) := by omega
    have hgeq : ¬ ((s.length : Nat) : Int) ≤ (q : Int) := by omega
    have hg0 := HI.out q (by omega)
    have hw1 : IntKind.i64.wrap ((q : Int) + 1) = (q : Int) + 1 := by rw [IntKind.wrap_i64]; omega
    have hcut := one_cut hq1
    have hd0 : s.drop q = s[q] :: s[q + 1] :: s.drop (q + 2) := by rw [List.drop_eq_getElem_cons (by omega), List.drop_eq_getElem_cons hq1]
    have HPR2 := Lib.hid (show pairsR (s[q] :: s[q + 1] :: s.drop (q + 2)) f = prs from by rw [← hd0]; exact HPR.out)
    have hln : (s[q + 1] :: s.drop (q + 2)).length = s.length - (q + 1) := by (simp only [List.length_cons, List.length_drop]; omega)
    clear HPR hd0
    generalize s[q] = c0 at *
    generalize s[q + 1] = c1 at *
    by_cases h93 : c0 = 93
    · subst h93
      have hprs := HPR2.out
      rw [pairsR, if_pos rfl] at hprs
      have HO := Lib.hid (show ans = some (l ++ [⟨1, wsOf f, 0, 0, 0, 0, 0⟩], g, c1 :: s.drop (q + 2)) from by rw [HO1.out, ← hprs]; rfl)
      have HPOS := Lib.hid (show s.length - (c1 :: s.drop (q + 2)).length = q + 1 by omega)
      clear HPR2 hprs HO1 hcut hln
      go_wp2
      rw [show Fz 26 = Code.region 26 from rfl]
      refine wp_region_list ?_
      refine wpList_load_row rfl 72 (.tmp 14) rfl (w.heap.size + 1) rfl _ (bc f) (0, 0) (.array 256 4) HS.out.bb Tryz.underlying72 rfl (by rw [bc_size]; exact size_at) ?_
      go_wp2_with (go_at_call 33; refine (words_row f _).mono ?_; rintro e w2 ⟨rfl, hb⟩; have HS2 := Lib.hid (HS.out.sn.below hb); clear hb; obtain ⟨⟨y0, y1, y2, y3, y4, y5, y6, y7, y8, y9⟩, yz⟩ := HS2.out.cells; (try dsimp only at y0 y1 y2 y3 y4 y5 y6 y7 y8 y9))
      have HSb := Lib.hid ((((HS2.out.node (i := 1) (u := U (word (wsOf f) 0)) (m := ⟨1, [word (wsOf f) 0, 0, 0, 0], 0, 0, 0, 0, 0⟩) rfl).node (i := 2) (u := U (word (wsOf f) 1)) (m := ⟨1, [word (wsOf f) 0, word (wsOf f) 1, 0, 0], 0, 0, 0, 0, 0⟩) rfl).node (i := 3) (u := U (word (wsOf f) 2)) (m := ⟨1, [word (wsOf f) 0, word (wsOf f) 1, word (wsOf f) 2, 0], 0, 0, 0, 0, 0⟩) rfl).node (i := 4) (u := U (word (wsOf f) 3)) (m := ⟨1, [word (wsOf f) 0, word (wsOf f) 1, word (wsOf f) 2, word (wsOf f) 3], 0, 0, 0, 0, 0⟩) rfl)
      rw [wf_list (wf_wsOf f)] at HSb
      refine at_world (p := fun W => SN w0 w _ ⟨1, wsOf f, 0, 0, 0, 0, 0⟩ l _ W) HSb.out (fun W hW => ?_)
      have HS3 := Lib.hid hW
      clear hW HSb HS2 HS y0 y1 y2 y3 y4 y5 y6 y7 y8 y9 yz
      obtain ⟨⟨z0, z1, z2, z3, z4', z5, z6, z7, z8, z9⟩, zz⟩ := HS3.out.cells
      (try dsimp only at z0 z1 z2 z3 z4' z5 z6 z7 z8 z9)
      rw [show Fz 27 = Code.region 27 from rfl]
      have HOA := Lib.hid (HS3.out.ro.own.alloc (.cells (NC ⟨1, wsOf f, 0, 0, 0, 0, 0⟩) 54))
      have HSZ := Lib.hid HS3.out.ro.bel.size
      go_wp2_with (at_builtin; go_loud (refine wpList_append_lies _ rfl _ _ 27 rfl w0.heap.size 54 i0 _ 10 80 Tryz.underlying27 hi hz0 hz1 hz2 rfl (by decide) _ _ _ rfl HOA.out ⟨_, 0, none⟩ 1 1 (NC ⟨1, wsOf f, 0, 0, 0, 0, 0⟩).toList rfl rfl (news_atR _ ⟨1, wsOf f, 0, 0, 0, 0, 0⟩ _ (by simp)) (one_row _) (by decide) (by have := HPQ.out; unfold maxLen; omega) (by have := HPQ.out; omega) (by have := HSZ.out; simp at this ⊢; omega) _ rfl ?_))
      rintro gg gcap w4 hown hgrow hat hlt4
      have HP := Lib.hid (HS3.out.push hown hgrow (by rcases hat with q | q; exact Or.inl q; exact Or.inr (by simpa using q)))
      clear hown hgrow hat hlt4 HOA HSZ
      go_wp2
      go_ret3
      rw [HO.out]
      exact ⟨_, by rw [HPOS.out]; rfl, HP.out.1, HP.out.2⟩
    · have hne : ¬ ((c0.toNat : Int) = 93) := fun e => h93 (UInt8.toNat.inj (by show c0.toNat = 93; omega))
      have hne2 : ((c0.toNat : Int) != 93) = true := by rw [bne_iff_ne]; exact hne
      have hprs := HPR2.out
      rw [pairsR, if_neg h93] at hprs
      have HPQ2 := Lib.hid hprs
      clear hprs HPR2 hln
      have hw2 : IntKind.i64.wrap ((q : Int) + 2) = (q : Int) + 2 := by rw [IntKind.wrap_i64]; omega
      have HS0 := Lib.hid (HS.out.congr (g := fK f c0 c1 0) (fun i _ => fK_zero f c0 c1 i))
      have hb1 : (0 : Int) ≤ (q : Int) := by omega
      have hb2 : (q : Int) ≤ (q : Int) + 2 := by omega
      have hb3 : (q : Int) + 2 ≤ ((s.length : Nat) : Int) := by omega
      have hb4 : ((q : Int) + 2).toNat = q + 2 := by omega
      clear HS HO1
      go_wp2
      go_loopw [16] (fun kk wr => ∃ (m : Nat), m ≤ 256 ∧ kk = .int .i64 (m : Nat) ∧ Hid (SG w0 w (.slice ao l.length cap) ⟨1, z4, 0, 0, 0, 0, 0⟩ l (.slice ao l.length cap) (fK f c0 c1 m) wr)) (fun kk _ => 256 - (intOf kk).toNat)
      case atStart => exact ⟨0, by omega, by go_num, HS0⟩
      case round =>
      clear HS0
      obtain ⟨m, hm, rfl, HS⟩ := hrel
      by_cases hm2 : m < 256
      · have hlm : ((m : Nat) : Int) < 256 := by omega
        obtain ⟨u, hu⟩ : ∃ u, UInt8.ofNat m = u := ⟨_, rfl⟩
        have hut : u.toNat = m := by rw [← hu]; exact nat_of hm2
        have hwu : IntKind.u8.wrap ((m : Nat) : Int) = (u.toNat : Int) := by rw [IntKind.wrap_u8, hut]; omega
        have HFN := Lib.hid (fK_next (f := f) (c := c0) (d := c1) hu)
        have HW5 := Lib.hid (HS.out.below (Below.refl _ _).drew)
        have hwm : IntKind.i64.wrap ((m : Int) + 1) = (m : Int) + 1 := by rw [IntKind.wrap_i64]; omega
        have hm0 : (0 : Int) ≤ (m : Int) := by omega
        clear HS hu hut
        by_cases hx5 : hexB u = [c0, c1]
        · have hqe : (hexB u == [c0, c1]) = true := by rw [hx5]; exact beq_self_eq_true _
          have HFA := Lib.hid (HFN.out.1 hx5)
          clear hx5 HFN
          go_wp2
          refine wp_region_noPanic ?_
          refine wp_region_held_drew (S := fun w' => SG w0 w (.slice ao l.length cap) ⟨1, z4, 0, 0, 0, 0, 0⟩ l (.slice ao l.length cap) (fK f c0 c1 m) w') (by kernel_rfl) ?_ (fun hHeld => ?_)
          · (try dsimp only); exact HW5.out
          clear HW5
          generalize World.drew _ = w5 at hHeld ⊢
          refine Tk.take 0 (h := ?_)
          refine Tk.take 1 (h := ?_)
          refine Tk.take 5 (h := ?_)
          refine Tk.take 6 (h := ?_)
          refine Tk.take 7 (h := ?_)
          refine Tk.take 8 (h := ?_)
          refine Tk.take 9 (h := ?_)
          have hPrev := hHeld
          refine wpAnyH_ready (rs := [2]) (by kernel_rfl) (by simp) ?_
          refine AllReadyH.cons (o := ?o2) ?hi2 (fun K hK => ?st2) AllReadyH.nil
          case hi2 => simp only [List.getElem?_toArray, List.getElem?_cons_succ, List.getElem?_cons_zero]; rfl
          go_simp
          refine hK.out _ _ ?_ (fun hHeld => ?_)
          · (try dsimp only); (exact hPrev.below ((Below.refl _ _).alloc (Nat.le_refl _) _))
          clear hK K
          try simp only [Act.put, List.setIfInBounds_toArray, List.set_cons_zero, List.set_cons_succ]
          have hPrev := hHeld
          have hcv := conv1 u w5
          refine wpAnyH_ready (rs := [3]) (by kernel_rfl) (by simp) ?_
          refine AllReadyH.cons (o := ?o3) ?hi3 (fun K hK => ?st3) AllReadyH.nil
          case hi3 => simp only [List.getElem?_toArray, List.getElem?_cons_succ, List.getElem?_cons_zero]; rfl
          go_simp
          refine hK.out _ _ ?_ (fun hHeld => ?_)
          · (try dsimp only); (exact hPrev)
          clear hK K
          try simp only [Act.put, List.setIfInBounds_toArray, List.set_cons_zero, List.set_cons_succ]
          have hPrev := hHeld
          clear hcv
          refine wpAnyH_ready (rs := [4]) (by kernel_rfl) (by simp) ?_
          refine AllReadyH.cons (o := ?o4) ?hi4 (fun K hK => ?st4) AllReadyH.nil
          case hi4 => simp only [List.getElem?_toArray, List.getElem?_cons_succ, List.getElem?_cons_zero]; rfl
          go_simp
          (go_at_call 41; refine (hex_one u _).mono ?_; rintro e w6 ⟨rfl, hbl⟩)
          refine hK.out _ _ ?_ (fun hHeld => ?_)
          · (try dsimp only); (exact hPrev.below hbl)
          clear hK K
          try simp only [Act.put, List.setIfInBounds_toArray, List.set_cons_zero, List.set_cons_succ]
          refine Tk.take 10 (h := ?_)
          refine wpAnyH_done (by kernel_rfl) ?_ _
          refine NoPanic.normal ?_
          have HSP := Lib.hid (hHeld.put (g := fK f c0 c1 (m + 1)) (k := m) (x := true) (fun i _ => HFA.out i))
          have hfz := Lib.frozen_of_heap hHeld.bb m
          have hcl := Go.Proofs.YtdjedjfanfbbcaaGreatDoor.St.BB.cell hHeld.bb hm2
          clear hHeld hwu
          go_wp2
          go_roundw
          case rel => exact ⟨m + 1, by omega, by go_num, HSP⟩
          case measure => simp [intOf]; omega
        · have hqe : (hexB u == [c0, c1]) = false := by rw [beq_eq_false_iff_ne]; exact hx5
          have HFA := Lib.hid (HFN.out.2 hx5)
          clear hx5 HFN
          go_wp2
          refine wp_region_noPanic ?_
          refine wp_region_held_drew (S := fun w' => SG w0 w (.slice ao l.length cap) ⟨1, z4, 0, 0, 0, 0, 0⟩ l (.slice ao l.length cap) (fK f c0 c1 m) w') (by kernel_rfl) ?_ (fun hHeld => ?_)
          · (try dsimp only); exact HW5.out
          clear HW5
          generalize World.drew _ = w5 at hHeld ⊢
          refine Tk.take 0 (h := ?_)
          refine Tk.take 1 (h := ?_)
          refine Tk.take 5 (h := ?_)
          refine Tk.take 6 (h := ?_)
          refine Tk.take 7 (h := ?_)
          refine Tk.take 8 (h := ?_)
          refine Tk.take 9 (h := ?_)
          have hPrev := hHeld
          refine wpAnyH_ready (rs := [2]) (by kernel_rfl) (by simp) ?_
          refine AllReadyH.cons (o := ?ob2) ?hib2 (fun K hK => ?stb2) AllReadyH.nil
          case hib2 => simp only [List.getElem?_toArray, List.getElem?_cons_succ, List.getElem?_cons_zero]; rfl
          go_simp
          refine hK.out _ _ ?_ (fun hHeld => ?_)
          · (try dsimp only); (exact hPrev.below ((Below.refl _ _).alloc (Nat.le_refl _) _))
          clear hK K
          try simp only [Act.put, List.setIfInBounds_toArray, List.set_cons_zero, List.set_cons_succ]
          have hPrev := hHeld
          have hcv := conv1 u w5
          refine wpAnyH_ready (rs := [3]) (by kernel_rfl) (by simp) ?_
          refine AllReadyH.cons (o := ?ob3) ?hib3 (fun K hK => ?stb3) AllReadyH.nil
          case hib3 => simp only [List.getElem?_toArray, List.getElem?_cons_succ, List.getElem?_cons_zero]; rfl
          go_simp
          refine hK.out _ _ ?_ (fun hHeld => ?_)
          · (try dsimp only); (exact hPrev)
          clear hK K
          try simp only [Act.put, List.setIfInBounds_toArray, List.set_cons_zero, List.set_cons_succ]
          have hPrev := hHeld
          clear hcv
          refine wpAnyH_ready (rs := [4]) (by kernel_rfl) (by simp) ?_
          refine AllReadyH.cons (o := ?ob4) ?hib4 (fun K hK => ?stb4) AllReadyH.nil
          case hib4 => simp only [List.getElem?_toArray, List.getElem?_cons_succ, List.getElem?_cons_zero]; rfl
          go_simp
          (go_at_call 41; refine (hex_one u _).mono ?_; rintro e w6 ⟨rfl, hbl⟩)
          refine hK.out _ _ ?_ (fun hHeld => ?_)
          · (try dsimp only); (exact hPrev.below hbl)
          clear hK K
          try simp only [Act.put, List.setIfInBounds_toArray, List.set_cons_zero, List.set_cons_succ]
          refine Tk.take 10 (h := ?_)
          refine wpAnyH_done (by kernel_rfl) ?_ _
          refine NoPanic.normal ?_
          have HSP := Lib.hid (hHeld.congr (g := fK f c0 c1 (m + 1)) (fun i _ => HFA.out i))
          clear hHeld hwu
          go_wp2
          go_roundw
          case rel => exact ⟨m + 1, by omega, by go_num, HSP⟩
          case measure => simp [intOf]; omega
      · obtain rfl : m = 256 := by omega
        have HS2 := Lib.hid (HS.out.congr (g := pairB f c0 c1) (fun i hi => fK_all f c0 c1 i hi))
        clear HS
        have hn256 : ¬ ((256 : Nat) : Int) < 256 := by omega
        go_wp2
        go_roundw
        case rel => exact ⟨q + 2, _, by omega, by omega, by go_num, HPQ2, HS2⟩
        case measure => simp [intOf]; omega
  · have hlt1 : ¬ (q : Int) + 1 < ((s.length : Nat) : Int) := by omega
    have hw1 : IntKind.i64.wrap ((q : Int) + 1) = (q : Int) + 1 := by rw [IntKind.wrap_i64]; omega
    by_cases hq2 : q < s.length
    · have hltq : (q : Int) < ((s.length : Nat) : Int) := by omega
      have hgeq : ¬ ((s.length : Nat) : Int) ≤ (q : Int) := by omega
      have hg0 := HI.out q hq2
      have hd0 : s.drop q = [s[q]] := by rw [List.drop_eq_getElem_cons hq2, List.drop_eq_nil_of_le (by omega)]
      have HPR2 := Lib.hid (show pairsR [s[q]] f = prs from by rw [← hd0]; exact HPR.out)
      clear HPR hd0
      generalize s[q] = c0 at *
      by_cases h93 : c0 = 93
      · subst h93
        have hprs := HPR2.out
        rw [pairsR, if_pos rfl] at hprs
        have HO := Lib.hid (show ans = some (l ++ [⟨1, wsOf f, 0, 0, 0, 0, 0⟩], g, []) from by rw [HO1.out, ← hprs]; rfl)
        have HPOS := Lib.hid (show s.length - ([] : List UInt8).length = q + 1 by simp; omega)
        clear HPR2 hprs HO1
        go_wp2
        rw [show Fz 26 = Code.region 26 from rfl]
        refine wp_region_list ?_
        refine wpList_load_row rfl 72 (.tmp 14) rfl (w.heap.size + 1) rfl _ (bc f) (0, 0) (.array 256 4) HS.out.bb Tryz.underlying72 rfl (by rw [bc_size]; exact size_at) ?_
        go_wp2_with (go_at_call 33; refine (words_row f _).mono ?_; rintro e w2 ⟨rfl, hb⟩; have HS2 := Lib.hid (HS.out.sn.below hb); clear hb; obtain ⟨⟨y0, y1, y2, y3, y4, y5, y6, y7, y8, y9⟩, yz⟩ := HS2.out.cells; (try dsimp only at y0 y1 y2 y3 y4 y5 y6 y7 y8 y9))
        have HSb := Lib.hid ((((HS2.out.node (i := 1) (u := U (word (wsOf f) 0)) (m := ⟨1, [word (wsOf f) 0, 0, 0, 0], 0, 0, 0, 0, 0⟩) rfl).node (i := 2) (u := U (word (wsOf f) 1)) (m := ⟨1, [word (wsOf f) 0, word (wsOf f) 1, 0, 0], 0, 0, 0, 0, 0⟩) rfl).node (i := 3) (u := U (word (wsOf f) 2)) (m := ⟨1, [word (wsOf f) 0, word (wsOf f) 1, word (wsOf f) 2, 0], 0, 0, 0, 0, 0⟩) rfl).node (i := 4) (u := U (word (wsOf f) 3)) (m := ⟨1, [word (wsOf f) 0, word (wsOf f) 1, word (wsOf f) 2, word (wsOf f) 3], 0, 0, 0, 0, 0⟩) rfl)
        rw [wf_list (wf_wsOf f)] at HSb
        refine at_world (p := fun W => SN w0 w _ ⟨1, wsOf f, 0, 0, 0, 0, 0⟩ l _ W) HSb.out (fun W hW => ?_)
        have HS3 := Lib.hid hW
        clear hW HSb HS2 HS y0 y1 y2 y3 y4 y5 y6 y7 y8 y9 yz
        obtain ⟨⟨z0, z1, z2, z3, z4', z5, z6, z7, z8, z9⟩, zz⟩ := HS3.out.cells
        (try dsimp only at z0 z1 z2 z3 z4' z5 z6 z7 z8 z9)
        rw [show Fz 27 = Code.region 27 from rfl]
        have HOA := Lib.hid (HS3.out.ro.own.alloc (.cells (NC ⟨1, wsOf f, 0, 0, 0, 0, 0⟩) 54))
        have HSZ := Lib.hid HS3.out.ro.bel.size
        go_wp2_with (at_builtin; go_loud (refine wpList_append_lies _ rfl _ _ 27 rfl w0.heap.size 54 i0 _ 10 80 Tryz.underlying27 hi hz0 hz1 hz2 rfl (by decide) _ _ _ rfl HOA.out ⟨_, 0, none⟩ 1 1 (NC ⟨1, wsOf f, 0, 0, 0, 0, 0⟩).toList rfl rfl (news_atR _ ⟨1, wsOf f, 0, 0, 0, 0, 0⟩ _ (by simp)) (one_row _) (by decide) (by have := HPQ.out; unfold maxLen; omega) (by have := HPQ.out; omega) (by have := HSZ.out; simp at this ⊢; omega) _ rfl ?_))
        rintro gg gcap w4 hown hgrow hat hlt4
        have HP := Lib.hid (HS3.out.push hown hgrow (by rcases hat with q | q; exact Or.inl q; exact Or.inr (by simpa using q)))
        clear hown hgrow hat hlt4 HOA HSZ
        go_wp2
        go_ret3
        rw [HO.out]
        exact ⟨_, by rw [HPOS.out]; rfl, HP.out.1, HP.out.2⟩
      · have hne : ¬ ((c0.toNat : Int) = 93) := fun e => h93 (UInt8.toNat.inj (by show c0.toNat = 93; omega))
        have hne2 : ((c0.toNat : Int) != 93) = true := by rw [bne_iff_ne]; exact hne
        have hprs := HPR2.out
        rw [pairsR, if_neg h93] at hprs
        have HO := Lib.hid (show ans = none from by rw [HO1.out, ← hprs]; rfl)
        clear HPR2 hprs HO1
        go_wp2
        go_ret3
        rw [HO.out]
        exact ⟨_, _, rfl, HS.out.sn.ro.bel⟩
    · have hgeq : ((s.length : Nat) : Int) ≤ (q : Int) := by omega
      have hprs := HPR.out
      rw [List.drop_eq_nil_of_le (by omega)] at hprs
      have HO := Lib.hid (show ans = none from by rw [HO1.out, ← hprs]; rfl)
      clear HPR hprs HO1
      go_wp2
      go_ret3
      rw [HO.out]
      exact ⟨_, _, rfl, HS.out.sn.ro.bel⟩
end Go.Proofs.YtdjedjfanfbbcaaGreatDoor.Rx
namespace Go.Proofs.YtdjedjfanfbbcaaGreatDoor.Rx
open Go.RowKit Go.Shelf
open Go.Proofs.YtdjedjfanfbbcaaGreatDoor.St (Wf word zeroW Tab)
set_option linter.unusedVariables false
set_option linter.unusedSimpArgs false
theorem read_all (w0 : World) (s : List UInt8) (hs : s.length ≤ 100000) : ∀ k, k ≤ 131 → ReadOk w0 s k
  | 0, _ => fun p d l g v w h hp hd _ _ _ => read_out w0 s p d l g v w h hp hs (Or.inr (by omega)) (by omega)
  | k + 1, hk => by
    have IH := read_all w0 s hs k (by omega)
    intro p d l g v w h hp hd hlen hg0 hg1
    rcases Nat.lt_or_ge p s.length with hlt | hge
    · have hdp : s.drop p = s[p] :: s.drop (p + 1) := List.drop_eq_getElem_cons hlt
      rw [hdp]
      obtain ⟨c, hc⟩ : ∃ c, s[p] = c := ⟨_, rfl⟩
      obtain ⟨t, ht⟩ : ∃ t, s.drop (p + 1) = t := ⟨_, rfl⟩
      rw [hc, ht]
      show Calls Tryz.prog 22 _ w (ReadAns w0 s.length v w (readB (readR k) c t l g))
      by_cases k101 : c = 101
      · exact read_e w0 s k p d c t l g v w h hlt hc ht hd hlen hs hg0 hg1 IH k101
      by_cases k94 : c = 94
      · exact read_b w0 s k p d c t l g v w h hlt hc ht hd hlen hs hg0 hg1 IH k94
      by_cases k36 : c = 36
      · exact read_d w0 s k p d c t l g v w h hlt hc ht hd hlen hs hg0 hg1 IH k36
      by_cases k91 : c = 91
      · exact read_s w0 s k p d c t l g v w h hlt hc ht hd hlen hs hg0 hg1 IH k91
      by_cases k38 : c = 38
      · cases hn : readR k t l g with
        | none => exact read_c0 w0 s k p d c t l g v w h hlt hc ht hd hlen hs hg0 hg1 IH k38 hn
        | some a =>
          obtain ⟨l1, g1, r1⟩ := a
          cases hm : readR k r1 l1 g1 with
          | none => exact read_c1 w0 s k p d c t l g v w h hlt hc ht hd hlen hs hg0 hg1 IH k38 l1 g1 r1 hn hm
          | some b =>
            obtain ⟨l2, g2, r2⟩ := b
            exact read_c w0 s k p d c t l g v w h hlt hc ht hd hlen hs hg0 hg1 IH k38 l1 g1 r1 hn l2 g2 r2 hm
      by_cases k124 : c = 124
      · cases hn : readR k t l g with
        | none => exact read_a0 w0 s k p d c t l g v w h hlt hc ht hd hlen hs hg0 hg1 IH k124 hn
        | some a =>
          obtain ⟨l1, g1, r1⟩ := a
          cases hm : readR k r1 l1 g1 with
          | none => exact read_a1 w0 s k p d c t l g v w h hlt hc ht hd hlen hs hg0 hg1 IH k124 l1 g1 r1 hn hm
          | some b =>
            obtain ⟨l2, g2, r2⟩ := b
            exact read_a w0 s k p d c t l g v w h hlt hc ht hd hlen hs hg0 hg1 IH k124 l1 g1 r1 hn l2 g2 r2 hm
      by_cases k42 : c = 42
      · cases hn : numR 44 3 0 [] t with
        | none => exact read_m0 w0 s k p d c t l g v w h hlt hc ht hd hlen hs hg0 hg1 IH k42 hn
        | some a =>
          obtain ⟨m1, r1⟩ := a
          cases hm : numR 59 3 0 [] r1 with
          | none => exact read_m1 w0 s k p d c t l g v w h hlt hc ht hd hlen hs hg0 hg1 IH k42 m1 r1 hn hm
          | some b =>
            obtain ⟨m2, r2⟩ := b
            cases hx : readR k r2 l g with
            | none => exact read_m2 w0 s k p d c t l g v w h hlt hc ht hd hlen hs hg0 hg1 IH k42 m1 r1 hn m2 r2 hm hx
            | some b =>
              obtain ⟨l3, g3, r3⟩ := b
              exact read_m w0 s k p d c t l g v w h hlt hc ht hd hlen hs hg0 hg1 IH k42 m1 r1 hn m2 r2 hm l3 g3 r3 hx
      by_cases k40 : c = 40
      · cases hn : readR k t l (g + 1) with
        | none => exact read_g0 w0 s k p d c t l g v w h hlt hc ht hd hlen hs hg0 hg1 IH k40 hn
        | some a =>
          obtain ⟨l1, g1, r1⟩ := a
          cases r1 with
          | nil => exact read_g1 w0 s k p d c t l g v w h hlt hc ht hd hlen hs hg0 hg1 IH k40 l1 g1 [] hn rfl
          | cons x r =>
            by_cases hx : x = 41
            · subst hx
              exact read_g w0 s k p d c t l g v w h hlt hc ht hd hlen hs hg0 hg1 IH k40 l1 g1 (41 :: r) hn r rfl
            · exact read_g2 w0 s k p d c t l g v w h hlt hc ht hd hlen hs hg0 hg1 IH k40 l1 g1 (x :: r) hn x r rfl hx
      by_cases k92 : c = 92
      · cases hn : t with
        | nil => subst hn; exact read_r0 w0 s k p d c [] l g v w h hlt hc ht hd hlen hs hg0 hg1 IH k92 rfl
        | cons x r =>
          subst hn
          by_cases h1 : 48 ≤ x.toNat
          · by_cases h2 : x.toNat ≤ 57
            · exact read_r w0 s k p d c (x :: r) l g v w h hlt hc ht hd hlen hs hg0 hg1 IH k92 x r rfl h1 h2
            · exact read_r2 w0 s k p d c (x :: r) l g v w h hlt hc ht hd hlen hs hg0 hg1 IH k92 x r rfl (by omega)
          · exact read_r1 w0 s k p d c (x :: r) l g v w h hlt hc ht hd hlen hs hg0 hg1 IH k92 x r rfl (by omega)
      · exact read_z w0 s k p d c t l g v w h hlt hc ht hd hlen hs hg0 hg1 IH k101 k94 k36 k91 k38 k124 k42 k40 k92
    · rw [List.drop_eq_nil_of_le (by omega)]
      exact read_out w0 s p d l g v w h hp hs (Or.inl (by omega)) (by omega)
/-- What the document's Parse answers. -/
def RParseR (w : World) (s : List UInt8) (e : Ending) (w' : World) : Prop :=
  Below w.heap.size w w' ∧ ((rparseL s = none ∧ e = .returned (.tuple #[.slice none 0 0, E 40])) ∨ ∃ l v, rparseL s = some l ∧ e = .returned (.tuple #[v, E 0]) ∧ w'.ownsRow w.heap.size 54 10 v l.length (flat l))
set_option maxRecDepth 100000 in
set_option maxHeartbeats 1600000 in
theorem rparse_any (s : List UInt8) (w : World) (hs : s.length ≤ 90000) : Calls Tryz.prog 7 #[S s] w (RParseR w s) := by
  have hro : RO w [] (.slice none 0 0) w := ⟨World.ownsRow_nil _ _ _ _, Below.refl _ _⟩
  have HR0 := read_all w s (by omega) 131 (Nat.le_refl _) 0 0 [] 0 _ w hro (by omega) (by omega) (by simp; omega) (by omega) (by simp; omega)
  rw [List.drop_zero] at HR0
  cases hr : readR 131 s [] 0 with
  | none =>
    rw [hr] at HR0
    have HO := Lib.hid (show rparseL s = none from by unfold rparseL; rw [hr])
    have HR := Lib.hid (show Calls Tryz.prog 22 #[S s, E 0, .slice none 0 0, E 0, E 0] w fun e w' => ∃ v' g', e = .returned (.tuple #[v', E g', E (-1)]) ∧ Below w.heap.size w w' from HR0)
    clear hr HR0 hro
    go_enter Tryz.func7, Tryz.ntmps7
    go_wp2_with (go_at_call 22; refine HR.out.mono ?_; rintro e w1 ⟨v1, g1, rfl, hb⟩; have HB := Lib.hid hb; clear hb)
    go_ret2
    exact ⟨HB.out, Or.inl ⟨HO.out, rfl⟩⟩
  | some a =>
    obtain ⟨l, g, r⟩ := a
    rw [hr] at HR0
    have hw := (read_len 131 s [] 0 l g r hr (by intro n hn; cases hn)).2.2.2.2.2
    obtain ⟨q, hq⟩ : ∃ q, s.length - r.length = q := ⟨_, rfl⟩
    unfold ReadAns at HR0
    dsimp only at HR0
    rw [hq] at HR0
    have HR := Lib.hid (show Calls Tryz.prog 22 #[S s, E 0, .slice none 0 0, E 0, E 0] w fun e w' => ∃ v', e = .returned (.tuple #[v', E g, E (q : Nat)]) ∧ RO w l v' w' ∧ Kd w (.slice none 0 0) w' v' from HR0)
    have hn0 : ¬ ((q : Nat) : Int) < 0 := by omega
    have HT0 := fun ao c W h => rtext_any ao c l W h hw
    have hO := (show rparseL s = if textL l = s ∧ s ≠ [] then some l else none from by unfold rparseL; rw [hr])
    clear hr HR0 hro hw hq
    by_cases ht : textL l = s
    · by_cases h0 : s = []
      · have hq0 : (s == []) = true := by rw [h0]; rfl
        have hqq : (s == s) = true := beq_self_eq_true s
        rw [if_neg (by rintro ⟨_, q⟩; exact q h0)] at hO
        have HO := Lib.hid hO
        rw [ht] at HT0
        have HT := Lib.hid HT0
        clear hO h0 ht HT0
        go_enter Tryz.func7, Tryz.ntmps7
        go_wp2_with (first
          | (go_at_call 22; refine HR.out.mono ?_; rintro e w1 ⟨v1, rfl, hr, hk⟩; obtain ⟨ao, cap, rfl⟩ := own_slice hr.own; have HS := Lib.hid hr; clear hr hk)
          | (go_at_call 17; refine (HT.out _ _ _ (own_nsR HS.out.own)).mono ?_; rintro e w2 ⟨rfl, hb⟩; have HS2 := Lib.hid (HS.out.below hb); clear hb))
        go_ret2
        exact ⟨HS2.out.bel, Or.inl ⟨HO.out, rfl⟩⟩
      · have hq0 : (s == []) = false := by rw [beq_eq_false_iff_ne]; exact h0
        have hqq : (s == s) = true := beq_self_eq_true s
        rw [if_pos ⟨ht, h0⟩] at hO
        have HO := Lib.hid hO
        rw [ht] at HT0
        have HT := Lib.hid HT0
        clear hO h0 ht HT0
        go_enter Tryz.func7, Tryz.ntmps7
        go_wp2_with (first
          | (go_at_call 22; refine HR.out.mono ?_; rintro e w1 ⟨v1, rfl, hr, hk⟩; obtain ⟨ao, cap, rfl⟩ := own_slice hr.own; have HS := Lib.hid hr; clear hr hk)
          | (go_at_call 17; refine (HT.out _ _ _ (own_nsR HS.out.own)).mono ?_; rintro e w2 ⟨rfl, hb⟩; have HS2 := Lib.hid (HS.out.below hb); clear hb))
        go_ret2
        exact ⟨HS2.out.bel, Or.inr ⟨l, _, HO.out, rfl, HS2.out.own⟩⟩
    · have hqq : (textL l == s) = false := by rw [beq_eq_false_iff_ne]; exact ht
      rw [if_neg (by rintro ⟨q, _⟩; exact ht q)] at hO
      have HO := Lib.hid hO
      have HT := Lib.hid HT0
      generalize textL l = tl at *
      clear hO ht HT0
      go_enter Tryz.func7, Tryz.ntmps7
      go_wp2_with (first
        | (go_at_call 22; refine HR.out.mono ?_; rintro e w1 ⟨v1, rfl, hr, hk⟩; obtain ⟨ao, cap, rfl⟩ := own_slice hr.own; have HS := Lib.hid hr; clear hr hk)
        | (go_at_call 17; refine (HT.out _ _ _ (own_nsR HS.out.own)).mono ?_; rintro e w2 ⟨rfl, hb⟩; have HS2 := Lib.hid (HS.out.below hb); clear hb))
      go_ret2
      exact ⟨HS2.out.bel, Or.inl ⟨HO.out, rfl⟩⟩
end Go.Proofs.YtdjedjfanfbbcaaGreatDoor.Rx
namespace Go.Proofs.YtdjedjfanfbbcaaGreatDoor.Rx
open Go.RowKit Go.Shelf
open Tr
open Go.Proofs.YtdjedjfanfbbcaaGreatDoor.St (Wf word zeroW Tab)
set_option linter.unusedVariables false
set_option linter.unusedSimpArgs false
theorem ns_nil5 (w : World) : Ns w (.slice none ([] : List Nd).length 0) [] := ⟨none, 0, rfl, fun i hi => absurd hi (by simp)⟩
set_option maxRecDepth 100000 in
set_option maxHeartbeats 3200000 in
theorem rxParses_list (W : World) (hL : Lay W) (s : List UInt8) :
    Calls Tryz.prog 3 #[S s] W fun e W' => e = .returned (.bool true) ∧ Below W.heap.size W W' := by
  have HSH := Lib.hid (fun W' (hb : Below W.heap.size W W') => shown_any W' (hL.below hb))
  have HB := Lib.hid (Below.refl W.heap.size W)
  by_cases hlen : s.length ≤ 600
  · have hgt : ¬ (600 : Int) < ((s.length : Nat) : Int) := by omega
    have HP := Lib.hid (fun W' (hb : Below W.heap.size W W') => parse_any s W' (hL.below hb) (by omega))
    have HQ := Lib.hid (fun W' => rparse_any s W' (by omega))
    have HE := Lib.hid (rparse_eq (fun s l h => parse_wf h) s)
    cases hp : parseL s with
    | none =>
      have HPN := Lib.hid hp
      have HI2 := Lib.hid (fun W' => its_any none 0 [] W' (ns_nil5 W') (by simp))
      have HS := Lib.hid (fun (o' : Option Addr) (c' : Nat) W' (h : Ns W' (.slice o' ([] : List Nd).length c') []) => same_any o' none c' 0 [] [] W' h (ns_nil5 W') (by simp) (by simp) (by simp))
      rw [show decide (([] : List Nd) = []) = true from rfl] at HS
      clear hp hL
      go_enter Tryz.func3, Tryz.ntmps3
      go_wp2_with (first
      | (go_at_call 5; refine (HSH.out _ HB.out).mono ?_; rintro e w' ⟨rfl, hb⟩; have HB := Lib.hid (HB.out.trans (hb.mono HB.out.size)); clear hb)
      | (go_at_call 6; refine (HP.out _ HB.out).mono ?_; rintro e w' ⟨hb, hh⟩; obtain ⟨_, rfl⟩ | ⟨l, v, h1, _, _⟩ := hh; rotate_left; exact absurd (h1.symm.trans HPN.out) (by simp); have HB := Lib.hid (HB.out.trans (hb.mono HB.out.size)); clear hb)
      | (go_at_call 7; refine (HQ.out _).mono ?_; rintro e w' ⟨hb, hh⟩; obtain ⟨_, rfl⟩ | ⟨l, v, h1, _, _⟩ := hh; rotate_left; exact absurd ((h1.symm.trans HE.out).trans HPN.out) (by simp); have HB := Lib.hid (HB.out.trans (hb.mono HB.out.size)); clear hb)
      | (go_at_call 9; refine (HI2.out _).mono ?_; rintro e w' ⟨v, rfl, ho, hb⟩; obtain ⟨ao4, c4, rfl⟩ := own_slice ho; have HA := Lib.hid (own_nsR ho); clear ho; have HB := Lib.hid (HB.out.trans (hb.mono HB.out.size)); clear hb)
      | (go_at_call 8; refine (HS.out _ _ _ HA.out).mono ?_; rintro e w' ⟨rfl, hb⟩; have HB := Lib.hid (HB.out.trans (hb.mono HB.out.size)); clear hb))
      go_ret
      exact ⟨rfl, HB.out⟩
    | some l =>
      have HPN := Lib.hid hp
      have hw := parse_wf hp
      have hm := parse_some hp
      obtain ⟨t, hpt, h1, h2, h3⟩ := may_some hm.1
      have hl120 : l.length ≤ 120 := by rw [h1, nodes_len]; exact h2.2.1
      have HI2 := Lib.hid (fun o' c' W' (h : Ns W' (.slice o' l.length c') l) => its_any o' c' l W' h (by omega))
      have HS0 := fun (o1 o2 : Option Addr) (c1 c2 : Nat) W' (h1 : Ns W' (.slice o1 l.length c1) l) (h2 : Ns W' (.slice o2 l.length c2) l) => same_any o1 o2 c1 c2 l l W' h1 h2 hw hw (by omega)
      rw [show decide (l = l) = true from decide_eq_true rfl] at HS0
      have HS := Lib.hid HS0
      clear hp hL hw hm hpt h1 h2 h3 HS0 t
      go_enter Tryz.func3, Tryz.ntmps3
      go_wp2_with (first
      | (go_at_call 5; refine (HSH.out _ HB.out).mono ?_; rintro e w' ⟨rfl, hb⟩; have HB := Lib.hid (HB.out.trans (hb.mono HB.out.size)); clear hb)
      | (go_at_call 6; refine (HP.out _ HB.out).mono ?_; rintro e w' ⟨hb, hh⟩; obtain ⟨h1, _⟩ | ⟨l2, v, h1, rfl, ho⟩ := hh; exact absurd (h1.symm.trans HPN.out) (by simp); obtain rfl := Option.some.inj (h1.symm.trans HPN.out); clear h1; obtain ⟨ao3, c3, rfl⟩ := own_slice ho; have HN := Lib.hid (own_ns ho); clear ho; have HB := Lib.hid (HB.out.trans (hb.mono HB.out.size)); clear hb)
      | (go_at_call 7; refine (HQ.out _).mono ?_; rintro e w' ⟨hb, hh⟩; obtain ⟨h1, _⟩ | ⟨l2, v, h1, rfl, ho⟩ := hh; exact absurd ((h1.symm.trans HE.out).trans HPN.out) (by simp); obtain rfl := Option.some.inj ((h1.symm.trans HE.out).trans HPN.out); clear h1; obtain ⟨ao5, c5, rfl⟩ := own_slice ho; have HM := Lib.hid (own_nsR ho); clear ho; have hn := HN.out; clear HN; have HN := Lib.hid (hn.below hb); clear hn; have HB := Lib.hid (HB.out.trans (hb.mono HB.out.size)); clear hb)
      | (go_at_call 9; refine (HI2.out _ _ _ HN.out).mono ?_; rintro e w' ⟨v, rfl, ho, hb⟩; obtain ⟨ao4, c4, rfl⟩ := own_slice ho; have HA := Lib.hid (own_nsR ho); clear ho; have hn := HM.out; clear HM; have HM := Lib.hid (hn.below hb); clear hn; have HB := Lib.hid (HB.out.trans (hb.mono HB.out.size)); clear hb)
      | (go_at_call 8; refine (HS.out _ _ _ _ _ HA.out HM.out).mono ?_; rintro e w' ⟨rfl, hb⟩; have HB := Lib.hid (HB.out.trans (hb.mono HB.out.size)); clear hb))
      go_ret
      exact ⟨rfl, HB.out⟩
  · have hgt : (600 : Int) < ((s.length : Nat) : Int) := by omega
    clear hlen
    go_enter Tryz.func3, Tryz.ntmps3
    go_wp2_with (go_at_call 5; refine (HSH.out _ HB.out).mono ?_; rintro e w' ⟨rfl, hb⟩; have HB := Lib.hid (HB.out.trans (hb.mono HB.out.size)); clear hb)
    go_ret
    exact ⟨rfl, HB.out⟩
theorem rxParses_walk (W : World) (hL : Lay W) (s : ByteArray) (hs : s.size ≤ maxLen) :
    Calls Tryz.prog 3 #[.string s] W fun e W' => e = .returned (.bool true) ∧ Below W.heap.size W W' := by
  have h := rxParses_list W hL s.data.toList
  rw [show S s.data.toList = .string s from congrArg Value.string (Lib.mk_data s)] at h
  exact h
end Go.Proofs.YtdjedjfanfbbcaaGreatDoor.Rx
