/- AddrAsks: the walk. -/
import Derived.Test.YtcijhfdccbgcpaaDoorAdL4
import Derived.Test.YtcijhfdccbgcpaaDoorAdK3
namespace Go.Proofs.YtcijhfdccbgcpaaDoor.Ad
open Go.RowKit Go.Shelf
set_option linter.unusedVariables false
set_option linter.unusedSimpArgs false
/-- A range and the two states. -/
def La (w0 : World) (B0 B : Nat) (a b : A3) (nt : Bool) (s t : S2) (w : World) : Prop :=
  RCt 25 w B0 a b nt ∧ w.heap[B]? = some (.cells #[.bool s.op, E s.to] 52 (0, 0)) ∧ w.heap[B + 1]? = some (.cells #[.bool t.op, E t.to] 53 (0, 0)) ∧ w0.heap.size ≤ B0 ∧ B0 < B ∧ Below w0.heap.size w0 w
theorem La.bel {w0 : World} {B0 B : Nat} {a b : A3} {nt : Bool} {s t : S2} {w : World} (h : La w0 B0 B a b nt s t w) : Below w0.heap.size w0 w := h.2.2.2.2.2
theorem La.below {w0 : World} {B0 B : Nat} {a b : A3} {nt : Bool} {s t : S2} {w w' : World} (h : La w0 B0 B a b nt s t w) (hb : Below w.heap.size w w') : La w0 B0 B a b nt s t w' :=
  ⟨h.1.below hb, (hb.block _ (lt_heap h.2.1)).trans h.2.1, (hb.block _ (lt_heap h.2.2.1)).trans h.2.2.1, h.2.2.2.1, h.2.2.2.2.1, h.bel.trans (hb.mono h.bel.size)⟩
theorem La.cells {w0 : World} {B0 B : Nat} {a b : A3} {nt : Bool} {s t : S2} {w : World} (h : La w0 B0 B a b nt s t w) :
    (w.cell? ⟨B0, 0, none⟩ = some (E a.k) ∧ w.cell? ⟨B0, 1, none⟩ = some (E a.n) ∧ w.cell? ⟨B0, 2, none⟩ = some (E a.m) ∧ w.cell? ⟨B0, 3, none⟩ = some (E b.k) ∧ w.cell? ⟨B0, 4, none⟩ = some (E b.n) ∧ w.cell? ⟨B0, 5, none⟩ = some (E b.m) ∧ w.cell? ⟨B0, 6, none⟩ = some (.bool nt)) ∧
    (w.cell? ⟨B, 0, none⟩ = some (.bool s.op) ∧ w.cell? ⟨B, 1, none⟩ = some (E s.to)) ∧ (w.cell? ⟨B + 1, 0, none⟩ = some (.bool t.op) ∧ w.cell? ⟨B + 1, 1, none⟩ = some (E t.to)) ∧
    (w.frozen? ⟨B, 0, none⟩ = false ∧ w.frozen? ⟨B, 1, none⟩ = false) ∧ w.frozen? ⟨B + 1, 0, none⟩ = false ∧ w.frozen? ⟨B + 1, 1, none⟩ = false :=
  ⟨h.1.cells, sc_cells h.2.1, sc_cells h.2.2.1, sc_unfrozen h.2.1, sc_unfrozen h.2.2.1⟩
theorem keep2 {w : World} {g : Nat} {o : Obj} (h : w.heap[g]? = some o) {m : Nat} (hm : m ≠ g) (x y : Value) : ((w.setCell ⟨m, 0, none⟩ x).setCell ⟨m, 1, none⟩ y).heap[g]? = some o := by
  rw [Below.heap_setCell _ _ _ _ (by simp; omega), Below.heap_setCell _ _ _ _ (by simp; omega), h]
theorem La.put {w0 : World} {B0 B : Nat} {a b : A3} {nt : Bool} {s t : S2} {w : World} (h : La w0 B0 B a b nt s t w) {g : Nat} (hg : B + 1 < g) (x y : Value) : La w0 B0 B a b nt s t ((w.setCell ⟨g, 0, none⟩ x).setCell ⟨g, 1, none⟩ y) := by
  obtain ⟨h1, h2, h3, h4, h5, hb⟩ := h
  exact ⟨h1.keep (by omega) x y, keep2 h2 (by omega) x y, keep2 h3 (by omega) x y, h4, h5, (hb.setCell (by simp; omega) _).setCell (by simp; omega) _⟩
theorem La.set1 {w0 : World} {B0 B : Nat} {a b : A3} {nt : Bool} {s t : S2} {w : World} (h : La w0 B0 B a b nt s t w) (s' : S2) : La w0 B0 B a b nt s' t ((w.setCell ⟨B, 0, none⟩ (.bool s'.op)).setCell ⟨B, 1, none⟩ (E s'.to)) := by
  obtain ⟨h1, h2, h3, h4, h5, hb⟩ := h
  exact ⟨h1.keep h5 _ _, sc_put h2 _ _, keep2 h3 (by omega) _ _, h4, h5, (hb.setCell (by simp; omega) _).setCell (by simp; omega) _⟩
theorem La.set2 {w0 : World} {B0 B : Nat} {a b : A3} {nt : Bool} {s t : S2} {w : World} (h : La w0 B0 B a b nt s t w) (t' : S2) : La w0 B0 B a b nt s t' ((w.setCell ⟨B + 1, 0, none⟩ (.bool t'.op)).setCell ⟨B + 1, 1, none⟩ (E t'.to)) := by
  obtain ⟨h1, h2, h3, h4, h5, hb⟩ := h
  exact ⟨h1.keep (by omega) _ _, keep2 h2 (by omega) _ _, sc_put h3 _ _, h4, h5, (hb.setCell (by simp; omega) _).setCell (by simp; omega) _⟩
theorem za_of {w0 : World} {B0 B : Nat} {a b : A3} {nt : Bool} {s t : S2} {w : World} (h : La w0 B0 B a b nt s t w) : Zs B w.heap.size (w.alloc (.cells #[.bool false, E 0] 52)) := ⟨heap_alloc_new _ _, lt_heap h.2.2.1⟩
/-- .. and the first answer. -/
def Lz (w0 : World) (B0 B : Nat) (a b : A3) (nt : Bool) (s t : S2) (n : Nat) (s2 : S2) (w : World) : Prop := La w0 B0 B a b nt s t w ∧ w.heap[n]? = some (.cells #[.bool s2.op, E s2.to] 52 (0, 0)) ∧ B + 1 < n
theorem Lz.below {w0 : World} {B0 B : Nat} {a b : A3} {nt : Bool} {s t : S2} {n : Nat} {s2 : S2} {w w' : World} (h : Lz w0 B0 B a b nt s t n s2 w) (hb : Below w.heap.size w w') : Lz w0 B0 B a b nt s t n s2 w' := ⟨h.1.below hb, (hb.block _ (lt_heap h.2.1)).trans h.2.1, h.2.2⟩
theorem Lz.put {w0 : World} {B0 B : Nat} {a b : A3} {nt : Bool} {s t : S2} {n : Nat} {s2 : S2} {w : World} (h : Lz w0 B0 B a b nt s t n s2 w) {g : Nat} (hg : n < g) (x y : Value) : Lz w0 B0 B a b nt s t n s2 ((w.setCell ⟨g, 0, none⟩ x).setCell ⟨g, 1, none⟩ y) :=
  ⟨h.1.put (by have := h.2.2; omega) x y, keep2 h.2.1 (by omega) x y, h.2.2⟩
def Zr (m g : Nat) (w : World) : Prop := w.heap[g]? = some (.cells #[.bool false, E 0] 53 (0, 0)) ∧ m < g
theorem zr_of {w0 : World} {B0 B : Nat} {a b : A3} {nt : Bool} {s t : S2} {n : Nat} {s2 : S2} {w : World} (h : Lz w0 B0 B a b nt s t n s2 w) : Zr n w.heap.size (w.alloc (.cells #[.bool false, E 0] 53)) := ⟨heap_alloc_new _ _, lt_heap h.2.1⟩
theorem zr_below {m g : Nat} {w w' : World} (h : Zr m g w) (hb : Below w.heap.size w w') : Zr m g w' := ⟨(hb.block _ (lt_heap h.1)).trans h.1, h.2⟩
theorem rask_at (a b : A3) (nt : Bool) (s : S2) (N : Int) (last : Bool) (bo : Option Addr) (bc : Nat) (hs : List Bool) (w : World) (hm : May a b) (hN : 0 ≤ N ∧ N ≤ 999999999) (hb : Bs w (.slice bo hs.length bc) hs) {q x : Bool} {s2 : S2} (h : askL a b s ⟨N, last, hs⟩ = (q, s2)) (hx : (q != nt) = x) :
    Calls Tryd.prog 25 #[RV a b nt, SV2 s, LV N last (.slice bo hs.length bc)] w fun e w' => e = .returned (.tuple #[.bool x, SV2 s2]) ∧ Below w.heap.size w w' := by
  have p := rAsk_any a b nt s N last bo bc hs w hm hN hb
  unfold askN at p
  rw [h] at p
  subst hx
  exact p
theorem la0 {w0 w : World} {a b : A3} {nt : Bool} (hg : RCt 25 w w0.heap.size a b nt) (hb : Below w0.heap.size w0 w) : La w0 w0.heap.size w.heap.size a b nt ⟨false, 0⟩ ⟨false, 0⟩ ((w.alloc (.cells #[.bool false, E 0] 52)).alloc (.cells #[.bool false, E 0] 53)) := by
  have e1 : (w.alloc (.cells #[.bool false, E 0] 52)).heap.size = w.heap.size + 1 := by simp
  have h1 := heap_alloc_new w (.cells #[.bool false, E 0] 52)
  have h2 := heap_alloc_new (w.alloc (.cells #[.bool false, E 0] 52)) (.cells #[.bool false, E 0] 53)
  rw [e1] at h2
  have hx := ((Below.refl w.heap.size w).alloc (Nat.le_refl _) (.cells #[.bool false, E 0] 52)).alloc (by simp) (.cells #[.bool false, E 0] 53)
  exact ⟨hg.below hx, (heap_alloc_old _ _ (by rw [e1]; omega)).trans h1, h2, Nat.le_refl _, lt_heap hg, hb.trans (hx.mono hb.size)⟩
set_option maxRecDepth 100000 in
set_option maxHeartbeats 3200000 in
theorem asks_walk (a b : A3) (nt : Bool) (ls : List L3) (ao : Option Addr) (c : Nat) (w : World) (hL : Lay w) (hm : May a b) (hl : ls.length ≤ 60) (hb : Ls w (.slice ao ls.length c) ls) :
    Calls Tryd.prog 5 #[RV a b nt, .slice ao ls.length c] w fun e w' => e = .returned (.bool true) ∧ Below w.heap.size w w' := by
  have hl' : ¬ (60 : Int) < (ls.length : Int) := by omega
  have HSH := Lib.hid (fun w1 (h : Below w.heap.size w w1) => shown_at w w1 hL h)
  have HM := Lib.hid (fun w' => may_any a b nt w')
  rw [decide_eq_true hm] at HM
  have HLS := Lib.hid hb
  have HG0 : Hid (RCt 25 (w.alloc (Obj.cells #[E a.k, E a.n, E a.m, E b.k, E b.n, E b.m, .bool nt] 25)) w.heap.size a b nt) := Lib.hid (heap_alloc_new _ _)
  have HB0 := Lib.hid ((Below.refl w.heap.size w).alloc (Nat.le_refl _) (Obj.cells #[E a.k, E a.n, E a.m, E b.k, E b.n, E b.m, .bool nt] 25))
  clear hb
  go_enter Tryd.func5, Tryd.ntmps5
  go_wp2_with (first
    | (go_at_call 18; refine (HM.out _).mono ?_; rintro e w1 ⟨rfl, hb⟩; have HG1 := Lib.hid (HG0.out.below hb); have HB1 := Lib.hid (HB0.out.trans (hb.mono HB0.out.size)); clear hb)
    | (go_at_call 12; refine (HSH.out _ HB1.out).mono ?_; rintro e w2 ⟨rfl, hb⟩; have HG2 := Lib.hid (HG1.out.below hb); have HB2 := Lib.hid (HB1.out.trans (hb.mono HB1.out.size)); clear hb; obtain ⟨q0, q1, q2, q3, q4, q5, q6⟩ := HG2.out.cells))
  have HL0 := Lib.hid (la0 HG2.out HB2.out)
  go_loopw [7] (fun i wr => ∃ (k : Nat) (s : S2), k ≤ ls.length ∧ i = .int .i64 (k : Nat) ∧ Hid (La w w.heap.size w2.heap.size a b nt s s wr)) (fun i _ => ls.length - (intOf i).toNat)
  case atStart => exact ⟨0, ⟨false, 0⟩, by omega, rfl, Lib.hid HL0.out⟩
  case round =>
    obtain ⟨k, s, hk, rfl, HR⟩ := hrel
    by_cases hlt : k < ls.length
    · have hlt' : ((k : Nat) : Int) < (ls.length : Int) := by omega
      obtain ⟨⟨p0, p1, p2, p3, p4, p5, p6⟩, ⟨q0, q1⟩, ⟨q2, q3⟩, ⟨q4, q5⟩, q6, q7⟩ := HR.out.cells
      have HC := Lib.hid (line_cells HLS.out hlt)
      obtain ⟨a', rfl, N, ltst, bo, bc, hs, hHC⟩ := HC.out
      clear HC
      have HC := Lib.hid hHC
      clear hHC
      obtain ⟨g0, g1, g2, g3⟩ := HC.out wr HR.out.bel
      by_cases c1 : (100 : Int) < (hs.length : Int)
      · go_wp2_with (go_at_call 12; refine (HSH.out _ HR.out.bel).mono ?_; rintro e w3 ⟨rfl, hb⟩; have HB3 := Lib.hid (HR.out.bel.trans (hb.mono HR.out.bel.size)); clear hb)
        go_ret
        exact ⟨rfl, HB3.out⟩
      by_cases c2 : N < 1
      · go_wp2_with (go_at_call 12; refine (HSH.out _ HR.out.bel).mono ?_; rintro e w3 ⟨rfl, hb⟩; have HB3 := Lib.hid (HR.out.bel.trans (hb.mono HR.out.bel.size)); clear hb)
        go_ret
        exact ⟨rfl, HB3.out⟩
      by_cases c3 : 999999999 < N
      · go_wp2_with (go_at_call 12; refine (HSH.out _ HR.out.bel).mono ?_; rintro e w3 ⟨rfl, hb⟩; have HB3 := Lib.hid (HR.out.bel.trans (hb.mono HR.out.bel.size)); clear hb)
        go_ret
        exact ⟨rfl, HB3.out⟩
      obtain ⟨q, s2, hqs⟩ : ∃ q s2, askL a b s ⟨N, ltst, hs⟩ = (q, s2) := ⟨_, _, rfl⟩
      obtain ⟨x, hxq⟩ : ∃ x, (q != nt) = x := ⟨_, rfl⟩
      have HA := Lib.hid (fun w' (h : Below w.heap.size w w') => ask_at a b nt s N ltst bo bc hs w' hm (by omega) (HC.out w' h).2.2.2.out hqs hxq)
      have HA2 := Lib.hid (fun w' (h : Below w.heap.size w w') => rask_at a b nt s N ltst bo bc hs w' hm (by omega) (HC.out w' h).2.2.2.out hqs hxq)
      clear hqs hxq g3
      go_wp2
      refine wp_region_noPanic ?_
      refine wp_region_held_drew (S := fun w' => La w w.heap.size w2.heap.size a b nt s s w') (by kernel_rfl) ?_ (fun hHeld => ?_)
      · (try dsimp only); exact La.below HR.out (Below.refl _ _).drew
      generalize wr.drew = wd at *
      refine wpAnyH_take (i := 0) (oi := ?o0_19) (v := ?v0_19) ?hi0_19 (by kernel_rfl) (by kernel_rfl) (by kernel_rfl) (fun _ _ _ h => h) ?hy0_19 (by assumption) ?r0_19
      case hi0_19 => simp only [List.getElem?_toArray, List.getElem?_cons_succ, List.getElem?_cons_zero]; rfl
      case hy0_19 => exact Or.inl ⟨by rfl, by (intro w hSw; (try dsimp only at hSw); obtain ⟨⟨p0, p1, p2, p3, p4, p5, p6⟩, ⟨q0, q1⟩, ⟨q2, q3⟩, ⟨q4, q5⟩, q6, q7⟩ := hSw.cells; obtain ⟨g0, g1, g2, g3⟩ := HC.out w hSw.bel; clear g3; go_simp) <;> with_reducible rfl⟩
      try simp only [Act.put, List.setIfInBounds_toArray, List.set_cons_zero, List.set_cons_succ]
      refine wpAnyH_take (i := 1) (oi := ?o1_19) (v := ?v1_19) ?hi1_19 (by kernel_rfl) (by kernel_rfl) (by kernel_rfl) (fun _ _ _ h => h) ?hy1_19 (by assumption) ?r1_19
      case hi1_19 => simp only [List.getElem?_toArray, List.getElem?_cons_succ, List.getElem?_cons_zero]; rfl
      case hy1_19 => exact Or.inl ⟨by rfl, by (intro w hSw; (try dsimp only at hSw); obtain ⟨⟨p0, p1, p2, p3, p4, p5, p6⟩, ⟨q0, q1⟩, ⟨q2, q3⟩, ⟨q4, q5⟩, q6, q7⟩ := hSw.cells; obtain ⟨g0, g1, g2, g3⟩ := HC.out w hSw.bel; clear g3; go_simp) <;> with_reducible rfl⟩
      try simp only [Act.put, List.setIfInBounds_toArray, List.set_cons_zero, List.set_cons_succ]
      refine wpAnyH_take (i := 2) (oi := ?o2_19) (v := ?v2_19) ?hi2_19 (by kernel_rfl) (by kernel_rfl) (by kernel_rfl) (fun _ _ _ h => h) ?hy2_19 (by assumption) ?r2_19
      case hi2_19 => simp only [List.getElem?_toArray, List.getElem?_cons_succ, List.getElem?_cons_zero]; rfl
      case hy2_19 => exact Or.inl ⟨by rfl, by (intro w hSw; (try dsimp only at hSw); obtain ⟨⟨p0, p1, p2, p3, p4, p5, p6⟩, ⟨q0, q1⟩, ⟨q2, q3⟩, ⟨q4, q5⟩, q6, q7⟩ := hSw.cells; obtain ⟨g0, g1, g2, g3⟩ := HC.out w hSw.bel; clear g3; go_simp) <;> with_reducible rfl⟩
      try simp only [Act.put, List.setIfInBounds_toArray, List.set_cons_zero, List.set_cons_succ]
      refine wpAnyH_take (i := 3) (oi := ?o3_19) (v := ?v3_19) ?hi3_19 (by kernel_rfl) (by kernel_rfl) (by kernel_rfl) (fun _ _ _ h => h) ?hy3_19 (by assumption) ?r3_19
      case hi3_19 => simp only [List.getElem?_toArray, List.getElem?_cons_succ, List.getElem?_cons_zero]; rfl
      case hy3_19 => exact Or.inl ⟨by rfl, by (intro w hSw; (try dsimp only at hSw); obtain ⟨⟨p0, p1, p2, p3, p4, p5, p6⟩, ⟨q0, q1⟩, ⟨q2, q3⟩, ⟨q4, q5⟩, q6, q7⟩ := hSw.cells; obtain ⟨g0, g1, g2, g3⟩ := HC.out w hSw.bel; clear g3; go_simp) <;> with_reducible rfl⟩
      try simp only [Act.put, List.setIfInBounds_toArray, List.set_cons_zero, List.set_cons_succ]
      refine wpAnyH_take (i := 4) (oi := ?o4_19) (v := ?v4_19) ?hi4_19 (by kernel_rfl) (by kernel_rfl) (by kernel_rfl) (fun _ _ _ h => h) ?hy4_19 (by assumption) ?r4_19
      case hi4_19 => simp only [List.getElem?_toArray, List.getElem?_cons_succ, List.getElem?_cons_zero]; rfl
      case hy4_19 => exact Or.inl ⟨by rfl, by (intro w hSw; (try dsimp only at hSw); obtain ⟨⟨p0, p1, p2, p3, p4, p5, p6⟩, ⟨q0, q1⟩, ⟨q2, q3⟩, ⟨q4, q5⟩, q6, q7⟩ := hSw.cells; obtain ⟨g0, g1, g2, g3⟩ := HC.out w hSw.bel; clear g3; go_simp) <;> with_reducible rfl⟩
      try simp only [Act.put, List.setIfInBounds_toArray, List.set_cons_zero, List.set_cons_succ]
      refine wpAnyH_take (i := 5) (oi := ?o5_19) (v := ?v5_19) ?hi5_19 (by kernel_rfl) (by kernel_rfl) (by kernel_rfl) (fun _ _ _ h => h) ?hy5_19 (by assumption) ?r5_19
      case hi5_19 => simp only [List.getElem?_toArray, List.getElem?_cons_succ, List.getElem?_cons_zero]; rfl
      case hy5_19 => exact Or.inl ⟨by rfl, by (intro w hSw; (try dsimp only at hSw); obtain ⟨⟨p0, p1, p2, p3, p4, p5, p6⟩, ⟨q0, q1⟩, ⟨q2, q3⟩, ⟨q4, q5⟩, q6, q7⟩ := hSw.cells; obtain ⟨g0, g1, g2, g3⟩ := HC.out w hSw.bel; clear g3; go_simp) <;> with_reducible rfl⟩
      try simp only [Act.put, List.setIfInBounds_toArray, List.set_cons_zero, List.set_cons_succ]
      refine wpAnyH_ready (rs := [6, 10]) (by kernel_rfl) (by simp) ?_
      refine AllReadyH.cons (o := ?o6_20) ?hi6_20 (fun K hK => ?st6_20) (AllReadyH.cons (o := ?o10_20) ?hi10_20 (fun K hK => ?st10_20) AllReadyH.nil)
      case hi6_20 => simp only [List.getElem?_toArray, List.getElem?_cons_succ, List.getElem?_cons_zero]; rfl
      case hi10_20 => simp only [List.getElem?_toArray, List.getElem?_cons_succ, List.getElem?_cons_zero]; rfl
      case st6_20 =>
        go_simp
        (go_at_call 24; refine (HA.out _ hHeld.bel).mono ?_; rintro e u20 ⟨rfl, hbl⟩)
        have hPrev := hHeld
        refine hK.out _ _ ?_ (fun hHeld => ?_)
        · (try dsimp only); exact La.below hPrev hbl
        clear hK K
        try simp only [Act.put, List.setIfInBounds_toArray, List.set_cons_zero, List.set_cons_succ]
        clear hPrev hbl
        refine wpAnyH_take (i := 7) (oi := ?o7_6_20) (v := ?v7_6_20) ?hi7_6_20 (by kernel_rfl) (by kernel_rfl) (by kernel_rfl) (fun _ _ _ h => h) ?hy7_6_20 (by assumption) ?r7_6_20
        case hi7_6_20 => simp only [List.getElem?_toArray, List.getElem?_cons_succ, List.getElem?_cons_zero]; rfl
        case hy7_6_20 => exact Or.inl ⟨by rfl, by (intro w hSw; (try dsimp only at hSw); obtain ⟨⟨p0, p1, p2, p3, p4, p5, p6⟩, ⟨q0, q1⟩, ⟨q2, q3⟩, ⟨q4, q5⟩, q6, q7⟩ := hSw.cells; obtain ⟨g0, g1, g2, g3⟩ := HC.out w hSw.bel; clear g3; go_simp) <;> with_reducible rfl⟩
        try simp only [Act.put, List.setIfInBounds_toArray, List.set_cons_zero, List.set_cons_succ]
        refine wpAnyH_take (i := 8) (oi := ?o8_6_20) (v := ?v8_6_20) ?hi8_6_20 (by kernel_rfl) (by kernel_rfl) (by kernel_rfl) (fun _ _ _ h => h) ?hy8_6_20 (by assumption) ?r8_6_20
        case hi8_6_20 => simp only [List.getElem?_toArray, List.getElem?_cons_succ, List.getElem?_cons_zero]; rfl
        case hy8_6_20 => exact Or.inl ⟨by rfl, by (intro w hSw; (try dsimp only at hSw); obtain ⟨⟨p0, p1, p2, p3, p4, p5, p6⟩, ⟨q0, q1⟩, ⟨q2, q3⟩, ⟨q4, q5⟩, q6, q7⟩ := hSw.cells; obtain ⟨g0, g1, g2, g3⟩ := HC.out w hSw.bel; clear g3; go_simp) <;> with_reducible rfl⟩
        try simp only [Act.put, List.setIfInBounds_toArray, List.set_cons_zero, List.set_cons_succ]
        refine wpAnyH_take (i := 9) (oi := ?o9_6_20) (v := ?v9_6_20) ?hi9_6_20 (by kernel_rfl) (by kernel_rfl) (by kernel_rfl) (fun _ _ _ h => h) ?hy9_6_20 (by assumption) ?r9_6_20
        case hi9_6_20 => simp only [List.getElem?_toArray, List.getElem?_cons_succ, List.getElem?_cons_zero]; rfl
        case hy9_6_20 => exact Or.inl ⟨by rfl, by (intro w hSw; (try dsimp only at hSw); obtain ⟨⟨p0, p1, p2, p3, p4, p5, p6⟩, ⟨q0, q1⟩, ⟨q2, q3⟩, ⟨q4, q5⟩, q6, q7⟩ := hSw.cells; obtain ⟨g0, g1, g2, g3⟩ := HC.out w hSw.bel; clear g3; go_simp) <;> with_reducible rfl⟩
        try simp only [Act.put, List.setIfInBounds_toArray, List.set_cons_zero, List.set_cons_succ]
        refine wpAnyH_ready (rs := [10]) (by kernel_rfl) (by simp) ?_
        refine AllReadyH.cons (o := ?o10_21) ?hi10_21 (fun K hK => ?st10_21) AllReadyH.nil
        case hi10_21 => simp only [List.getElem?_toArray, List.getElem?_cons_succ, List.getElem?_cons_zero]; rfl
        case st10_21 =>
          go_simp
          have hPrev := hHeld
          refine hK.out _ _ ?_ (fun hHeld => ?_)
          · (try dsimp only); exact La.below hPrev ((Below.refl _ _).alloc (Nat.le_refl _) _)
          clear hK K
          try simp only [Act.put, List.setIfInBounds_toArray, List.set_cons_zero, List.set_cons_succ]
          have HZ := Lib.hid (za_of hPrev)
          clear hPrev
          revert HZ hHeld
          generalize hW21 : World.alloc _ _ = v21
          intro hHeld HZ
          clear hW21
          refine wpAnyH_take (i := 11) (oi := ?o11_f22) (v := ?v11_f22) ?hi11_f22 (by kernel_rfl) (by kernel_rfl) (by kernel_rfl) (fun _ _ _ h => h) ?hy11_f22 (by assumption) ?r11_f22
          case hi11_f22 => simp only [List.getElem?_toArray, List.getElem?_cons_succ, List.getElem?_cons_zero]; rfl
          case hy11_f22 => exact Or.inl ⟨by rfl, by (intro w hSw; (try dsimp only at hSw); obtain ⟨⟨p0, p1, p2, p3, p4, p5, p6⟩, ⟨q0, q1⟩, ⟨q2, q3⟩, ⟨q4, q5⟩, q6, q7⟩ := hSw.cells; obtain ⟨g0, g1, g2, g3⟩ := HC.out w hSw.bel; clear g3; go_simp) <;> with_reducible rfl⟩
          try simp only [Act.put, List.setIfInBounds_toArray, List.set_cons_zero, List.set_cons_succ]
          have HS := Lib.hid hHeld
          obtain ⟨z0, z1⟩ := sc_cells HZ.out.1
          obtain ⟨z2, z3⟩ := sc_unfrozen HZ.out.1
          refine wpAnyH_ready (rs := [12]) (by kernel_rfl) (by simp) ?_
          refine AllReadyH.cons (o := ?oz22) ?hiz22 (fun K hK => ?stz22) AllReadyH.nil
          case hiz22 => simp only [List.getElem?_toArray, List.getElem?_cons_succ, List.getElem?_cons_zero]; rfl
          go_simp
          refine hK.out _ _ ?_ (fun hHeld => ?_)
          · (try dsimp only); exact La.put HS.out HZ.out.2 _ _
          clear hK K
          try simp only [Act.put, List.setIfInBounds_toArray, List.set_cons_zero, List.set_cons_succ]
          have HN := Lib.hid (sc_put HZ.out.1 (s2.op) (s2.to))
          have HL2 := Lib.hid hHeld
          clear hHeld HS z0 z1 z2 z3
          refine wpAnyH_done (by kernel_rfl) ?_ _
          refine NoPanic.normal ?_
          have HQ := Lib.hid (show Lz w w.heap.size w2.heap.size a b nt s s _ s2 _ from ⟨HL2.out, HN.out, HZ.out.2⟩)
          clear HN HL2 HZ
          revert HQ
          generalize World.setCell (World.setCell _ _ _) _ _ = W9
          generalize u20.heap.size = n9
          intro HQ
          obtain ⟨⟨p0, p1, p2, p3, p4, p5, p6⟩, ⟨q0, q1⟩, ⟨q2, q3⟩, ⟨q4, q5⟩, q6, q7⟩ := HQ.out.1.cells
          obtain ⟨k0, k1⟩ := sc_cells HQ.out.2.1
          obtain ⟨g0, g1, g2, g3⟩ := HC.out W9 HQ.out.1.bel
          clear g3 HA
          go_wp2
          refine wp_region_noPanic ?_
          refine wp_region_held_drew (S := fun w' => Lz w w.heap.size w2.heap.size a b nt s s n9 s2 w') (by kernel_rfl) ?_ (fun hHeld => ?_)
          · (try dsimp only); exact Lz.below HQ.out (Below.refl _ _).drew
          generalize W9.drew = we at *
          refine wpAnyH_take (i := 0) (oi := ?o0_25) (v := ?v0_25) ?hi0_25 (by kernel_rfl) (by kernel_rfl) (by kernel_rfl) (fun _ _ _ h => h) ?hy0_25 (by assumption) ?r0_25
          case hi0_25 => simp only [List.getElem?_toArray, List.getElem?_cons_succ, List.getElem?_cons_zero]; rfl
          case hy0_25 => exact Or.inl ⟨by rfl, by (intro w hSw; (try dsimp only at hSw); obtain ⟨⟨p0, p1, p2, p3, p4, p5, p6⟩, ⟨q0, q1⟩, ⟨q2, q3⟩, ⟨q4, q5⟩, q6, q7⟩ := hSw.1.cells; obtain ⟨g0, g1, g2, g3⟩ := HC.out w hSw.1.bel; clear g3; go_simp) <;> with_reducible rfl⟩
          try simp only [Act.put, List.setIfInBounds_toArray, List.set_cons_zero, List.set_cons_succ]
          refine wpAnyH_take (i := 2) (oi := ?o2_25) (v := ?v2_25) ?hi2_25 (by kernel_rfl) (by kernel_rfl) (by kernel_rfl) (fun _ _ _ h => h) ?hy2_25 (by assumption) ?r2_25
          case hi2_25 => simp only [List.getElem?_toArray, List.getElem?_cons_succ, List.getElem?_cons_zero]; rfl
          case hy2_25 => exact Or.inl ⟨by rfl, by (intro w hSw; (try dsimp only at hSw); obtain ⟨⟨p0, p1, p2, p3, p4, p5, p6⟩, ⟨q0, q1⟩, ⟨q2, q3⟩, ⟨q4, q5⟩, q6, q7⟩ := hSw.1.cells; obtain ⟨g0, g1, g2, g3⟩ := HC.out w hSw.1.bel; clear g3; go_simp) <;> with_reducible rfl⟩
          try simp only [Act.put, List.setIfInBounds_toArray, List.set_cons_zero, List.set_cons_succ]
          refine wpAnyH_take (i := 3) (oi := ?o3_25) (v := ?v3_25) ?hi3_25 (by kernel_rfl) (by kernel_rfl) (by kernel_rfl) (fun _ _ _ h => h) ?hy3_25 (by assumption) ?r3_25
          case hi3_25 => simp only [List.getElem?_toArray, List.getElem?_cons_succ, List.getElem?_cons_zero]; rfl
          case hy3_25 => exact Or.inl ⟨by rfl, by (intro w hSw; (try dsimp only at hSw); obtain ⟨⟨p0, p1, p2, p3, p4, p5, p6⟩, ⟨q0, q1⟩, ⟨q2, q3⟩, ⟨q4, q5⟩, q6, q7⟩ := hSw.1.cells; obtain ⟨g0, g1, g2, g3⟩ := HC.out w hSw.1.bel; clear g3; go_simp) <;> with_reducible rfl⟩
          try simp only [Act.put, List.setIfInBounds_toArray, List.set_cons_zero, List.set_cons_succ]
          refine wpAnyH_take (i := 4) (oi := ?o4_25) (v := ?v4_25) ?hi4_25 (by kernel_rfl) (by kernel_rfl) (by kernel_rfl) (fun _ _ _ h => h) ?hy4_25 (by assumption) ?r4_25
          case hi4_25 => simp only [List.getElem?_toArray, List.getElem?_cons_succ, List.getElem?_cons_zero]; rfl
          case hy4_25 => exact Or.inl ⟨by rfl, by (intro w hSw; (try dsimp only at hSw); obtain ⟨⟨p0, p1, p2, p3, p4, p5, p6⟩, ⟨q0, q1⟩, ⟨q2, q3⟩, ⟨q4, q5⟩, q6, q7⟩ := hSw.1.cells; obtain ⟨g0, g1, g2, g3⟩ := HC.out w hSw.1.bel; clear g3; go_simp) <;> with_reducible rfl⟩
          try simp only [Act.put, List.setIfInBounds_toArray, List.set_cons_zero, List.set_cons_succ]
          refine wpAnyH_take (i := 5) (oi := ?o5_25) (v := ?v5_25) ?hi5_25 (by kernel_rfl) (by kernel_rfl) (by kernel_rfl) (fun _ _ _ h => h) ?hy5_25 (by assumption) ?r5_25
          case hi5_25 => simp only [List.getElem?_toArray, List.getElem?_cons_succ, List.getElem?_cons_zero]; rfl
          case hy5_25 => exact Or.inl ⟨by rfl, by (intro w hSw; (try dsimp only at hSw); obtain ⟨⟨p0, p1, p2, p3, p4, p5, p6⟩, ⟨q0, q1⟩, ⟨q2, q3⟩, ⟨q4, q5⟩, q6, q7⟩ := hSw.1.cells; obtain ⟨g0, g1, g2, g3⟩ := HC.out w hSw.1.bel; clear g3; go_simp) <;> with_reducible rfl⟩
          try simp only [Act.put, List.setIfInBounds_toArray, List.set_cons_zero, List.set_cons_succ]
          refine wpAnyH_take (i := 6) (oi := ?o6_25) (v := ?v6_25) ?hi6_25 (by kernel_rfl) (by kernel_rfl) (by kernel_rfl) (fun _ _ _ h => h) ?hy6_25 (by assumption) ?r6_25
          case hi6_25 => simp only [List.getElem?_toArray, List.getElem?_cons_succ, List.getElem?_cons_zero]; rfl
          case hy6_25 => exact Or.inl ⟨by rfl, by (intro w hSw; (try dsimp only at hSw); obtain ⟨⟨p0, p1, p2, p3, p4, p5, p6⟩, ⟨q0, q1⟩, ⟨q2, q3⟩, ⟨q4, q5⟩, q6, q7⟩ := hSw.1.cells; obtain ⟨g0, g1, g2, g3⟩ := HC.out w hSw.1.bel; clear g3; go_simp) <;> with_reducible rfl⟩
          try simp only [Act.put, List.setIfInBounds_toArray, List.set_cons_zero, List.set_cons_succ]
          refine wpAnyH_ready (rs := [1, 12]) (by kernel_rfl) (by simp) ?_
          refine AllReadyH.cons (o := ?o1_26) ?hi1_26 (fun K hK => ?st1_26) (AllReadyH.cons (o := ?o12_26) ?hi12_26 (fun K hK => ?st12_26) AllReadyH.nil)
          case hi1_26 => simp only [List.getElem?_toArray, List.getElem?_cons_succ, List.getElem?_cons_zero]; rfl
          case hi12_26 => simp only [List.getElem?_toArray, List.getElem?_cons_succ, List.getElem?_cons_zero]; rfl
          case st1_26 =>
            go_simp
            (go_at_call 15; refine (rng_any a b nt _).mono ?_; rintro e u26 ⟨rfl, hbl⟩)
            have hPrev := hHeld
            refine hK.out _ _ ?_ (fun hHeld => ?_)
            · (try dsimp only); exact Lz.below hPrev hbl
            clear hK K
            try simp only [Act.put, List.setIfInBounds_toArray, List.set_cons_zero, List.set_cons_succ]
            clear hPrev hbl
            refine wpAnyH_ready (rs := [7, 12]) (by kernel_rfl) (by simp) ?_
            refine AllReadyH.cons (o := ?o7_27) ?hi7_27 (fun K hK => ?st7_27) (AllReadyH.cons (o := ?o12_27) ?hi12_27 (fun K hK => ?st12_27) AllReadyH.nil)
            case hi7_27 => simp only [List.getElem?_toArray, List.getElem?_cons_succ, List.getElem?_cons_zero]; rfl
            case hi12_27 => simp only [List.getElem?_toArray, List.getElem?_cons_succ, List.getElem?_cons_zero]; rfl
            case st7_27 =>
              go_simp
              (go_at_call 23; refine (line_any N ltst bo hs.length bc _).mono ?_; rintro e u27 ⟨rfl, hbl⟩)
              have hPrev := hHeld
              refine hK.out _ _ ?_ (fun hHeld => ?_)
              · (try dsimp only); exact Lz.below hPrev hbl
              clear hK K
              try simp only [Act.put, List.setIfInBounds_toArray, List.set_cons_zero, List.set_cons_succ]
              clear hPrev hbl
              refine wpAnyH_ready (rs := [8, 12]) (by kernel_rfl) (by simp) ?_
              refine AllReadyH.cons (o := ?o8_28) ?hi8_28 (fun K hK => ?st8_28) (AllReadyH.cons (o := ?o12_28) ?hi12_28 (fun K hK => ?st12_28) AllReadyH.nil)
              case hi8_28 => simp only [List.getElem?_toArray, List.getElem?_cons_succ, List.getElem?_cons_zero]; rfl
              case hi12_28 => simp only [List.getElem?_toArray, List.getElem?_cons_succ, List.getElem?_cons_zero]; rfl
              case st8_28 =>
                go_simp
                (go_at_call 25; refine (HA2.out _ hHeld.1.bel).mono ?_; rintro e u28 ⟨rfl, hbl⟩)
                have hPrev := hHeld
                refine hK.out _ _ ?_ (fun hHeld => ?_)
                · (try dsimp only); exact Lz.below hPrev hbl
                clear hK K
                try simp only [Act.put, List.setIfInBounds_toArray, List.set_cons_zero, List.set_cons_succ]
                clear hPrev hbl
                refine wpAnyH_take (i := 9) (oi := ?o9_8_28) (v := ?v9_8_28) ?hi9_8_28 (by kernel_rfl) (by kernel_rfl) (by kernel_rfl) (fun _ _ _ h => h) ?hy9_8_28 (by assumption) ?r9_8_28
                case hi9_8_28 => simp only [List.getElem?_toArray, List.getElem?_cons_succ, List.getElem?_cons_zero]; rfl
                case hy9_8_28 => exact Or.inl ⟨by rfl, by (intro w hSw; (try dsimp only at hSw); obtain ⟨⟨p0, p1, p2, p3, p4, p5, p6⟩, ⟨q0, q1⟩, ⟨q2, q3⟩, ⟨q4, q5⟩, q6, q7⟩ := hSw.1.cells; obtain ⟨g0, g1, g2, g3⟩ := HC.out w hSw.1.bel; clear g3; go_simp) <;> with_reducible rfl⟩
                try simp only [Act.put, List.setIfInBounds_toArray, List.set_cons_zero, List.set_cons_succ]
                refine wpAnyH_take (i := 10) (oi := ?o10_8_28) (v := ?v10_8_28) ?hi10_8_28 (by kernel_rfl) (by kernel_rfl) (by kernel_rfl) (fun _ _ _ h => h) ?hy10_8_28 (by assumption) ?r10_8_28
                case hi10_8_28 => simp only [List.getElem?_toArray, List.getElem?_cons_succ, List.getElem?_cons_zero]; rfl
                case hy10_8_28 => exact Or.inl ⟨by rfl, by (intro w hSw; (try dsimp only at hSw); obtain ⟨⟨p0, p1, p2, p3, p4, p5, p6⟩, ⟨q0, q1⟩, ⟨q2, q3⟩, ⟨q4, q5⟩, q6, q7⟩ := hSw.1.cells; obtain ⟨g0, g1, g2, g3⟩ := HC.out w hSw.1.bel; clear g3; go_simp) <;> with_reducible rfl⟩
                try simp only [Act.put, List.setIfInBounds_toArray, List.set_cons_zero, List.set_cons_succ]
                refine wpAnyH_take (i := 11) (oi := ?o11_8_28) (v := ?v11_8_28) ?hi11_8_28 (by kernel_rfl) (by kernel_rfl) (by kernel_rfl) (fun _ _ _ h => h) ?hy11_8_28 (by assumption) ?r11_8_28
                case hi11_8_28 => simp only [List.getElem?_toArray, List.getElem?_cons_succ, List.getElem?_cons_zero]; rfl
                case hy11_8_28 => exact Or.inl ⟨by rfl, by (intro w hSw; (try dsimp only at hSw); obtain ⟨⟨p0, p1, p2, p3, p4, p5, p6⟩, ⟨q0, q1⟩, ⟨q2, q3⟩, ⟨q4, q5⟩, q6, q7⟩ := hSw.1.cells; obtain ⟨g0, g1, g2, g3⟩ := HC.out w hSw.1.bel; clear g3; go_simp) <;> with_reducible rfl⟩
                try simp only [Act.put, List.setIfInBounds_toArray, List.set_cons_zero, List.set_cons_succ]
                refine wpAnyH_ready (rs := [12]) (by kernel_rfl) (by simp) ?_
                refine AllReadyH.cons (o := ?o12_29) ?hi12_29 (fun K hK => ?st12_29) AllReadyH.nil
                case hi12_29 => simp only [List.getElem?_toArray, List.getElem?_cons_succ, List.getElem?_cons_zero]; rfl
                case st12_29 =>
                  go_simp
                  have hPrev := hHeld
                  refine hK.out _ _ ?_ (fun hHeld => ?_)
                  · (try dsimp only); exact Lz.below hPrev ((Below.refl _ _).alloc (Nat.le_refl _) _)
                  clear hK K
                  try simp only [Act.put, List.setIfInBounds_toArray, List.set_cons_zero, List.set_cons_succ]
                  have HZ := Lib.hid (zr_of hPrev)
                  clear hPrev
                  revert HZ hHeld
                  generalize hW29 : World.alloc _ _ = v29
                  intro hHeld HZ
                  clear hW29
                  refine wpAnyH_take (i := 13) (oi := ?o13_f30) (v := ?v13_f30) ?hi13_f30 (by kernel_rfl) (by kernel_rfl) (by kernel_rfl) (fun _ _ _ h => h) ?hy13_f30 (by assumption) ?r13_f30
                  case hi13_f30 => simp only [List.getElem?_toArray, List.getElem?_cons_succ, List.getElem?_cons_zero]; rfl
                  case hy13_f30 => exact Or.inl ⟨by rfl, by (intro w hSw; (try dsimp only at hSw); obtain ⟨⟨p0, p1, p2, p3, p4, p5, p6⟩, ⟨q0, q1⟩, ⟨q2, q3⟩, ⟨q4, q5⟩, q6, q7⟩ := hSw.1.cells; obtain ⟨g0, g1, g2, g3⟩ := HC.out w hSw.1.bel; clear g3; go_simp) <;> with_reducible rfl⟩
                  try simp only [Act.put, List.setIfInBounds_toArray, List.set_cons_zero, List.set_cons_succ]
                  have HS := Lib.hid hHeld
                  obtain ⟨z0, z1⟩ := sc_cells HZ.out.1
                  obtain ⟨z2, z3⟩ := sc_unfrozen HZ.out.1
                  refine wpAnyH_ready (rs := [14]) (by kernel_rfl) (by simp) ?_
                  refine AllReadyH.cons (o := ?oz30) ?hiz30 (fun K hK => ?stz30) AllReadyH.nil
                  case hiz30 => simp only [List.getElem?_toArray, List.getElem?_cons_succ, List.getElem?_cons_zero]; rfl
                  go_simp
                  refine hK.out _ _ ?_ (fun hHeld => ?_)
                  · (try dsimp only); exact Lz.put HS.out HZ.out.2 _ _
                  clear hK K
                  try simp only [Act.put, List.setIfInBounds_toArray, List.set_cons_zero, List.set_cons_succ]
                  have HN := Lib.hid (sc_put HZ.out.1 (s2.op) (s2.to))
                  have HL2 := Lib.hid hHeld
                  clear hHeld HS z0 z1 z2 z3
                  refine wpAnyH_done (by kernel_rfl) ?_ _
                  refine NoPanic.normal ?_
                  have HE0 := Lib.hid HL2.out.1
                  have HN9 := Lib.hid (And.intro HL2.out.2.1 HL2.out.2.2)
                  have HN0 := Lib.hid (And.intro HN.out HZ.out.2)
                  clear HL2 HN HZ
                  revert HE0 HN9 HN0
                  generalize World.setCell (World.setCell _ _ _) _ _ = W10
                  generalize u28.heap.size = n92
                  intro HE0 HN9 HN0
                  have HE1 := Lib.hid (HE0.out.set1 s2)
                  have HE2 := Lib.hid (HE1.out.set2 s2)
                  obtain ⟨_, ⟨q0, q1⟩, _, ⟨q4, q5⟩, _, _⟩ := HE0.out.cells
                  obtain ⟨k0, k1⟩ := sc_cells HN9.out.1
                  have HN1 := Lib.hid (keep2 HN0.out.1 (m := w2.heap.size) (by have := HN0.out.2; have := HN9.out.2; omega) (.bool s2.op) (E s2.to))
                  obtain ⟨k2, k3⟩ := sc_cells HN1.out
                  obtain ⟨_, _, ⟨r2, r3⟩, _, r6, r7⟩ := HE1.out.cells
                  obtain ⟨_, ⟨t0, t1⟩, ⟨t2, t3⟩, _, _, _⟩ := HE2.out.cells
                  clear HA2 HSH HN1 HN0 HN9 HE0 HE1
                  go_wp2
                  go_roundw
                  case rel => exact ⟨k + 1, s2, by omega, by go_num, HE2⟩
                  case measure => simp [intOf]; omega
              case st12_28 =>
                go_simp
                have hPrev := hHeld
                refine hK.out _ _ ?_ (fun hHeld => ?_)
                · (try dsimp only); exact Lz.below hPrev ((Below.refl _ _).alloc (Nat.le_refl _) _)
                clear hK K
                try simp only [Act.put, List.setIfInBounds_toArray, List.set_cons_zero, List.set_cons_succ]
                have HZ := Lib.hid (zr_of hPrev)
                clear hPrev
                revert HZ hHeld
                generalize hW28 : World.alloc _ _ = v28
                intro hHeld HZ
                clear hW28
                refine wpAnyH_ready (rs := [8]) (by kernel_rfl) (by simp) ?_
                refine AllReadyH.cons (o := ?o8_31) ?hi8_31 (fun K hK => ?st8_31) AllReadyH.nil
                case hi8_31 => simp only [List.getElem?_toArray, List.getElem?_cons_succ, List.getElem?_cons_zero]; rfl
                case st8_31 =>
                  go_simp
                  (go_at_call 25; refine (HA2.out _ hHeld.1.bel).mono ?_; rintro e u31 ⟨rfl, hbl⟩)
                  have hPrev := hHeld
                  refine hK.out _ _ ?_ (fun hHeld => ?_)
                  · (try dsimp only); exact Lz.below hPrev hbl
                  clear hK K
                  try simp only [Act.put, List.setIfInBounds_toArray, List.set_cons_zero, List.set_cons_succ]
                  have HZ := Lib.hid (zr_below HZ.out hbl)
                  clear hPrev hbl
                  refine wpAnyH_take (i := 9) (oi := ?o9_8_31) (v := ?v9_8_31) ?hi9_8_31 (by kernel_rfl) (by kernel_rfl) (by kernel_rfl) (fun _ _ _ h => h) ?hy9_8_31 (by assumption) ?r9_8_31
                  case hi9_8_31 => simp only [List.getElem?_toArray, List.getElem?_cons_succ, List.getElem?_cons_zero]; rfl
                  case hy9_8_31 => exact Or.inl ⟨by rfl, by (intro w hSw; (try dsimp only at hSw); obtain ⟨⟨p0, p1, p2, p3, p4, p5, p6⟩, ⟨q0, q1⟩, ⟨q2, q3⟩, ⟨q4, q5⟩, q6, q7⟩ := hSw.1.cells; obtain ⟨g0, g1, g2, g3⟩ := HC.out w hSw.1.bel; clear g3; go_simp) <;> with_reducible rfl⟩
                  try simp only [Act.put, List.setIfInBounds_toArray, List.set_cons_zero, List.set_cons_succ]
                  refine wpAnyH_take (i := 10) (oi := ?o10_8_31) (v := ?v10_8_31) ?hi10_8_31 (by kernel_rfl) (by kernel_rfl) (by kernel_rfl) (fun _ _ _ h => h) ?hy10_8_31 (by assumption) ?r10_8_31
                  case hi10_8_31 => simp only [List.getElem?_toArray, List.getElem?_cons_succ, List.getElem?_cons_zero]; rfl
                  case hy10_8_31 => exact Or.inl ⟨by rfl, by (intro w hSw; (try dsimp only at hSw); obtain ⟨⟨p0, p1, p2, p3, p4, p5, p6⟩, ⟨q0, q1⟩, ⟨q2, q3⟩, ⟨q4, q5⟩, q6, q7⟩ := hSw.1.cells; obtain ⟨g0, g1, g2, g3⟩ := HC.out w hSw.1.bel; clear g3; go_simp) <;> with_reducible rfl⟩
                  try simp only [Act.put, List.setIfInBounds_toArray, List.set_cons_zero, List.set_cons_succ]
                  refine wpAnyH_take (i := 11) (oi := ?o11_8_31) (v := ?v11_8_31) ?hi11_8_31 (by kernel_rfl) (by kernel_rfl) (by kernel_rfl) (fun _ _ _ h => h) ?hy11_8_31 (by assumption) ?r11_8_31
                  case hi11_8_31 => simp only [List.getElem?_toArray, List.getElem?_cons_succ, List.getElem?_cons_zero]; rfl
                  case hy11_8_31 => exact Or.inl ⟨by rfl, by (intro w hSw; (try dsimp only at hSw); obtain ⟨⟨p0, p1, p2, p3, p4, p5, p6⟩, ⟨q0, q1⟩, ⟨q2, q3⟩, ⟨q4, q5⟩, q6, q7⟩ := hSw.1.cells; obtain ⟨g0, g1, g2, g3⟩ := HC.out w hSw.1.bel; clear g3; go_simp) <;> with_reducible rfl⟩
                  try simp only [Act.put, List.setIfInBounds_toArray, List.set_cons_zero, List.set_cons_succ]
                  refine wpAnyH_take (i := 13) (oi := ?o13_f32) (v := ?v13_f32) ?hi13_f32 (by kernel_rfl) (by kernel_rfl) (by kernel_rfl) (fun _ _ _ h => h) ?hy13_f32 (by assumption) ?r13_f32
                  case hi13_f32 => simp only [List.getElem?_toArray, List.getElem?_cons_succ, List.getElem?_cons_zero]; rfl
                  case hy13_f32 => exact Or.inl ⟨by rfl, by (intro w hSw; (try dsimp only at hSw); obtain ⟨⟨p0, p1, p2, p3, p4, p5, p6⟩, ⟨q0, q1⟩, ⟨q2, q3⟩, ⟨q4, q5⟩, q6, q7⟩ := hSw.1.cells; obtain ⟨g0, g1, g2, g3⟩ := HC.out w hSw.1.bel; clear g3; go_simp) <;> with_reducible rfl⟩
                  try simp only [Act.put, List.setIfInBounds_toArray, List.set_cons_zero, List.set_cons_succ]
                  have HS := Lib.hid hHeld
                  obtain ⟨z0, z1⟩ := sc_cells HZ.out.1
                  obtain ⟨z2, z3⟩ := sc_unfrozen HZ.out.1
                  refine wpAnyH_ready (rs := [14]) (by kernel_rfl) (by simp) ?_
                  refine AllReadyH.cons (o := ?oz32) ?hiz32 (fun K hK => ?stz32) AllReadyH.nil
                  case hiz32 => simp only [List.getElem?_toArray, List.getElem?_cons_succ, List.getElem?_cons_zero]; rfl
                  go_simp
                  refine hK.out _ _ ?_ (fun hHeld => ?_)
                  · (try dsimp only); exact Lz.put HS.out HZ.out.2 _ _
                  clear hK K
                  try simp only [Act.put, List.setIfInBounds_toArray, List.set_cons_zero, List.set_cons_succ]
                  have HN := Lib.hid (sc_put HZ.out.1 (s2.op) (s2.to))
                  have HL2 := Lib.hid hHeld
                  clear hHeld HS z0 z1 z2 z3
                  refine wpAnyH_done (by kernel_rfl) ?_ _
                  refine NoPanic.normal ?_
                  have HE0 := Lib.hid HL2.out.1
                  have HN9 := Lib.hid (And.intro HL2.out.2.1 HL2.out.2.2)
                  have HN0 := Lib.hid (And.intro HN.out HZ.out.2)
                  clear HL2 HN HZ
                  revert HE0 HN9 HN0
                  generalize World.setCell (World.setCell _ _ _) _ _ = W10
                  generalize u27.heap.size = n92
                  intro HE0 HN9 HN0
                  have HE1 := Lib.hid (HE0.out.set1 s2)
                  have HE2 := Lib.hid (HE1.out.set2 s2)
                  obtain ⟨_, ⟨q0, q1⟩, _, ⟨q4, q5⟩, _, _⟩ := HE0.out.cells
                  obtain ⟨k0, k1⟩ := sc_cells HN9.out.1
                  have HN1 := Lib.hid (keep2 HN0.out.1 (m := w2.heap.size) (by have := HN0.out.2; have := HN9.out.2; omega) (.bool s2.op) (E s2.to))
                  obtain ⟨k2, k3⟩ := sc_cells HN1.out
                  obtain ⟨_, _, ⟨r2, r3⟩, _, r6, r7⟩ := HE1.out.cells
                  obtain ⟨_, ⟨t0, t1⟩, ⟨t2, t3⟩, _, _, _⟩ := HE2.out.cells
                  clear HA2 HSH HN1 HN0 HN9 HE0 HE1
                  go_wp2
                  go_roundw
                  case rel => exact ⟨k + 1, s2, by omega, by go_num, HE2⟩
                  case measure => simp [intOf]; omega
            case st12_27 =>
              go_simp
              have hPrev := hHeld
              refine hK.out _ _ ?_ (fun hHeld => ?_)
              · (try dsimp only); exact Lz.below hPrev ((Below.refl _ _).alloc (Nat.le_refl _) _)
              clear hK K
              try simp only [Act.put, List.setIfInBounds_toArray, List.set_cons_zero, List.set_cons_succ]
              have HZ := Lib.hid (zr_of hPrev)
              clear hPrev
              revert HZ hHeld
              generalize hW27 : World.alloc _ _ = v27
              intro hHeld HZ
              clear hW27
              refine wpAnyH_ready (rs := [7]) (by kernel_rfl) (by simp) ?_
              refine AllReadyH.cons (o := ?o7_33) ?hi7_33 (fun K hK => ?st7_33) AllReadyH.nil
              case hi7_33 => simp only [List.getElem?_toArray, List.getElem?_cons_succ, List.getElem?_cons_zero]; rfl
              case st7_33 =>
                go_simp
                (go_at_call 23; refine (line_any N ltst bo hs.length bc _).mono ?_; rintro e u33 ⟨rfl, hbl⟩)
                have hPrev := hHeld
                refine hK.out _ _ ?_ (fun hHeld => ?_)
                · (try dsimp only); exact Lz.below hPrev hbl
                clear hK K
                try simp only [Act.put, List.setIfInBounds_toArray, List.set_cons_zero, List.set_cons_succ]
                have HZ := Lib.hid (zr_below HZ.out hbl)
                clear hPrev hbl
                refine wpAnyH_ready (rs := [8]) (by kernel_rfl) (by simp) ?_
                refine AllReadyH.cons (o := ?o8_34) ?hi8_34 (fun K hK => ?st8_34) AllReadyH.nil
                case hi8_34 => simp only [List.getElem?_toArray, List.getElem?_cons_succ, List.getElem?_cons_zero]; rfl
                case st8_34 =>
                  go_simp
                  (go_at_call 25; refine (HA2.out _ hHeld.1.bel).mono ?_; rintro e u34 ⟨rfl, hbl⟩)
                  have hPrev := hHeld
                  refine hK.out _ _ ?_ (fun hHeld => ?_)
                  · (try dsimp only); exact Lz.below hPrev hbl
                  clear hK K
                  try simp only [Act.put, List.setIfInBounds_toArray, List.set_cons_zero, List.set_cons_succ]
                  have HZ := Lib.hid (zr_below HZ.out hbl)
                  clear hPrev hbl
                  refine wpAnyH_take (i := 9) (oi := ?o9_8_34) (v := ?v9_8_34) ?hi9_8_34 (by kernel_rfl) (by kernel_rfl) (by kernel_rfl) (fun _ _ _ h => h) ?hy9_8_34 (by assumption) ?r9_8_34
                  case hi9_8_34 => simp only [List.getElem?_toArray, List.getElem?_cons_succ, List.getElem?_cons_zero]; rfl
                  case hy9_8_34 => exact Or.inl ⟨by rfl, by (intro w hSw; (try dsimp only at hSw); obtain ⟨⟨p0, p1, p2, p3, p4, p5, p6⟩, ⟨q0, q1⟩, ⟨q2, q3⟩, ⟨q4, q5⟩, q6, q7⟩ := hSw.1.cells; obtain ⟨g0, g1, g2, g3⟩ := HC.out w hSw.1.bel; clear g3; go_simp) <;> with_reducible rfl⟩
                  try simp only [Act.put, List.setIfInBounds_toArray, List.set_cons_zero, List.set_cons_succ]
                  refine wpAnyH_take (i := 10) (oi := ?o10_8_34) (v := ?v10_8_34) ?hi10_8_34 (by kernel_rfl) (by kernel_rfl) (by kernel_rfl) (fun _ _ _ h => h) ?hy10_8_34 (by assumption) ?r10_8_34
                  case hi10_8_34 => simp only [List.getElem?_toArray, List.getElem?_cons_succ, List.getElem?_cons_zero]; rfl
                  case hy10_8_34 => exact Or.inl ⟨by rfl, by (intro w hSw; (try dsimp only at hSw); obtain ⟨⟨p0, p1, p2, p3, p4, p5, p6⟩, ⟨q0, q1⟩, ⟨q2, q3⟩, ⟨q4, q5⟩, q6, q7⟩ := hSw.1.cells; obtain ⟨g0, g1, g2, g3⟩ := HC.out w hSw.1.bel; clear g3; go_simp) <;> with_reducible rfl⟩
                  try simp only [Act.put, List.setIfInBounds_toArray, List.set_cons_zero, List.set_cons_succ]
                  refine wpAnyH_take (i := 11) (oi := ?o11_8_34) (v := ?v11_8_34) ?hi11_8_34 (by kernel_rfl) (by kernel_rfl) (by kernel_rfl) (fun _ _ _ h => h) ?hy11_8_34 (by assumption) ?r11_8_34
                  case hi11_8_34 => simp only [List.getElem?_toArray, List.getElem?_cons_succ, List.getElem?_cons_zero]; rfl
                  case hy11_8_34 => exact Or.inl ⟨by rfl, by (intro w hSw; (try dsimp only at hSw); obtain ⟨⟨p0, p1, p2, p3, p4, p5, p6⟩, ⟨q0, q1⟩, ⟨q2, q3⟩, ⟨q4, q5⟩, q6, q7⟩ := hSw.1.cells; obtain ⟨g0, g1, g2, g3⟩ := HC.out w hSw.1.bel; clear g3; go_simp) <;> with_reducible rfl⟩
                  try simp only [Act.put, List.setIfInBounds_toArray, List.set_cons_zero, List.set_cons_succ]
                  refine wpAnyH_take (i := 13) (oi := ?o13_f35) (v := ?v13_f35) ?hi13_f35 (by kernel_rfl) (by kernel_rfl) (by kernel_rfl) (fun _ _ _ h => h) ?hy13_f35 (by assumption) ?r13_f35
                  case hi13_f35 => simp only [List.getElem?_toArray, List.getElem?_cons_succ, List.getElem?_cons_zero]; rfl
                  case hy13_f35 => exact Or.inl ⟨by rfl, by (intro w hSw; (try dsimp only at hSw); obtain ⟨⟨p0, p1, p2, p3, p4, p5, p6⟩, ⟨q0, q1⟩, ⟨q2, q3⟩, ⟨q4, q5⟩, q6, q7⟩ := hSw.1.cells; obtain ⟨g0, g1, g2, g3⟩ := HC.out w hSw.1.bel; clear g3; go_simp) <;> with_reducible rfl⟩
                  try simp only [Act.put, List.setIfInBounds_toArray, List.set_cons_zero, List.set_cons_succ]
                  have HS := Lib.hid hHeld
                  obtain ⟨z0, z1⟩ := sc_cells HZ.out.1
                  obtain ⟨z2, z3⟩ := sc_unfrozen HZ.out.1
                  refine wpAnyH_ready (rs := [14]) (by kernel_rfl) (by simp) ?_
                  refine AllReadyH.cons (o := ?oz35) ?hiz35 (fun K hK => ?stz35) AllReadyH.nil
                  case hiz35 => simp only [List.getElem?_toArray, List.getElem?_cons_succ, List.getElem?_cons_zero]; rfl
                  go_simp
                  refine hK.out _ _ ?_ (fun hHeld => ?_)
                  · (try dsimp only); exact Lz.put HS.out HZ.out.2 _ _
                  clear hK K
                  try simp only [Act.put, List.setIfInBounds_toArray, List.set_cons_zero, List.set_cons_succ]
                  have HN := Lib.hid (sc_put HZ.out.1 (s2.op) (s2.to))
                  have HL2 := Lib.hid hHeld
                  clear hHeld HS z0 z1 z2 z3
                  refine wpAnyH_done (by kernel_rfl) ?_ _
                  refine NoPanic.normal ?_
                  have HE0 := Lib.hid HL2.out.1
                  have HN9 := Lib.hid (And.intro HL2.out.2.1 HL2.out.2.2)
                  have HN0 := Lib.hid (And.intro HN.out HZ.out.2)
                  clear HL2 HN HZ
                  revert HE0 HN9 HN0
                  generalize World.setCell (World.setCell _ _ _) _ _ = W10
                  generalize u26.heap.size = n92
                  intro HE0 HN9 HN0
                  have HE1 := Lib.hid (HE0.out.set1 s2)
                  have HE2 := Lib.hid (HE1.out.set2 s2)
                  obtain ⟨_, ⟨q0, q1⟩, _, ⟨q4, q5⟩, _, _⟩ := HE0.out.cells
                  obtain ⟨k0, k1⟩ := sc_cells HN9.out.1
                  have HN1 := Lib.hid (keep2 HN0.out.1 (m := w2.heap.size) (by have := HN0.out.2; have := HN9.out.2; omega) (.bool s2.op) (E s2.to))
                  obtain ⟨k2, k3⟩ := sc_cells HN1.out
                  obtain ⟨_, _, ⟨r2, r3⟩, _, r6, r7⟩ := HE1.out.cells
                  obtain ⟨_, ⟨t0, t1⟩, ⟨t2, t3⟩, _, _, _⟩ := HE2.out.cells
                  clear HA2 HSH HN1 HN0 HN9 HE0 HE1
                  go_wp2
                  go_roundw
                  case rel => exact ⟨k + 1, s2, by omega, by go_num, HE2⟩
                  case measure => simp [intOf]; omega
          case st12_26 =>
            go_simp
            have hPrev := hHeld
            refine hK.out _ _ ?_ (fun hHeld => ?_)
            · (try dsimp only); exact Lz.below hPrev ((Below.refl _ _).alloc (Nat.le_refl _) _)
            clear hK K
            try simp only [Act.put, List.setIfInBounds_toArray, List.set_cons_zero, List.set_cons_succ]
            have HZ := Lib.hid (zr_of hPrev)
            clear hPrev
            revert HZ hHeld
            generalize hW26 : World.alloc _ _ = v26
            intro hHeld HZ
            clear hW26
            refine wpAnyH_ready (rs := [1]) (by kernel_rfl) (by simp) ?_
            refine AllReadyH.cons (o := ?o1_36) ?hi1_36 (fun K hK => ?st1_36) AllReadyH.nil
            case hi1_36 => simp only [List.getElem?_toArray, List.getElem?_cons_succ, List.getElem?_cons_zero]; rfl
            case st1_36 =>
              go_simp
              (go_at_call 15; refine (rng_any a b nt _).mono ?_; rintro e u36 ⟨rfl, hbl⟩)
              have hPrev := hHeld
              refine hK.out _ _ ?_ (fun hHeld => ?_)
              · (try dsimp only); exact Lz.below hPrev hbl
              clear hK K
              try simp only [Act.put, List.setIfInBounds_toArray, List.set_cons_zero, List.set_cons_succ]
              have HZ := Lib.hid (zr_below HZ.out hbl)
              clear hPrev hbl
              refine wpAnyH_ready (rs := [7]) (by kernel_rfl) (by simp) ?_
              refine AllReadyH.cons (o := ?o7_37) ?hi7_37 (fun K hK => ?st7_37) AllReadyH.nil
              case hi7_37 => simp only [List.getElem?_toArray, List.getElem?_cons_succ, List.getElem?_cons_zero]; rfl
              case st7_37 =>
                go_simp
                (go_at_call 23; refine (line_any N ltst bo hs.length bc _).mono ?_; rintro e u37 ⟨rfl, hbl⟩)
                have hPrev := hHeld
                refine hK.out _ _ ?_ (fun hHeld => ?_)
                · (try dsimp only); exact Lz.below hPrev hbl
                clear hK K
                try simp only [Act.put, List.setIfInBounds_toArray, List.set_cons_zero, List.set_cons_succ]
                have HZ := Lib.hid (zr_below HZ.out hbl)
                clear hPrev hbl
                refine wpAnyH_ready (rs := [8]) (by kernel_rfl) (by simp) ?_
                refine AllReadyH.cons (o := ?o8_38) ?hi8_38 (fun K hK => ?st8_38) AllReadyH.nil
                case hi8_38 => simp only [List.getElem?_toArray, List.getElem?_cons_succ, List.getElem?_cons_zero]; rfl
                case st8_38 =>
                  go_simp
                  (go_at_call 25; refine (HA2.out _ hHeld.1.bel).mono ?_; rintro e u38 ⟨rfl, hbl⟩)
                  have hPrev := hHeld
                  refine hK.out _ _ ?_ (fun hHeld => ?_)
                  · (try dsimp only); exact Lz.below hPrev hbl
                  clear hK K
                  try simp only [Act.put, List.setIfInBounds_toArray, List.set_cons_zero, List.set_cons_succ]
                  have HZ := Lib.hid (zr_below HZ.out hbl)
                  clear hPrev hbl
                  refine wpAnyH_take (i := 9) (oi := ?o9_8_38) (v := ?v9_8_38) ?hi9_8_38 (by kernel_rfl) (by kernel_rfl) (by kernel_rfl) (fun _ _ _ h => h) ?hy9_8_38 (by assumption) ?r9_8_38
                  case hi9_8_38 => simp only [List.getElem?_toArray, List.getElem?_cons_succ, List.getElem?_cons_zero]; rfl
                  case hy9_8_38 => exact Or.inl ⟨by rfl, by (intro w hSw; (try dsimp only at hSw); obtain ⟨⟨p0, p1, p2, p3, p4, p5, p6⟩, ⟨q0, q1⟩, ⟨q2, q3⟩, ⟨q4, q5⟩, q6, q7⟩ := hSw.1.cells; obtain ⟨g0, g1, g2, g3⟩ := HC.out w hSw.1.bel; clear g3; go_simp) <;> with_reducible rfl⟩
                  try simp only [Act.put, List.setIfInBounds_toArray, List.set_cons_zero, List.set_cons_succ]
                  refine wpAnyH_take (i := 10) (oi := ?o10_8_38) (v := ?v10_8_38) ?hi10_8_38 (by kernel_rfl) (by kernel_rfl) (by kernel_rfl) (fun _ _ _ h => h) ?hy10_8_38 (by assumption) ?r10_8_38
                  case hi10_8_38 => simp only [List.getElem?_toArray, List.getElem?_cons_succ, List.getElem?_cons_zero]; rfl
                  case hy10_8_38 => exact Or.inl ⟨by rfl, by (intro w hSw; (try dsimp only at hSw); obtain ⟨⟨p0, p1, p2, p3, p4, p5, p6⟩, ⟨q0, q1⟩, ⟨q2, q3⟩, ⟨q4, q5⟩, q6, q7⟩ := hSw.1.cells; obtain ⟨g0, g1, g2, g3⟩ := HC.out w hSw.1.bel; clear g3; go_simp) <;> with_reducible rfl⟩
                  try simp only [Act.put, List.setIfInBounds_toArray, List.set_cons_zero, List.set_cons_succ]
                  refine wpAnyH_take (i := 11) (oi := ?o11_8_38) (v := ?v11_8_38) ?hi11_8_38 (by kernel_rfl) (by kernel_rfl) (by kernel_rfl) (fun _ _ _ h => h) ?hy11_8_38 (by assumption) ?r11_8_38
                  case hi11_8_38 => simp only [List.getElem?_toArray, List.getElem?_cons_succ, List.getElem?_cons_zero]; rfl
                  case hy11_8_38 => exact Or.inl ⟨by rfl, by (intro w hSw; (try dsimp only at hSw); obtain ⟨⟨p0, p1, p2, p3, p4, p5, p6⟩, ⟨q0, q1⟩, ⟨q2, q3⟩, ⟨q4, q5⟩, q6, q7⟩ := hSw.1.cells; obtain ⟨g0, g1, g2, g3⟩ := HC.out w hSw.1.bel; clear g3; go_simp) <;> with_reducible rfl⟩
                  try simp only [Act.put, List.setIfInBounds_toArray, List.set_cons_zero, List.set_cons_succ]
                  refine wpAnyH_take (i := 13) (oi := ?o13_f39) (v := ?v13_f39) ?hi13_f39 (by kernel_rfl) (by kernel_rfl) (by kernel_rfl) (fun _ _ _ h => h) ?hy13_f39 (by assumption) ?r13_f39
                  case hi13_f39 => simp only [List.getElem?_toArray, List.getElem?_cons_succ, List.getElem?_cons_zero]; rfl
                  case hy13_f39 => exact Or.inl ⟨by rfl, by (intro w hSw; (try dsimp only at hSw); obtain ⟨⟨p0, p1, p2, p3, p4, p5, p6⟩, ⟨q0, q1⟩, ⟨q2, q3⟩, ⟨q4, q5⟩, q6, q7⟩ := hSw.1.cells; obtain ⟨g0, g1, g2, g3⟩ := HC.out w hSw.1.bel; clear g3; go_simp) <;> with_reducible rfl⟩
                  try simp only [Act.put, List.setIfInBounds_toArray, List.set_cons_zero, List.set_cons_succ]
                  have HS := Lib.hid hHeld
                  obtain ⟨z0, z1⟩ := sc_cells HZ.out.1
                  obtain ⟨z2, z3⟩ := sc_unfrozen HZ.out.1
                  refine wpAnyH_ready (rs := [14]) (by kernel_rfl) (by simp) ?_
                  refine AllReadyH.cons (o := ?oz39) ?hiz39 (fun K hK => ?stz39) AllReadyH.nil
                  case hiz39 => simp only [List.getElem?_toArray, List.getElem?_cons_succ, List.getElem?_cons_zero]; rfl
                  go_simp
                  refine hK.out _ _ ?_ (fun hHeld => ?_)
                  · (try dsimp only); exact Lz.put HS.out HZ.out.2 _ _
                  clear hK K
                  try simp only [Act.put, List.setIfInBounds_toArray, List.set_cons_zero, List.set_cons_succ]
                  have HN := Lib.hid (sc_put HZ.out.1 (s2.op) (s2.to))
                  have HL2 := Lib.hid hHeld
                  clear hHeld HS z0 z1 z2 z3
                  refine wpAnyH_done (by kernel_rfl) ?_ _
                  refine NoPanic.normal ?_
                  have HE0 := Lib.hid HL2.out.1
                  have HN9 := Lib.hid (And.intro HL2.out.2.1 HL2.out.2.2)
                  have HN0 := Lib.hid (And.intro HN.out HZ.out.2)
                  clear HL2 HN HZ
                  revert HE0 HN9 HN0
                  generalize World.setCell (World.setCell _ _ _) _ _ = W10
                  generalize we.heap.size = n92
                  intro HE0 HN9 HN0
                  have HE1 := Lib.hid (HE0.out.set1 s2)
                  have HE2 := Lib.hid (HE1.out.set2 s2)
                  obtain ⟨_, ⟨q0, q1⟩, _, ⟨q4, q5⟩, _, _⟩ := HE0.out.cells
                  obtain ⟨k0, k1⟩ := sc_cells HN9.out.1
                  have HN1 := Lib.hid (keep2 HN0.out.1 (m := w2.heap.size) (by have := HN0.out.2; have := HN9.out.2; omega) (.bool s2.op) (E s2.to))
                  obtain ⟨k2, k3⟩ := sc_cells HN1.out
                  obtain ⟨_, _, ⟨r2, r3⟩, _, r6, r7⟩ := HE1.out.cells
                  obtain ⟨_, ⟨t0, t1⟩, ⟨t2, t3⟩, _, _, _⟩ := HE2.out.cells
                  clear HA2 HSH HN1 HN0 HN9 HE0 HE1
                  go_wp2
                  go_roundw
                  case rel => exact ⟨k + 1, s2, by omega, by go_num, HE2⟩
                  case measure => simp [intOf]; omega
      case st10_20 =>
        go_simp
        have hPrev := hHeld
        refine hK.out _ _ ?_ (fun hHeld => ?_)
        · (try dsimp only); exact La.below hPrev ((Below.refl _ _).alloc (Nat.le_refl _) _)
        clear hK K
        try simp only [Act.put, List.setIfInBounds_toArray, List.set_cons_zero, List.set_cons_succ]
        have HZ := Lib.hid (za_of hPrev)
        clear hPrev
        revert HZ hHeld
        generalize hW20 : World.alloc _ _ = v20
        intro hHeld HZ
        clear hW20
        refine wpAnyH_ready (rs := [6]) (by kernel_rfl) (by simp) ?_
        refine AllReadyH.cons (o := ?o6_23) ?hi6_23 (fun K hK => ?st6_23) AllReadyH.nil
        case hi6_23 => simp only [List.getElem?_toArray, List.getElem?_cons_succ, List.getElem?_cons_zero]; rfl
        case st6_23 =>
          go_simp
          (go_at_call 24; refine (HA.out _ hHeld.bel).mono ?_; rintro e u23 ⟨rfl, hbl⟩)
          have hPrev := hHeld
          refine hK.out _ _ ?_ (fun hHeld => ?_)
          · (try dsimp only); exact La.below hPrev hbl
          clear hK K
          try simp only [Act.put, List.setIfInBounds_toArray, List.set_cons_zero, List.set_cons_succ]
          have HZ := Lib.hid (zs_below HZ.out hbl)
          clear hPrev hbl
          refine wpAnyH_take (i := 7) (oi := ?o7_6_23) (v := ?v7_6_23) ?hi7_6_23 (by kernel_rfl) (by kernel_rfl) (by kernel_rfl) (fun _ _ _ h => h) ?hy7_6_23 (by assumption) ?r7_6_23
          case hi7_6_23 => simp only [List.getElem?_toArray, List.getElem?_cons_succ, List.getElem?_cons_zero]; rfl
          case hy7_6_23 => exact Or.inl ⟨by rfl, by (intro w hSw; (try dsimp only at hSw); obtain ⟨⟨p0, p1, p2, p3, p4, p5, p6⟩, ⟨q0, q1⟩, ⟨q2, q3⟩, ⟨q4, q5⟩, q6, q7⟩ := hSw.cells; obtain ⟨g0, g1, g2, g3⟩ := HC.out w hSw.bel; clear g3; go_simp) <;> with_reducible rfl⟩
          try simp only [Act.put, List.setIfInBounds_toArray, List.set_cons_zero, List.set_cons_succ]
          refine wpAnyH_take (i := 8) (oi := ?o8_6_23) (v := ?v8_6_23) ?hi8_6_23 (by kernel_rfl) (by kernel_rfl) (by kernel_rfl) (fun _ _ _ h => h) ?hy8_6_23 (by assumption) ?r8_6_23
          case hi8_6_23 => simp only [List.getElem?_toArray, List.getElem?_cons_succ, List.getElem?_cons_zero]; rfl
          case hy8_6_23 => exact Or.inl ⟨by rfl, by (intro w hSw; (try dsimp only at hSw); obtain ⟨⟨p0, p1, p2, p3, p4, p5, p6⟩, ⟨q0, q1⟩, ⟨q2, q3⟩, ⟨q4, q5⟩, q6, q7⟩ := hSw.cells; obtain ⟨g0, g1, g2, g3⟩ := HC.out w hSw.bel; clear g3; go_simp) <;> with_reducible rfl⟩
          try simp only [Act.put, List.setIfInBounds_toArray, List.set_cons_zero, List.set_cons_succ]
          refine wpAnyH_take (i := 9) (oi := ?o9_6_23) (v := ?v9_6_23) ?hi9_6_23 (by kernel_rfl) (by kernel_rfl) (by kernel_rfl) (fun _ _ _ h => h) ?hy9_6_23 (by assumption) ?r9_6_23
          case hi9_6_23 => simp only [List.getElem?_toArray, List.getElem?_cons_succ, List.getElem?_cons_zero]; rfl
          case hy9_6_23 => exact Or.inl ⟨by rfl, by (intro w hSw; (try dsimp only at hSw); obtain ⟨⟨p0, p1, p2, p3, p4, p5, p6⟩, ⟨q0, q1⟩, ⟨q2, q3⟩, ⟨q4, q5⟩, q6, q7⟩ := hSw.cells; obtain ⟨g0, g1, g2, g3⟩ := HC.out w hSw.bel; clear g3; go_simp) <;> with_reducible rfl⟩
          try simp only [Act.put, List.setIfInBounds_toArray, List.set_cons_zero, List.set_cons_succ]
          refine wpAnyH_take (i := 11) (oi := ?o11_f24) (v := ?v11_f24) ?hi11_f24 (by kernel_rfl) (by kernel_rfl) (by kernel_rfl) (fun _ _ _ h => h) ?hy11_f24 (by assumption) ?r11_f24
          case hi11_f24 => simp only [List.getElem?_toArray, List.getElem?_cons_succ, List.getElem?_cons_zero]; rfl
          case hy11_f24 => exact Or.inl ⟨by rfl, by (intro w hSw; (try dsimp only at hSw); obtain ⟨⟨p0, p1, p2, p3, p4, p5, p6⟩, ⟨q0, q1⟩, ⟨q2, q3⟩, ⟨q4, q5⟩, q6, q7⟩ := hSw.cells; obtain ⟨g0, g1, g2, g3⟩ := HC.out w hSw.bel; clear g3; go_simp) <;> with_reducible rfl⟩
          try simp only [Act.put, List.setIfInBounds_toArray, List.set_cons_zero, List.set_cons_succ]
          have HS := Lib.hid hHeld
          obtain ⟨z0, z1⟩ := sc_cells HZ.out.1
          obtain ⟨z2, z3⟩ := sc_unfrozen HZ.out.1
          refine wpAnyH_ready (rs := [12]) (by kernel_rfl) (by simp) ?_
          refine AllReadyH.cons (o := ?oz24) ?hiz24 (fun K hK => ?stz24) AllReadyH.nil
          case hiz24 => simp only [List.getElem?_toArray, List.getElem?_cons_succ, List.getElem?_cons_zero]; rfl
          go_simp
          refine hK.out _ _ ?_ (fun hHeld => ?_)
          · (try dsimp only); exact La.put HS.out HZ.out.2 _ _
          clear hK K
          try simp only [Act.put, List.setIfInBounds_toArray, List.set_cons_zero, List.set_cons_succ]
          have HN := Lib.hid (sc_put HZ.out.1 (s2.op) (s2.to))
          have HL2 := Lib.hid hHeld
          clear hHeld HS z0 z1 z2 z3
          refine wpAnyH_done (by kernel_rfl) ?_ _
          refine NoPanic.normal ?_
          have HQ := Lib.hid (show Lz w w.heap.size w2.heap.size a b nt s s _ s2 _ from ⟨HL2.out, HN.out, HZ.out.2⟩)
          clear HN HL2 HZ
          revert HQ
          generalize World.setCell (World.setCell _ _ _) _ _ = W9
          generalize wd.heap.size = n9
          intro HQ
          obtain ⟨⟨p0, p1, p2, p3, p4, p5, p6⟩, ⟨q0, q1⟩, ⟨q2, q3⟩, ⟨q4, q5⟩, q6, q7⟩ := HQ.out.1.cells
          obtain ⟨k0, k1⟩ := sc_cells HQ.out.2.1
          obtain ⟨g0, g1, g2, g3⟩ := HC.out W9 HQ.out.1.bel
          clear g3 HA
          go_wp2
          refine wp_region_noPanic ?_
          refine wp_region_held_drew (S := fun w' => Lz w w.heap.size w2.heap.size a b nt s s n9 s2 w') (by kernel_rfl) ?_ (fun hHeld => ?_)
          · (try dsimp only); exact Lz.below HQ.out (Below.refl _ _).drew
          generalize W9.drew = we at *
          refine wpAnyH_take (i := 0) (oi := ?o0_40) (v := ?v0_40) ?hi0_40 (by kernel_rfl) (by kernel_rfl) (by kernel_rfl) (fun _ _ _ h => h) ?hy0_40 (by assumption) ?r0_40
          case hi0_40 => simp only [List.getElem?_toArray, List.getElem?_cons_succ, List.getElem?_cons_zero]; rfl
          case hy0_40 => exact Or.inl ⟨by rfl, by (intro w hSw; (try dsimp only at hSw); obtain ⟨⟨p0, p1, p2, p3, p4, p5, p6⟩, ⟨q0, q1⟩, ⟨q2, q3⟩, ⟨q4, q5⟩, q6, q7⟩ := hSw.1.cells; obtain ⟨g0, g1, g2, g3⟩ := HC.out w hSw.1.bel; clear g3; go_simp) <;> with_reducible rfl⟩
          try simp only [Act.put, List.setIfInBounds_toArray, List.set_cons_zero, List.set_cons_succ]
          refine wpAnyH_take (i := 2) (oi := ?o2_40) (v := ?v2_40) ?hi2_40 (by kernel_rfl) (by kernel_rfl) (by kernel_rfl) (fun _ _ _ h => h) ?hy2_40 (by assumption) ?r2_40
          case hi2_40 => simp only [List.getElem?_toArray, List.getElem?_cons_succ, List.getElem?_cons_zero]; rfl
          case hy2_40 => exact Or.inl ⟨by rfl, by (intro w hSw; (try dsimp only at hSw); obtain ⟨⟨p0, p1, p2, p3, p4, p5, p6⟩, ⟨q0, q1⟩, ⟨q2, q3⟩, ⟨q4, q5⟩, q6, q7⟩ := hSw.1.cells; obtain ⟨g0, g1, g2, g3⟩ := HC.out w hSw.1.bel; clear g3; go_simp) <;> with_reducible rfl⟩
          try simp only [Act.put, List.setIfInBounds_toArray, List.set_cons_zero, List.set_cons_succ]
          refine wpAnyH_take (i := 3) (oi := ?o3_40) (v := ?v3_40) ?hi3_40 (by kernel_rfl) (by kernel_rfl) (by kernel_rfl) (fun _ _ _ h => h) ?hy3_40 (by assumption) ?r3_40
          case hi3_40 => simp only [List.getElem?_toArray, List.getElem?_cons_succ, List.getElem?_cons_zero]; rfl
          case hy3_40 => exact Or.inl ⟨by rfl, by (intro w hSw; (try dsimp only at hSw); obtain ⟨⟨p0, p1, p2, p3, p4, p5, p6⟩, ⟨q0, q1⟩, ⟨q2, q3⟩, ⟨q4, q5⟩, q6, q7⟩ := hSw.1.cells; obtain ⟨g0, g1, g2, g3⟩ := HC.out w hSw.1.bel; clear g3; go_simp) <;> with_reducible rfl⟩
          try simp only [Act.put, List.setIfInBounds_toArray, List.set_cons_zero, List.set_cons_succ]
          refine wpAnyH_take (i := 4) (oi := ?o4_40) (v := ?v4_40) ?hi4_40 (by kernel_rfl) (by kernel_rfl) (by kernel_rfl) (fun _ _ _ h => h) ?hy4_40 (by assumption) ?r4_40
          case hi4_40 => simp only [List.getElem?_toArray, List.getElem?_cons_succ, List.getElem?_cons_zero]; rfl
          case hy4_40 => exact Or.inl ⟨by rfl, by (intro w hSw; (try dsimp only at hSw); obtain ⟨⟨p0, p1, p2, p3, p4, p5, p6⟩, ⟨q0, q1⟩, ⟨q2, q3⟩, ⟨q4, q5⟩, q6, q7⟩ := hSw.1.cells; obtain ⟨g0, g1, g2, g3⟩ := HC.out w hSw.1.bel; clear g3; go_simp) <;> with_reducible rfl⟩
          try simp only [Act.put, List.setIfInBounds_toArray, List.set_cons_zero, List.set_cons_succ]
          refine wpAnyH_take (i := 5) (oi := ?o5_40) (v := ?v5_40) ?hi5_40 (by kernel_rfl) (by kernel_rfl) (by kernel_rfl) (fun _ _ _ h => h) ?hy5_40 (by assumption) ?r5_40
          case hi5_40 => simp only [List.getElem?_toArray, List.getElem?_cons_succ, List.getElem?_cons_zero]; rfl
          case hy5_40 => exact Or.inl ⟨by rfl, by (intro w hSw; (try dsimp only at hSw); obtain ⟨⟨p0, p1, p2, p3, p4, p5, p6⟩, ⟨q0, q1⟩, ⟨q2, q3⟩, ⟨q4, q5⟩, q6, q7⟩ := hSw.1.cells; obtain ⟨g0, g1, g2, g3⟩ := HC.out w hSw.1.bel; clear g3; go_simp) <;> with_reducible rfl⟩
          try simp only [Act.put, List.setIfInBounds_toArray, List.set_cons_zero, List.set_cons_succ]
          refine wpAnyH_take (i := 6) (oi := ?o6_40) (v := ?v6_40) ?hi6_40 (by kernel_rfl) (by kernel_rfl) (by kernel_rfl) (fun _ _ _ h => h) ?hy6_40 (by assumption) ?r6_40
          case hi6_40 => simp only [List.getElem?_toArray, List.getElem?_cons_succ, List.getElem?_cons_zero]; rfl
          case hy6_40 => exact Or.inl ⟨by rfl, by (intro w hSw; (try dsimp only at hSw); obtain ⟨⟨p0, p1, p2, p3, p4, p5, p6⟩, ⟨q0, q1⟩, ⟨q2, q3⟩, ⟨q4, q5⟩, q6, q7⟩ := hSw.1.cells; obtain ⟨g0, g1, g2, g3⟩ := HC.out w hSw.1.bel; clear g3; go_simp) <;> with_reducible rfl⟩
          try simp only [Act.put, List.setIfInBounds_toArray, List.set_cons_zero, List.set_cons_succ]
          refine wpAnyH_ready (rs := [1, 12]) (by kernel_rfl) (by simp) ?_
          refine AllReadyH.cons (o := ?o1_41) ?hi1_41 (fun K hK => ?st1_41) (AllReadyH.cons (o := ?o12_41) ?hi12_41 (fun K hK => ?st12_41) AllReadyH.nil)
          case hi1_41 => simp only [List.getElem?_toArray, List.getElem?_cons_succ, List.getElem?_cons_zero]; rfl
          case hi12_41 => simp only [List.getElem?_toArray, List.getElem?_cons_succ, List.getElem?_cons_zero]; rfl
          case st1_41 =>
            go_simp
            (go_at_call 15; refine (rng_any a b nt _).mono ?_; rintro e u41 ⟨rfl, hbl⟩)
            have hPrev := hHeld
            refine hK.out _ _ ?_ (fun hHeld => ?_)
            · (try dsimp only); exact Lz.below hPrev hbl
            clear hK K
            try simp only [Act.put, List.setIfInBounds_toArray, List.set_cons_zero, List.set_cons_succ]
            clear hPrev hbl
            refine wpAnyH_ready (rs := [7, 12]) (by kernel_rfl) (by simp) ?_
            refine AllReadyH.cons (o := ?o7_42) ?hi7_42 (fun K hK => ?st7_42) (AllReadyH.cons (o := ?o12_42) ?hi12_42 (fun K hK => ?st12_42) AllReadyH.nil)
            case hi7_42 => simp only [List.getElem?_toArray, List.getElem?_cons_succ, List.getElem?_cons_zero]; rfl
            case hi12_42 => simp only [List.getElem?_toArray, List.getElem?_cons_succ, List.getElem?_cons_zero]; rfl
            case st7_42 =>
              go_simp
              (go_at_call 23; refine (line_any N ltst bo hs.length bc _).mono ?_; rintro e u42 ⟨rfl, hbl⟩)
              have hPrev := hHeld
              refine hK.out _ _ ?_ (fun hHeld => ?_)
              · (try dsimp only); exact Lz.below hPrev hbl
              clear hK K
              try simp only [Act.put, List.setIfInBounds_toArray, List.set_cons_zero, List.set_cons_succ]
              clear hPrev hbl
              refine wpAnyH_ready (rs := [8, 12]) (by kernel_rfl) (by simp) ?_
              refine AllReadyH.cons (o := ?o8_43) ?hi8_43 (fun K hK => ?st8_43) (AllReadyH.cons (o := ?o12_43) ?hi12_43 (fun K hK => ?st12_43) AllReadyH.nil)
              case hi8_43 => simp only [List.getElem?_toArray, List.getElem?_cons_succ, List.getElem?_cons_zero]; rfl
              case hi12_43 => simp only [List.getElem?_toArray, List.getElem?_cons_succ, List.getElem?_cons_zero]; rfl
              case st8_43 =>
                go_simp
                (go_at_call 25; refine (HA2.out _ hHeld.1.bel).mono ?_; rintro e u43 ⟨rfl, hbl⟩)
                have hPrev := hHeld
                refine hK.out _ _ ?_ (fun hHeld => ?_)
                · (try dsimp only); exact Lz.below hPrev hbl
                clear hK K
                try simp only [Act.put, List.setIfInBounds_toArray, List.set_cons_zero, List.set_cons_succ]
                clear hPrev hbl
                refine wpAnyH_take (i := 9) (oi := ?o9_8_43) (v := ?v9_8_43) ?hi9_8_43 (by kernel_rfl) (by kernel_rfl) (by kernel_rfl) (fun _ _ _ h => h) ?hy9_8_43 (by assumption) ?r9_8_43
                case hi9_8_43 => simp only [List.getElem?_toArray, List.getElem?_cons_succ, List.getElem?_cons_zero]; rfl
                case hy9_8_43 => exact Or.inl ⟨by rfl, by (intro w hSw; (try dsimp only at hSw); obtain ⟨⟨p0, p1, p2, p3, p4, p5, p6⟩, ⟨q0, q1⟩, ⟨q2, q3⟩, ⟨q4, q5⟩, q6, q7⟩ := hSw.1.cells; obtain ⟨g0, g1, g2, g3⟩ := HC.out w hSw.1.bel; clear g3; go_simp) <;> with_reducible rfl⟩
                try simp only [Act.put, List.setIfInBounds_toArray, List.set_cons_zero, List.set_cons_succ]
                refine wpAnyH_take (i := 10) (oi := ?o10_8_43) (v := ?v10_8_43) ?hi10_8_43 (by kernel_rfl) (by kernel_rfl) (by kernel_rfl) (fun _ _ _ h => h) ?hy10_8_43 (by assumption) ?r10_8_43
                case hi10_8_43 => simp only [List.getElem?_toArray, List.getElem?_cons_succ, List.getElem?_cons_zero]; rfl
                case hy10_8_43 => exact Or.inl ⟨by rfl, by (intro w hSw; (try dsimp only at hSw); obtain ⟨⟨p0, p1, p2, p3, p4, p5, p6⟩, ⟨q0, q1⟩, ⟨q2, q3⟩, ⟨q4, q5⟩, q6, q7⟩ := hSw.1.cells; obtain ⟨g0, g1, g2, g3⟩ := HC.out w hSw.1.bel; clear g3; go_simp) <;> with_reducible rfl⟩
                try simp only [Act.put, List.setIfInBounds_toArray, List.set_cons_zero, List.set_cons_succ]
                refine wpAnyH_take (i := 11) (oi := ?o11_8_43) (v := ?v11_8_43) ?hi11_8_43 (by kernel_rfl) (by kernel_rfl) (by kernel_rfl) (fun _ _ _ h => h) ?hy11_8_43 (by assumption) ?r11_8_43
                case hi11_8_43 => simp only [List.getElem?_toArray, List.getElem?_cons_succ, List.getElem?_cons_zero]; rfl
                case hy11_8_43 => exact Or.inl ⟨by rfl, by (intro w hSw; (try dsimp only at hSw); obtain ⟨⟨p0, p1, p2, p3, p4, p5, p6⟩, ⟨q0, q1⟩, ⟨q2, q3⟩, ⟨q4, q5⟩, q6, q7⟩ := hSw.1.cells; obtain ⟨g0, g1, g2, g3⟩ := HC.out w hSw.1.bel; clear g3; go_simp) <;> with_reducible rfl⟩
                try simp only [Act.put, List.setIfInBounds_toArray, List.set_cons_zero, List.set_cons_succ]
                refine wpAnyH_ready (rs := [12]) (by kernel_rfl) (by simp) ?_
                refine AllReadyH.cons (o := ?o12_44) ?hi12_44 (fun K hK => ?st12_44) AllReadyH.nil
                case hi12_44 => simp only [List.getElem?_toArray, List.getElem?_cons_succ, List.getElem?_cons_zero]; rfl
                case st12_44 =>
                  go_simp
                  have hPrev := hHeld
                  refine hK.out _ _ ?_ (fun hHeld => ?_)
                  · (try dsimp only); exact Lz.below hPrev ((Below.refl _ _).alloc (Nat.le_refl _) _)
                  clear hK K
                  try simp only [Act.put, List.setIfInBounds_toArray, List.set_cons_zero, List.set_cons_succ]
                  have HZ := Lib.hid (zr_of hPrev)
                  clear hPrev
                  revert HZ hHeld
                  generalize hW44 : World.alloc _ _ = v44
                  intro hHeld HZ
                  clear hW44
                  refine wpAnyH_take (i := 13) (oi := ?o13_f45) (v := ?v13_f45) ?hi13_f45 (by kernel_rfl) (by kernel_rfl) (by kernel_rfl) (fun _ _ _ h => h) ?hy13_f45 (by assumption) ?r13_f45
                  case hi13_f45 => simp only [List.getElem?_toArray, List.getElem?_cons_succ, List.getElem?_cons_zero]; rfl
                  case hy13_f45 => exact Or.inl ⟨by rfl, by (intro w hSw; (try dsimp only at hSw); obtain ⟨⟨p0, p1, p2, p3, p4, p5, p6⟩, ⟨q0, q1⟩, ⟨q2, q3⟩, ⟨q4, q5⟩, q6, q7⟩ := hSw.1.cells; obtain ⟨g0, g1, g2, g3⟩ := HC.out w hSw.1.bel; clear g3; go_simp) <;> with_reducible rfl⟩
                  try simp only [Act.put, List.setIfInBounds_toArray, List.set_cons_zero, List.set_cons_succ]
                  have HS := Lib.hid hHeld
                  obtain ⟨z0, z1⟩ := sc_cells HZ.out.1
                  obtain ⟨z2, z3⟩ := sc_unfrozen HZ.out.1
                  refine wpAnyH_ready (rs := [14]) (by kernel_rfl) (by simp) ?_
                  refine AllReadyH.cons (o := ?oz45) ?hiz45 (fun K hK => ?stz45) AllReadyH.nil
                  case hiz45 => simp only [List.getElem?_toArray, List.getElem?_cons_succ, List.getElem?_cons_zero]; rfl
                  go_simp
                  refine hK.out _ _ ?_ (fun hHeld => ?_)
                  · (try dsimp only); exact Lz.put HS.out HZ.out.2 _ _
                  clear hK K
                  try simp only [Act.put, List.setIfInBounds_toArray, List.set_cons_zero, List.set_cons_succ]
                  have HN := Lib.hid (sc_put HZ.out.1 (s2.op) (s2.to))
                  have HL2 := Lib.hid hHeld
                  clear hHeld HS z0 z1 z2 z3
                  refine wpAnyH_done (by kernel_rfl) ?_ _
                  refine NoPanic.normal ?_
                  have HE0 := Lib.hid HL2.out.1
                  have HN9 := Lib.hid (And.intro HL2.out.2.1 HL2.out.2.2)
                  have HN0 := Lib.hid (And.intro HN.out HZ.out.2)
                  clear HL2 HN HZ
                  revert HE0 HN9 HN0
                  generalize World.setCell (World.setCell _ _ _) _ _ = W10
                  generalize u43.heap.size = n92
                  intro HE0 HN9 HN0
                  have HE1 := Lib.hid (HE0.out.set1 s2)
                  have HE2 := Lib.hid (HE1.out.set2 s2)
                  obtain ⟨_, ⟨q0, q1⟩, _, ⟨q4, q5⟩, _, _⟩ := HE0.out.cells
                  obtain ⟨k0, k1⟩ := sc_cells HN9.out.1
                  have HN1 := Lib.hid (keep2 HN0.out.1 (m := w2.heap.size) (by have := HN0.out.2; have := HN9.out.2; omega) (.bool s2.op) (E s2.to))
                  obtain ⟨k2, k3⟩ := sc_cells HN1.out
                  obtain ⟨_, _, ⟨r2, r3⟩, _, r6, r7⟩ := HE1.out.cells
                  obtain ⟨_, ⟨t0, t1⟩, ⟨t2, t3⟩, _, _, _⟩ := HE2.out.cells
                  clear HA2 HSH HN1 HN0 HN9 HE0 HE1
                  go_wp2
                  go_roundw
                  case rel => exact ⟨k + 1, s2, by omega, by go_num, HE2⟩
                  case measure => simp [intOf]; omega
              case st12_43 =>
                go_simp
                have hPrev := hHeld
                refine hK.out _ _ ?_ (fun hHeld => ?_)
                · (try dsimp only); exact Lz.below hPrev ((Below.refl _ _).alloc (Nat.le_refl _) _)
                clear hK K
                try simp only [Act.put, List.setIfInBounds_toArray, List.set_cons_zero, List.set_cons_succ]
                have HZ := Lib.hid (zr_of hPrev)
                clear hPrev
                revert HZ hHeld
                generalize hW43 : World.alloc _ _ = v43
                intro hHeld HZ
                clear hW43
                refine wpAnyH_ready (rs := [8]) (by kernel_rfl) (by simp) ?_
                refine AllReadyH.cons (o := ?o8_46) ?hi8_46 (fun K hK => ?st8_46) AllReadyH.nil
                case hi8_46 => simp only [List.getElem?_toArray, List.getElem?_cons_succ, List.getElem?_cons_zero]; rfl
                case st8_46 =>
                  go_simp
                  (go_at_call 25; refine (HA2.out _ hHeld.1.bel).mono ?_; rintro e u46 ⟨rfl, hbl⟩)
                  have hPrev := hHeld
                  refine hK.out _ _ ?_ (fun hHeld => ?_)
                  · (try dsimp only); exact Lz.below hPrev hbl
                  clear hK K
                  try simp only [Act.put, List.setIfInBounds_toArray, List.set_cons_zero, List.set_cons_succ]
                  have HZ := Lib.hid (zr_below HZ.out hbl)
                  clear hPrev hbl
                  refine wpAnyH_take (i := 9) (oi := ?o9_8_46) (v := ?v9_8_46) ?hi9_8_46 (by kernel_rfl) (by kernel_rfl) (by kernel_rfl) (fun _ _ _ h => h) ?hy9_8_46 (by assumption) ?r9_8_46
                  case hi9_8_46 => simp only [List.getElem?_toArray, List.getElem?_cons_succ, List.getElem?_cons_zero]; rfl
                  case hy9_8_46 => exact Or.inl ⟨by rfl, by (intro w hSw; (try dsimp only at hSw); obtain ⟨⟨p0, p1, p2, p3, p4, p5, p6⟩, ⟨q0, q1⟩, ⟨q2, q3⟩, ⟨q4, q5⟩, q6, q7⟩ := hSw.1.cells; obtain ⟨g0, g1, g2, g3⟩ := HC.out w hSw.1.bel; clear g3; go_simp) <;> with_reducible rfl⟩
                  try simp only [Act.put, List.setIfInBounds_toArray, List.set_cons_zero, List.set_cons_succ]
                  refine wpAnyH_take (i := 10) (oi := ?o10_8_46) (v := ?v10_8_46) ?hi10_8_46 (by kernel_rfl) (by kernel_rfl) (by kernel_rfl) (fun _ _ _ h => h) ?hy10_8_46 (by assumption) ?r10_8_46
                  case hi10_8_46 => simp only [List.getElem?_toArray, List.getElem?_cons_succ, List.getElem?_cons_zero]; rfl
                  case hy10_8_46 => exact Or.inl ⟨by rfl, by (intro w hSw; (try dsimp only at hSw); obtain ⟨⟨p0, p1, p2, p3, p4, p5, p6⟩, ⟨q0, q1⟩, ⟨q2, q3⟩, ⟨q4, q5⟩, q6, q7⟩ := hSw.1.cells; obtain ⟨g0, g1, g2, g3⟩ := HC.out w hSw.1.bel; clear g3; go_simp) <;> with_reducible rfl⟩
                  try simp only [Act.put, List.setIfInBounds_toArray, List.set_cons_zero, List.set_cons_succ]
                  refine wpAnyH_take (i := 11) (oi := ?o11_8_46) (v := ?v11_8_46) ?hi11_8_46 (by kernel_rfl) (by kernel_rfl) (by kernel_rfl) (fun _ _ _ h => h) ?hy11_8_46 (by assumption) ?r11_8_46
                  case hi11_8_46 => simp only [List.getElem?_toArray, List.getElem?_cons_succ, List.getElem?_cons_zero]; rfl
                  case hy11_8_46 => exact Or.inl ⟨by rfl, by (intro w hSw; (try dsimp only at hSw); obtain ⟨⟨p0, p1, p2, p3, p4, p5, p6⟩, ⟨q0, q1⟩, ⟨q2, q3⟩, ⟨q4, q5⟩, q6, q7⟩ := hSw.1.cells; obtain ⟨g0, g1, g2, g3⟩ := HC.out w hSw.1.bel; clear g3; go_simp) <;> with_reducible rfl⟩
                  try simp only [Act.put, List.setIfInBounds_toArray, List.set_cons_zero, List.set_cons_succ]
                  refine wpAnyH_take (i := 13) (oi := ?o13_f47) (v := ?v13_f47) ?hi13_f47 (by kernel_rfl) (by kernel_rfl) (by kernel_rfl) (fun _ _ _ h => h) ?hy13_f47 (by assumption) ?r13_f47
                  case hi13_f47 => simp only [List.getElem?_toArray, List.getElem?_cons_succ, List.getElem?_cons_zero]; rfl
                  case hy13_f47 => exact Or.inl ⟨by rfl, by (intro w hSw; (try dsimp only at hSw); obtain ⟨⟨p0, p1, p2, p3, p4, p5, p6⟩, ⟨q0, q1⟩, ⟨q2, q3⟩, ⟨q4, q5⟩, q6, q7⟩ := hSw.1.cells; obtain ⟨g0, g1, g2, g3⟩ := HC.out w hSw.1.bel; clear g3; go_simp) <;> with_reducible rfl⟩
                  try simp only [Act.put, List.setIfInBounds_toArray, List.set_cons_zero, List.set_cons_succ]
                  have HS := Lib.hid hHeld
                  obtain ⟨z0, z1⟩ := sc_cells HZ.out.1
                  obtain ⟨z2, z3⟩ := sc_unfrozen HZ.out.1
                  refine wpAnyH_ready (rs := [14]) (by kernel_rfl) (by simp) ?_
                  refine AllReadyH.cons (o := ?oz47) ?hiz47 (fun K hK => ?stz47) AllReadyH.nil
                  case hiz47 => simp only [List.getElem?_toArray, List.getElem?_cons_succ, List.getElem?_cons_zero]; rfl
                  go_simp
                  refine hK.out _ _ ?_ (fun hHeld => ?_)
                  · (try dsimp only); exact Lz.put HS.out HZ.out.2 _ _
                  clear hK K
                  try simp only [Act.put, List.setIfInBounds_toArray, List.set_cons_zero, List.set_cons_succ]
                  have HN := Lib.hid (sc_put HZ.out.1 (s2.op) (s2.to))
                  have HL2 := Lib.hid hHeld
                  clear hHeld HS z0 z1 z2 z3
                  refine wpAnyH_done (by kernel_rfl) ?_ _
                  refine NoPanic.normal ?_
                  have HE0 := Lib.hid HL2.out.1
                  have HN9 := Lib.hid (And.intro HL2.out.2.1 HL2.out.2.2)
                  have HN0 := Lib.hid (And.intro HN.out HZ.out.2)
                  clear HL2 HN HZ
                  revert HE0 HN9 HN0
                  generalize World.setCell (World.setCell _ _ _) _ _ = W10
                  generalize u42.heap.size = n92
                  intro HE0 HN9 HN0
                  have HE1 := Lib.hid (HE0.out.set1 s2)
                  have HE2 := Lib.hid (HE1.out.set2 s2)
                  obtain ⟨_, ⟨q0, q1⟩, _, ⟨q4, q5⟩, _, _⟩ := HE0.out.cells
                  obtain ⟨k0, k1⟩ := sc_cells HN9.out.1
                  have HN1 := Lib.hid (keep2 HN0.out.1 (m := w2.heap.size) (by have := HN0.out.2; have := HN9.out.2; omega) (.bool s2.op) (E s2.to))
                  obtain ⟨k2, k3⟩ := sc_cells HN1.out
                  obtain ⟨_, _, ⟨r2, r3⟩, _, r6, r7⟩ := HE1.out.cells
                  obtain ⟨_, ⟨t0, t1⟩, ⟨t2, t3⟩, _, _, _⟩ := HE2.out.cells
                  clear HA2 HSH HN1 HN0 HN9 HE0 HE1
                  go_wp2
                  go_roundw
                  case rel => exact ⟨k + 1, s2, by omega, by go_num, HE2⟩
                  case measure => simp [intOf]; omega
            case st12_42 =>
              go_simp
              have hPrev := hHeld
              refine hK.out _ _ ?_ (fun hHeld => ?_)
              · (try dsimp only); exact Lz.below hPrev ((Below.refl _ _).alloc (Nat.le_refl _) _)
              clear hK K
              try simp only [Act.put, List.setIfInBounds_toArray, List.set_cons_zero, List.set_cons_succ]
              have HZ := Lib.hid (zr_of hPrev)
              clear hPrev
              revert HZ hHeld
              generalize hW42 : World.alloc _ _ = v42
              intro hHeld HZ
              clear hW42
              refine wpAnyH_ready (rs := [7]) (by kernel_rfl) (by simp) ?_
              refine AllReadyH.cons (o := ?o7_48) ?hi7_48 (fun K hK => ?st7_48) AllReadyH.nil
              case hi7_48 => simp only [List.getElem?_toArray, List.getElem?_cons_succ, List.getElem?_cons_zero]; rfl
              case st7_48 =>
                go_simp
                (go_at_call 23; refine (line_any N ltst bo hs.length bc _).mono ?_; rintro e u48 ⟨rfl, hbl⟩)
                have hPrev := hHeld
                refine hK.out _ _ ?_ (fun hHeld => ?_)
                · (try dsimp only); exact Lz.below hPrev hbl
                clear hK K
                try simp only [Act.put, List.setIfInBounds_toArray, List.set_cons_zero, List.set_cons_succ]
                have HZ := Lib.hid (zr_below HZ.out hbl)
                clear hPrev hbl
                refine wpAnyH_ready (rs := [8]) (by kernel_rfl) (by simp) ?_
                refine AllReadyH.cons (o := ?o8_49) ?hi8_49 (fun K hK => ?st8_49) AllReadyH.nil
                case hi8_49 => simp only [List.getElem?_toArray, List.getElem?_cons_succ, List.getElem?_cons_zero]; rfl
                case st8_49 =>
                  go_simp
                  (go_at_call 25; refine (HA2.out _ hHeld.1.bel).mono ?_; rintro e u49 ⟨rfl, hbl⟩)
                  have hPrev := hHeld
                  refine hK.out _ _ ?_ (fun hHeld => ?_)
                  · (try dsimp only); exact Lz.below hPrev hbl
                  clear hK K
                  try simp only [Act.put, List.setIfInBounds_toArray, List.set_cons_zero, List.set_cons_succ]
                  have HZ := Lib.hid (zr_below HZ.out hbl)
                  clear hPrev hbl
                  refine wpAnyH_take (i := 9) (oi := ?o9_8_49) (v := ?v9_8_49) ?hi9_8_49 (by kernel_rfl) (by kernel_rfl) (by kernel_rfl) (fun _ _ _ h => h) ?hy9_8_49 (by assumption) ?r9_8_49
                  case hi9_8_49 => simp only [List.getElem?_toArray, List.getElem?_cons_succ, List.getElem?_cons_zero]; rfl
                  case hy9_8_49 => exact Or.inl ⟨by rfl, by (intro w hSw; (try dsimp only at hSw); obtain ⟨⟨p0, p1, p2, p3, p4, p5, p6⟩, ⟨q0, q1⟩, ⟨q2, q3⟩, ⟨q4, q5⟩, q6, q7⟩ := hSw.1.cells; obtain ⟨g0, g1, g2, g3⟩ := HC.out w hSw.1.bel; clear g3; go_simp) <;> with_reducible rfl⟩
                  try simp only [Act.put, List.setIfInBounds_toArray, List.set_cons_zero, List.set_cons_succ]
                  refine wpAnyH_take (i := 10) (oi := ?o10_8_49) (v := ?v10_8_49) ?hi10_8_49 (by kernel_rfl) (by kernel_rfl) (by kernel_rfl) (fun _ _ _ h => h) ?hy10_8_49 (by assumption) ?r10_8_49
                  case hi10_8_49 => simp only [List.getElem?_toArray, List.getElem?_cons_succ, List.getElem?_cons_zero]; rfl
                  case hy10_8_49 => exact Or.inl ⟨by rfl, by (intro w hSw; (try dsimp only at hSw); obtain ⟨⟨p0, p1, p2, p3, p4, p5, p6⟩, ⟨q0, q1⟩, ⟨q2, q3⟩, ⟨q4, q5⟩, q6, q7⟩ := hSw.1.cells; obtain ⟨g0, g1, g2, g3⟩ := HC.out w hSw.1.bel; clear g3; go_simp) <;> with_reducible rfl⟩
                  try simp only [Act.put, List.setIfInBounds_toArray, List.set_cons_zero, List.set_cons_succ]
                  refine wpAnyH_take (i := 11) (oi := ?o11_8_49) (v := ?v11_8_49) ?hi11_8_49 (by kernel_rfl) (by kernel_rfl) (by kernel_rfl) (fun _ _ _ h => h) ?hy11_8_49 (by assumption) ?r11_8_49
                  case hi11_8_49 => simp only [List.getElem?_toArray, List.getElem?_cons_succ, List.getElem?_cons_zero]; rfl
                  case hy11_8_49 => exact Or.inl ⟨by rfl, by (intro w hSw; (try dsimp only at hSw); obtain ⟨⟨p0, p1, p2, p3, p4, p5, p6⟩, ⟨q0, q1⟩, ⟨q2, q3⟩, ⟨q4, q5⟩, q6, q7⟩ := hSw.1.cells; obtain ⟨g0, g1, g2, g3⟩ := HC.out w hSw.1.bel; clear g3; go_simp) <;> with_reducible rfl⟩
                  try simp only [Act.put, List.setIfInBounds_toArray, List.set_cons_zero, List.set_cons_succ]
                  refine wpAnyH_take (i := 13) (oi := ?o13_f50) (v := ?v13_f50) ?hi13_f50 (by kernel_rfl) (by kernel_rfl) (by kernel_rfl) (fun _ _ _ h => h) ?hy13_f50 (by assumption) ?r13_f50
                  case hi13_f50 => simp only [List.getElem?_toArray, List.getElem?_cons_succ, List.getElem?_cons_zero]; rfl
                  case hy13_f50 => exact Or.inl ⟨by rfl, by (intro w hSw; (try dsimp only at hSw); obtain ⟨⟨p0, p1, p2, p3, p4, p5, p6⟩, ⟨q0, q1⟩, ⟨q2, q3⟩, ⟨q4, q5⟩, q6, q7⟩ := hSw.1.cells; obtain ⟨g0, g1, g2, g3⟩ := HC.out w hSw.1.bel; clear g3; go_simp) <;> with_reducible rfl⟩
                  try simp only [Act.put, List.setIfInBounds_toArray, List.set_cons_zero, List.set_cons_succ]
                  have HS := Lib.hid hHeld
                  obtain ⟨z0, z1⟩ := sc_cells HZ.out.1
                  obtain ⟨z2, z3⟩ := sc_unfrozen HZ.out.1
                  refine wpAnyH_ready (rs := [14]) (by kernel_rfl) (by simp) ?_
                  refine AllReadyH.cons (o := ?oz50) ?hiz50 (fun K hK => ?stz50) AllReadyH.nil
                  case hiz50 => simp only [List.getElem?_toArray, List.getElem?_cons_succ, List.getElem?_cons_zero]; rfl
                  go_simp
                  refine hK.out _ _ ?_ (fun hHeld => ?_)
                  · (try dsimp only); exact Lz.put HS.out HZ.out.2 _ _
                  clear hK K
                  try simp only [Act.put, List.setIfInBounds_toArray, List.set_cons_zero, List.set_cons_succ]
                  have HN := Lib.hid (sc_put HZ.out.1 (s2.op) (s2.to))
                  have HL2 := Lib.hid hHeld
                  clear hHeld HS z0 z1 z2 z3
                  refine wpAnyH_done (by kernel_rfl) ?_ _
                  refine NoPanic.normal ?_
                  have HE0 := Lib.hid HL2.out.1
                  have HN9 := Lib.hid (And.intro HL2.out.2.1 HL2.out.2.2)
                  have HN0 := Lib.hid (And.intro HN.out HZ.out.2)
                  clear HL2 HN HZ
                  revert HE0 HN9 HN0
                  generalize World.setCell (World.setCell _ _ _) _ _ = W10
                  generalize u41.heap.size = n92
                  intro HE0 HN9 HN0
                  have HE1 := Lib.hid (HE0.out.set1 s2)
                  have HE2 := Lib.hid (HE1.out.set2 s2)
                  obtain ⟨_, ⟨q0, q1⟩, _, ⟨q4, q5⟩, _, _⟩ := HE0.out.cells
                  obtain ⟨k0, k1⟩ := sc_cells HN9.out.1
                  have HN1 := Lib.hid (keep2 HN0.out.1 (m := w2.heap.size) (by have := HN0.out.2; have := HN9.out.2; omega) (.bool s2.op) (E s2.to))
                  obtain ⟨k2, k3⟩ := sc_cells HN1.out
                  obtain ⟨_, _, ⟨r2, r3⟩, _, r6, r7⟩ := HE1.out.cells
                  obtain ⟨_, ⟨t0, t1⟩, ⟨t2, t3⟩, _, _, _⟩ := HE2.out.cells
                  clear HA2 HSH HN1 HN0 HN9 HE0 HE1
                  go_wp2
                  go_roundw
                  case rel => exact ⟨k + 1, s2, by omega, by go_num, HE2⟩
                  case measure => simp [intOf]; omega
          case st12_41 =>
            go_simp
            have hPrev := hHeld
            refine hK.out _ _ ?_ (fun hHeld => ?_)
            · (try dsimp only); exact Lz.below hPrev ((Below.refl _ _).alloc (Nat.le_refl _) _)
            clear hK K
            try simp only [Act.put, List.setIfInBounds_toArray, List.set_cons_zero, List.set_cons_succ]
            have HZ := Lib.hid (zr_of hPrev)
            clear hPrev
            revert HZ hHeld
            generalize hW41 : World.alloc _ _ = v41
            intro hHeld HZ
            clear hW41
            refine wpAnyH_ready (rs := [1]) (by kernel_rfl) (by simp) ?_
            refine AllReadyH.cons (o := ?o1_51) ?hi1_51 (fun K hK => ?st1_51) AllReadyH.nil
            case hi1_51 => simp only [List.getElem?_toArray, List.getElem?_cons_succ, List.getElem?_cons_zero]; rfl
            case st1_51 =>
              go_simp
              (go_at_call 15; refine (rng_any a b nt _).mono ?_; rintro e u51 ⟨rfl, hbl⟩)
              have hPrev := hHeld
              refine hK.out _ _ ?_ (fun hHeld => ?_)
              · (try dsimp only); exact Lz.below hPrev hbl
              clear hK K
              try simp only [Act.put, List.setIfInBounds_toArray, List.set_cons_zero, List.set_cons_succ]
              have HZ := Lib.hid (zr_below HZ.out hbl)
              clear hPrev hbl
              refine wpAnyH_ready (rs := [7]) (by kernel_rfl) (by simp) ?_
              refine AllReadyH.cons (o := ?o7_52) ?hi7_52 (fun K hK => ?st7_52) AllReadyH.nil
              case hi7_52 => simp only [List.getElem?_toArray, List.getElem?_cons_succ, List.getElem?_cons_zero]; rfl
              case st7_52 =>
                go_simp
                (go_at_call 23; refine (line_any N ltst bo hs.length bc _).mono ?_; rintro e u52 ⟨rfl, hbl⟩)
                have hPrev := hHeld
                refine hK.out _ _ ?_ (fun hHeld => ?_)
                · (try dsimp only); exact Lz.below hPrev hbl
                clear hK K
                try simp only [Act.put, List.setIfInBounds_toArray, List.set_cons_zero, List.set_cons_succ]
                have HZ := Lib.hid (zr_below HZ.out hbl)
                clear hPrev hbl
                refine wpAnyH_ready (rs := [8]) (by kernel_rfl) (by simp) ?_
                refine AllReadyH.cons (o := ?o8_53) ?hi8_53 (fun K hK => ?st8_53) AllReadyH.nil
                case hi8_53 => simp only [List.getElem?_toArray, List.getElem?_cons_succ, List.getElem?_cons_zero]; rfl
                case st8_53 =>
                  go_simp
                  (go_at_call 25; refine (HA2.out _ hHeld.1.bel).mono ?_; rintro e u53 ⟨rfl, hbl⟩)
                  have hPrev := hHeld
                  refine hK.out _ _ ?_ (fun hHeld => ?_)
                  · (try dsimp only); exact Lz.below hPrev hbl
                  clear hK K
                  try simp only [Act.put, List.setIfInBounds_toArray, List.set_cons_zero, List.set_cons_succ]
                  have HZ := Lib.hid (zr_below HZ.out hbl)
                  clear hPrev hbl
                  refine wpAnyH_take (i := 9) (oi := ?o9_8_53) (v := ?v9_8_53) ?hi9_8_53 (by kernel_rfl) (by kernel_rfl) (by kernel_rfl) (fun _ _ _ h => h) ?hy9_8_53 (by assumption) ?r9_8_53
                  case hi9_8_53 => simp only [List.getElem?_toArray, List.getElem?_cons_succ, List.getElem?_cons_zero]; rfl
                  case hy9_8_53 => exact Or.inl ⟨by rfl, by (intro w hSw; (try dsimp only at hSw); obtain ⟨⟨p0, p1, p2, p3, p4, p5, p6⟩, ⟨q0, q1⟩, ⟨q2, q3⟩, ⟨q4, q5⟩, q6, q7⟩ := hSw.1.cells; obtain ⟨g0, g1, g2, g3⟩ := HC.out w hSw.1.bel; clear g3; go_simp) <;> with_reducible rfl⟩
                  try simp only [Act.put, List.setIfInBounds_toArray, List.set_cons_zero, List.set_cons_succ]
                  refine wpAnyH_take (i := 10) (oi := ?o10_8_53) (v := ?v10_8_53) ?hi10_8_53 (by kernel_rfl) (by kernel_rfl) (by kernel_rfl) (fun _ _ _ h => h) ?hy10_8_53 (by assumption) ?r10_8_53
                  case hi10_8_53 => simp only [List.getElem?_toArray, List.getElem?_cons_succ, List.getElem?_cons_zero]; rfl
                  case hy10_8_53 => exact Or.inl ⟨by rfl, by (intro w hSw; (try dsimp only at hSw); obtain ⟨⟨p0, p1, p2, p3, p4, p5, p6⟩, ⟨q0, q1⟩, ⟨q2, q3⟩, ⟨q4, q5⟩, q6, q7⟩ := hSw.1.cells; obtain ⟨g0, g1, g2, g3⟩ := HC.out w hSw.1.bel; clear g3; go_simp) <;> with_reducible rfl⟩
                  try simp only [Act.put, List.setIfInBounds_toArray, List.set_cons_zero, List.set_cons_succ]
                  refine wpAnyH_take (i := 11) (oi := ?o11_8_53) (v := ?v11_8_53) ?hi11_8_53 (by kernel_rfl) (by kernel_rfl) (by kernel_rfl) (fun _ _ _ h => h) ?hy11_8_53 (by assumption) ?r11_8_53
                  case hi11_8_53 => simp only [List.getElem?_toArray, List.getElem?_cons_succ, List.getElem?_cons_zero]; rfl
                  case hy11_8_53 => exact Or.inl ⟨by rfl, by (intro w hSw; (try dsimp only at hSw); obtain ⟨⟨p0, p1, p2, p3, p4, p5, p6⟩, ⟨q0, q1⟩, ⟨q2, q3⟩, ⟨q4, q5⟩, q6, q7⟩ := hSw.1.cells; obtain ⟨g0, g1, g2, g3⟩ := HC.out w hSw.1.bel; clear g3; go_simp) <;> with_reducible rfl⟩
                  try simp only [Act.put, List.setIfInBounds_toArray, List.set_cons_zero, List.set_cons_succ]
                  refine wpAnyH_take (i := 13) (oi := ?o13_f54) (v := ?v13_f54) ?hi13_f54 (by kernel_rfl) (by kernel_rfl) (by kernel_rfl) (fun _ _ _ h => h) ?hy13_f54 (by assumption) ?r13_f54
                  case hi13_f54 => simp only [List.getElem?_toArray, List.getElem?_cons_succ, List.getElem?_cons_zero]; rfl
                  case hy13_f54 => exact Or.inl ⟨by rfl, by (intro w hSw; (try dsimp only at hSw); obtain ⟨⟨p0, p1, p2, p3, p4, p5, p6⟩, ⟨q0, q1⟩, ⟨q2, q3⟩, ⟨q4, q5⟩, q6, q7⟩ := hSw.1.cells; obtain ⟨g0, g1, g2, g3⟩ := HC.out w hSw.1.bel; clear g3; go_simp) <;> with_reducible rfl⟩
                  try simp only [Act.put, List.setIfInBounds_toArray, List.set_cons_zero, List.set_cons_succ]
                  have HS := Lib.hid hHeld
                  obtain ⟨z0, z1⟩ := sc_cells HZ.out.1
                  obtain ⟨z2, z3⟩ := sc_unfrozen HZ.out.1
                  refine wpAnyH_ready (rs := [14]) (by kernel_rfl) (by simp) ?_
                  refine AllReadyH.cons (o := ?oz54) ?hiz54 (fun K hK => ?stz54) AllReadyH.nil
                  case hiz54 => simp only [List.getElem?_toArray, List.getElem?_cons_succ, List.getElem?_cons_zero]; rfl
                  go_simp
                  refine hK.out _ _ ?_ (fun hHeld => ?_)
                  · (try dsimp only); exact Lz.put HS.out HZ.out.2 _ _
                  clear hK K
                  try simp only [Act.put, List.setIfInBounds_toArray, List.set_cons_zero, List.set_cons_succ]
                  have HN := Lib.hid (sc_put HZ.out.1 (s2.op) (s2.to))
                  have HL2 := Lib.hid hHeld
                  clear hHeld HS z0 z1 z2 z3
                  refine wpAnyH_done (by kernel_rfl) ?_ _
                  refine NoPanic.normal ?_
                  have HE0 := Lib.hid HL2.out.1
                  have HN9 := Lib.hid (And.intro HL2.out.2.1 HL2.out.2.2)
                  have HN0 := Lib.hid (And.intro HN.out HZ.out.2)
                  clear HL2 HN HZ
                  revert HE0 HN9 HN0
                  generalize World.setCell (World.setCell _ _ _) _ _ = W10
                  generalize we.heap.size = n92
                  intro HE0 HN9 HN0
                  have HE1 := Lib.hid (HE0.out.set1 s2)
                  have HE2 := Lib.hid (HE1.out.set2 s2)
                  obtain ⟨_, ⟨q0, q1⟩, _, ⟨q4, q5⟩, _, _⟩ := HE0.out.cells
                  obtain ⟨k0, k1⟩ := sc_cells HN9.out.1
                  have HN1 := Lib.hid (keep2 HN0.out.1 (m := w2.heap.size) (by have := HN0.out.2; have := HN9.out.2; omega) (.bool s2.op) (E s2.to))
                  obtain ⟨k2, k3⟩ := sc_cells HN1.out
                  obtain ⟨_, _, ⟨r2, r3⟩, _, r6, r7⟩ := HE1.out.cells
                  obtain ⟨_, ⟨t0, t1⟩, ⟨t2, t3⟩, _, _, _⟩ := HE2.out.cells
                  clear HA2 HSH HN1 HN0 HN9 HE0 HE1
                  go_wp2
                  go_roundw
                  case rel => exact ⟨k + 1, s2, by omega, by go_num, HE2⟩
                  case measure => simp [intOf]; omega
    · have hlt' : ¬ ((k : Nat) : Int) < (ls.length : Int) := by omega
      go_wp2
      go_ret
      exact ⟨rfl, HR.out.bel⟩
set_option maxRecDepth 100000 in
set_option maxHeartbeats 3200000 in
theorem asks_big (a b : A3) (nt : Bool) (ao : Option Addr) (l c : Nat) (w : World) (hL : Lay w) (hl : 60 < l) :
    Calls Tryd.prog 5 #[RV a b nt, .slice ao l c] w fun e w' => e = .returned (.bool true) ∧ Below w.heap.size w w' := by
  have hl' : (60 : Int) < (l : Int) := by omega
  have HSH := Lib.hid (fun w1 (h : Below w.heap.size w w1) => shown_at w w1 hL h)
  have HM := Lib.hid (fun w' => may_any a b nt w')
  have HB0 := Lib.hid ((Below.refl w.heap.size w).alloc (Nat.le_refl _) (Obj.cells #[E a.k, E a.n, E a.m, E b.k, E b.n, E b.m, .bool nt] 25))
  go_enter Tryd.func5, Tryd.ntmps5
  go_wp2_with (go_at_call 12; refine (HSH.out _ HB0.out).mono ?_; rintro e w2 ⟨rfl, hb⟩; have HB2 := Lib.hid (HB0.out.trans (hb.mono HB0.out.size)); clear hb)
  go_ret
  exact ⟨rfl, HB2.out⟩
set_option maxRecDepth 100000 in
set_option maxHeartbeats 3200000 in
theorem asks_may (a b : A3) (nt : Bool) (ao : Option Addr) (l c : Nat) (w : World) (hL : Lay w) (hl : l ≤ 60) (hm : ¬ May a b) :
    Calls Tryd.prog 5 #[RV a b nt, .slice ao l c] w fun e w' => e = .returned (.bool true) ∧ Below w.heap.size w w' := by
  have hl' : ¬ (60 : Int) < (l : Int) := by omega
  have HSH := Lib.hid (fun w1 (h : Below w.heap.size w w1) => shown_at w w1 hL h)
  have HM := Lib.hid (fun w' => may_any a b nt w')
  have HB0 := Lib.hid ((Below.refl w.heap.size w).alloc (Nat.le_refl _) (Obj.cells #[E a.k, E a.n, E a.m, E b.k, E b.n, E b.m, .bool nt] 25))
  rw [decide_eq_false hm] at HM
  go_enter Tryd.func5, Tryd.ntmps5
  go_wp2_with (first
    | (go_at_call 18; refine (HM.out _).mono ?_; rintro e w1 ⟨rfl, hb⟩; have HB1 := Lib.hid (HB0.out.trans (hb.mono HB0.out.size)); clear hb)
    | (go_at_call 12; refine (HSH.out _ HB1.out).mono ?_; rintro e w2 ⟨rfl, hb⟩; have HB2 := Lib.hid (HB1.out.trans (hb.mono HB1.out.size)); clear hb))
  go_ret
  exact ⟨rfl, HB2.out⟩
theorem addrAsks_walk (W : World) (hL : Lay W) (a b : A3) (nt : Bool) (ao : Option Addr) (c : Nat) (ls : List L3) (hm : ls.length ≤ maxLen) (hb : Ls W (.slice ao ls.length c) ls) :
    Calls Tryd.prog 5 #[RV a b nt, .slice ao ls.length c] W fun e w' => e = .returned (.bool true) ∧ Below W.heap.size W w' := by
  by_cases hl : ls.length ≤ 60
  · by_cases h : May a b
    · exact asks_walk a b nt ls ao c W hL h hl hb
    · exact asks_may a b nt ao _ c W hL hl h
  · exact asks_big a b nt ao _ c W hL (by omega)
end Go.Proofs.YtcijhfdccbgcpaaDoor.Ad
