/- AddrNot: the walk. -/
import Derived.Test.YtcijhfdccbgcpaaDoorAdL3
namespace Go.Proofs.YtcijhfdccbgcpaaDoor.Ad
open Go.RowKit Go.Shelf
set_option linter.unusedVariables false
set_option linter.unusedSimpArgs false
/-- A range, the turned one, a state. -/
def Ln (w0 : World) (B0 B : Nat) (a b : A3) (nt : Bool) (s : S2) (w : World) : Prop :=
  RCt 25 w B0 a b nt ∧ Lp w0 B a b (!nt) s w ∧ B0 < B
theorem Ln.below {w0 : World} {B0 B : Nat} {a b : A3} {nt : Bool} {s : S2} {w w' : World} (h : Ln w0 B0 B a b nt s w) (hb : Below w.heap.size w w') : Ln w0 B0 B a b nt s w' := ⟨h.1.below hb, h.2.1.below hb, h.2.2⟩
theorem Ln.cells {w0 : World} {B0 B : Nat} {a b : A3} {nt : Bool} {s : S2} {w : World} (h : Ln w0 B0 B a b nt s w) :
    (w.cell? ⟨B0, 0, none⟩ = some (E a.k) ∧ w.cell? ⟨B0, 1, none⟩ = some (E a.n) ∧ w.cell? ⟨B0, 2, none⟩ = some (E a.m) ∧ w.cell? ⟨B0, 3, none⟩ = some (E b.k) ∧ w.cell? ⟨B0, 4, none⟩ = some (E b.n) ∧ w.cell? ⟨B0, 5, none⟩ = some (E b.m) ∧ w.cell? ⟨B0, 6, none⟩ = some (.bool nt)) ∧
    (w.cell? ⟨B, 0, none⟩ = some (E a.k) ∧ w.cell? ⟨B, 1, none⟩ = some (E a.n) ∧ w.cell? ⟨B, 2, none⟩ = some (E a.m) ∧ w.cell? ⟨B, 3, none⟩ = some (E b.k) ∧ w.cell? ⟨B, 4, none⟩ = some (E b.n) ∧ w.cell? ⟨B, 5, none⟩ = some (E b.m) ∧ w.cell? ⟨B, 6, none⟩ = some (.bool (!nt))) ∧
    (w.cell? ⟨B + 1, 0, none⟩ = some (.bool s.op) ∧ w.cell? ⟨B + 1, 1, none⟩ = some (E s.to)) ∧ w.frozen? ⟨B + 1, 0, none⟩ = false ∧ w.frozen? ⟨B + 1, 1, none⟩ = false := ⟨h.1.cells, h.2.1.cells⟩
theorem RCt.keep {t : TypeId} {w : World} {g : Nat} {a b : A3} {n : Bool} (h : RCt t w g a b n) {m : Nat} (hm : g < m) (x y : Value) : RCt t ((w.setCell ⟨m, 0, none⟩ x).setCell ⟨m, 1, none⟩ y) g a b n := by
  show _ = _
  rw [Below.heap_setCell _ _ _ _ (by simp; omega), Below.heap_setCell _ _ _ _ (by simp; omega)]
  exact h
theorem Ln.put {w0 : World} {B0 B : Nat} {a b : A3} {nt : Bool} {s : S2} {w : World} (h : Ln w0 B0 B a b nt s w) {g : Nat} (hg : B + 1 < g) (x y : Value) : Ln w0 B0 B a b nt s ((w.setCell ⟨g, 0, none⟩ x).setCell ⟨g, 1, none⟩ y) :=
  ⟨h.1.keep (by have := h.2.2; omega) x y, h.2.1.put hg x y, h.2.2⟩
theorem Ln.set {w0 : World} {B0 B : Nat} {a b : A3} {nt : Bool} {s : S2} {w : World} (h : Ln w0 B0 B a b nt s w) (s' : S2) : Ln w0 B0 B a b nt s' ((w.setCell ⟨B + 1, 0, none⟩ (.bool s'.op)).setCell ⟨B + 1, 1, none⟩ (E s'.to)) :=
  ⟨h.1.keep (by have := h.2.2; omega) _ _, h.2.1.set s', h.2.2⟩
theorem zn_of {w0 : World} {B0 B : Nat} {a b : A3} {nt : Bool} {s : S2} {w : World} (h : Ln w0 B0 B a b nt s w) : Zs B w.heap.size (w.alloc (.cells #[.bool false, E 0] 52)) :=
  ⟨heap_alloc_new _ _, lt_heap h.2.1.2.1⟩
/-- .. and a state that was answered. -/
def Lq (w0 : World) (B0 B : Nat) (a b : A3) (nt : Bool) (s : S2) (n : Nat) (s2 : S2) (w : World) : Prop := Ln w0 B0 B a b nt s w ∧ w.heap[n]? = some (.cells #[.bool s2.op, E s2.to] 52 (0, 0)) ∧ B + 1 < n
theorem Lq.below {w0 : World} {B0 B : Nat} {a b : A3} {nt : Bool} {s : S2} {n : Nat} {s2 : S2} {w w' : World} (h : Lq w0 B0 B a b nt s n s2 w) (hb : Below w.heap.size w w') : Lq w0 B0 B a b nt s n s2 w' := ⟨h.1.below hb, (hb.block _ (lt_heap h.2.1)).trans h.2.1, h.2.2⟩
theorem Lq.put {w0 : World} {B0 B : Nat} {a b : A3} {nt : Bool} {s : S2} {n : Nat} {s2 : S2} {w : World} (h : Lq w0 B0 B a b nt s n s2 w) {g : Nat} (hg : n - 1 + 1 < g) (x y : Value) : Lq w0 B0 B a b nt s n s2 ((w.setCell ⟨g, 0, none⟩ x).setCell ⟨g, 1, none⟩ y) := by
  have hn := h.2.2
  refine ⟨h.1.put (by omega) x y, ?_, h.2.2⟩
  rw [Below.heap_setCell _ _ _ _ (by simp; omega), Below.heap_setCell _ _ _ _ (by simp; omega)]
  exact h.2.1
theorem zq_of {w0 : World} {B0 B : Nat} {a b : A3} {nt : Bool} {s : S2} {n : Nat} {s2 : S2} {w : World} (h : Lq w0 B0 B a b nt s n s2 w) : Zs (n - 1) w.heap.size (w.alloc (.cells #[.bool false, E 0] 52)) :=
  ⟨heap_alloc_new _ _, by have := lt_heap h.2.1; have := h.2.2; omega⟩
theorem ask_at (a b : A3) (nt : Bool) (s : S2) (N : Int) (last : Bool) (bo : Option Addr) (bc : Nat) (hs : List Bool) (w : World) (hm : May a b) (hN : 0 ≤ N ∧ N ≤ 999999999) (hb : Bs w (.slice bo hs.length bc) hs) {q x : Bool} {s2 : S2} (h : askL a b s ⟨N, last, hs⟩ = (q, s2)) (hx : (q != nt) = x) :
    Calls Tryd.prog 24 #[RV a b nt, SV2 s, LV N last (.slice bo hs.length bc)] w fun e w' => e = .returned (.tuple #[.bool x, SV2 s2]) ∧ Below w.heap.size w w' := by
  have p := Ask_any a b nt s N last bo bc hs w hm hN hb
  unfold askN at p
  rw [h] at p
  subst hx
  exact p
theorem line_cells {w : World} {ao : Option Addr} {c : Nat} {ls : List L3} (h : Ls w (.slice ao ls.length c) ls) {k : Nat} (hk : k < ls.length) :
    ∃ a, ao = some a ∧ ∃ (N : Int) (last : Bool) (bo : Option Addr) (bc : Nat) (hs : List Bool), ∀ w', Below w.heap.size w w' →
      w'.cell? (a.add (k * 3)) = some (E N) ∧ w'.cell? ⟨(a.add (k * 3)).block, (a.add (k * 3)).off + 1, none⟩ = some (.bool last) ∧ w'.cell? ⟨(a.add (k * 3)).block, (a.add (k * 3)).off + 2, none⟩ = some (.slice bo hs.length bc) ∧ Hid (Bs w' (.slice bo hs.length bc) hs) := by
  obtain ⟨ao', c', hv, hc⟩ := h
  obtain ⟨rfl, rfl⟩ : ao' = ao ∧ c' = c := by simp at hv; exact ⟨hv.1.symm, hv.2.symm⟩
  obtain ⟨a, ha, h0, h1, _, _, bo, bc, h2, h3⟩ := hc k hk
  have e1 : a.add (k * 3 + 1) = ⟨(a.add (k * 3)).block, (a.add (k * 3)).off + 1, none⟩ := (Go.Deep.add_add a (k * 3) 1).symm
  have e2 : a.add (k * 3 + 2) = ⟨(a.add (k * 3)).block, (a.add (k * 3)).off + 2, none⟩ := (Go.Deep.add_add a (k * 3) 2).symm
  rw [e1] at h1
  rw [e2] at h2
  exact ⟨a, ha, _, _, bo, bc, _, fun w' hb => ⟨(hb.cell (p := a.add (k * 3)) (lt_cell h0)).trans h0, (hb.cell (lt_cell h1)).trans h1, (hb.cell (lt_cell h2)).trans h2, Lib.hid (h3.below hb)⟩⟩
set_option maxRecDepth 100000 in
set_option maxHeartbeats 3200000 in
theorem not_walk (a b : A3) (nt : Bool) (ls : List L3) (ao : Option Addr) (c : Nat) (w : World) (hL : Lay w) (hm : May a b) (hl : ls.length ≤ 60) (hb : Ls w (.slice ao ls.length c) ls) :
    Calls Tryd.prog 7 #[RV a b nt, .slice ao ls.length c] w fun e w' => e = .returned (.bool true) ∧ Below w.heap.size w w' := by
  have hl' : ¬ (60 : Int) < (ls.length : Int) := by omega
  have HSH := Lib.hid (fun w1 (h : Below w.heap.size w w1) => shown_at w w1 hL h)
  have HM := Lib.hid (fun w' => may_any a b nt w')
  rw [decide_eq_true hm] at HM
  have HLS := Lib.hid hb
  have HG0 : Hid (RCt 25 (w.alloc (Obj.cells #[E a.k, E a.n, E a.m, E b.k, E b.n, E b.m, .bool nt] 25)) w.heap.size a b nt) := Lib.hid (heap_alloc_new _ _)
  have HB0 := Lib.hid ((Below.refl w.heap.size w).alloc (Nat.le_refl _) (Obj.cells #[E a.k, E a.n, E a.m, E b.k, E b.n, E b.m, .bool nt] 25))
  clear hb
  go_enter Tryd.func7, Tryd.ntmps7
  go_wp2_with (first
    | (go_at_call 18; refine (HM.out _).mono ?_; rintro e w1 ⟨rfl, hb⟩; have HG1 := Lib.hid (HG0.out.below hb); have HB1 := Lib.hid (HB0.out.trans (hb.mono HB0.out.size)); clear hb)
    | (go_at_call 12; refine (HSH.out _ HB1.out).mono ?_; rintro e w2 ⟨rfl, hb⟩; have HG2 := Lib.hid (HG1.out.below hb); have HB2 := Lib.hid (HB1.out.trans (hb.mono HB1.out.size)); clear hb; obtain ⟨q0, q1, q2, q3, q4, q5, q6⟩ := HG2.out.cells; obtain ⟨r0, r1, r2, r3, r4, r5, r6⟩ := RCt.cells (HG2.out.below ((Below.refl w2.heap.size w2).alloc (Nat.le_refl _) (.cells #[E a.k, E a.n, E a.m, E b.k, E b.n, E b.m, .bool nt] 25)))))
  have HL0 : Hid (Ln w w.heap.size w2.heap.size a b nt ⟨false, 0⟩ ((w2.alloc (.cells #[E a.k, E a.n, E a.m, E b.k, E b.n, E b.m, .bool (!nt)] 25)).alloc (.cells #[.bool false, E 0] 52))) := Lib.hid
    ⟨HG2.out.below (((Below.refl w2.heap.size w2).alloc (Nat.le_refl _) _).alloc (by simp) _), lp0 HB2.out a b (!nt) ⟨false, 0⟩, lt_heap HG2.out⟩
  go_loopw [7] (fun i wr => ∃ (k : Nat) (s : S2), k ≤ ls.length ∧ i = .int .i64 (k : Nat) ∧ Hid (Ln w w.heap.size w2.heap.size a b nt s wr)) (fun i _ => ls.length - (intOf i).toNat)
  case atStart => exact ⟨0, ⟨false, 0⟩, by omega, rfl, Lib.hid HL0.out⟩
  case round =>
    obtain ⟨k, s, hk, rfl, HR⟩ := hrel
    by_cases hlt : k < ls.length
    · have hlt' : ((k : Nat) : Int) < (ls.length : Int) := by omega
      obtain ⟨⟨p0, p1, p2, p3, p4, p5, p6⟩, ⟨q0, q1, q2, q3, q4, q5, q6⟩, ⟨q7, q8⟩, q9, qa⟩ := HR.out.cells
      have HC := Lib.hid (line_cells HLS.out hlt)
      obtain ⟨a', rfl, N, ltst, bo, bc, hs, hHC⟩ := HC.out
      clear HC
      have HC := Lib.hid hHC
      clear hHC
      obtain ⟨g0, g1, g2, g3⟩ := HC.out wr HR.out.2.1.2.2.2
      by_cases c1 : (100 : Int) < (hs.length : Int)
      · go_wp2_with (go_at_call 12; refine (HSH.out _ HR.out.2.1.2.2.2).mono ?_; rintro e w3 ⟨rfl, hb⟩; have HB3 := Lib.hid (HR.out.2.1.2.2.2.trans (hb.mono HR.out.2.1.2.2.2.size)); clear hb)
        go_ret
        exact ⟨rfl, HB3.out⟩
      by_cases c2 : N < 1
      · go_wp2_with (go_at_call 12; refine (HSH.out _ HR.out.2.1.2.2.2).mono ?_; rintro e w3 ⟨rfl, hb⟩; have HB3 := Lib.hid (HR.out.2.1.2.2.2.trans (hb.mono HR.out.2.1.2.2.2.size)); clear hb)
        go_ret
        exact ⟨rfl, HB3.out⟩
      by_cases c3 : 999999999 < N
      · go_wp2_with (go_at_call 12; refine (HSH.out _ HR.out.2.1.2.2.2).mono ?_; rintro e w3 ⟨rfl, hb⟩; have HB3 := Lib.hid (HR.out.2.1.2.2.2.trans (hb.mono HR.out.2.1.2.2.2.size)); clear hb)
        go_ret
        exact ⟨rfl, HB3.out⟩
      obtain ⟨q, s2, hqs⟩ : ∃ q s2, askL a b s ⟨N, ltst, hs⟩ = (q, s2) := ⟨_, _, rfl⟩
      obtain ⟨x, hxq⟩ : ∃ x, (q != nt) = x := ⟨_, rfl⟩
      obtain ⟨y, hyq⟩ : ∃ y, (q != !nt) = y := ⟨_, rfl⟩
      have hxy : (x == y) = false := by rw [← hxq, ← hyq]; cases q <;> cases nt <;> rfl
      have HA := Lib.hid (fun w' (h : Below w.heap.size w w') => ask_at a b nt s N ltst bo bc hs w' hm (by omega) (HC.out w' h).2.2.2.out hqs hxq)
      have HA2 := Lib.hid (fun w' (h : Below w.heap.size w w') => ask_at a b (!nt) s N ltst bo bc hs w' hm (by omega) (HC.out w' h).2.2.2.out hqs hyq)
      clear hqs hxq hyq g3
      go_wp2
      refine wp_region_noPanic ?_
      refine wp_region_held_drew (S := fun w' => Ln w w.heap.size w2.heap.size a b nt s w') (by kernel_rfl) ?_ (fun hHeld => ?_)
      · (try dsimp only); exact Ln.below HR.out (Below.refl _ _).drew
      generalize wr.drew = wd at *
      refine wpAnyH_take (i := 0) (oi := ?o0_1) (v := ?v0_1) ?hi0_1 (by kernel_rfl) (by kernel_rfl) (by kernel_rfl) (fun _ _ _ h => h) ?hy0_1 (by assumption) ?r0_1
      case hi0_1 => simp only [List.getElem?_toArray, List.getElem?_cons_succ, List.getElem?_cons_zero]; rfl
      case hy0_1 => exact Or.inl ⟨by rfl, by (intro w hSw; (try dsimp only at hSw); obtain ⟨⟨p0, p1, p2, p3, p4, p5, p6⟩, ⟨q0, q1, q2, q3, q4, q5, q6⟩, ⟨q7, q8⟩, q9, qa⟩ := hSw.cells; obtain ⟨g0, g1, g2, g3⟩ := HC.out w hSw.2.1.2.2.2; clear g3; go_simp) <;> with_reducible rfl⟩
      try simp only [Act.put, List.setIfInBounds_toArray, List.set_cons_zero, List.set_cons_succ]
      refine wpAnyH_take (i := 1) (oi := ?o1_1) (v := ?v1_1) ?hi1_1 (by kernel_rfl) (by kernel_rfl) (by kernel_rfl) (fun _ _ _ h => h) ?hy1_1 (by assumption) ?r1_1
      case hi1_1 => simp only [List.getElem?_toArray, List.getElem?_cons_succ, List.getElem?_cons_zero]; rfl
      case hy1_1 => exact Or.inl ⟨by rfl, by (intro w hSw; (try dsimp only at hSw); obtain ⟨⟨p0, p1, p2, p3, p4, p5, p6⟩, ⟨q0, q1, q2, q3, q4, q5, q6⟩, ⟨q7, q8⟩, q9, qa⟩ := hSw.cells; obtain ⟨g0, g1, g2, g3⟩ := HC.out w hSw.2.1.2.2.2; clear g3; go_simp) <;> with_reducible rfl⟩
      try simp only [Act.put, List.setIfInBounds_toArray, List.set_cons_zero, List.set_cons_succ]
      refine wpAnyH_take (i := 2) (oi := ?o2_1) (v := ?v2_1) ?hi2_1 (by kernel_rfl) (by kernel_rfl) (by kernel_rfl) (fun _ _ _ h => h) ?hy2_1 (by assumption) ?r2_1
      case hi2_1 => simp only [List.getElem?_toArray, List.getElem?_cons_succ, List.getElem?_cons_zero]; rfl
      case hy2_1 => exact Or.inl ⟨by rfl, by (intro w hSw; (try dsimp only at hSw); obtain ⟨⟨p0, p1, p2, p3, p4, p5, p6⟩, ⟨q0, q1, q2, q3, q4, q5, q6⟩, ⟨q7, q8⟩, q9, qa⟩ := hSw.cells; obtain ⟨g0, g1, g2, g3⟩ := HC.out w hSw.2.1.2.2.2; clear g3; go_simp) <;> with_reducible rfl⟩
      try simp only [Act.put, List.setIfInBounds_toArray, List.set_cons_zero, List.set_cons_succ]
      refine wpAnyH_take (i := 3) (oi := ?o3_1) (v := ?v3_1) ?hi3_1 (by kernel_rfl) (by kernel_rfl) (by kernel_rfl) (fun _ _ _ h => h) ?hy3_1 (by assumption) ?r3_1
      case hi3_1 => simp only [List.getElem?_toArray, List.getElem?_cons_succ, List.getElem?_cons_zero]; rfl
      case hy3_1 => exact Or.inl ⟨by rfl, by (intro w hSw; (try dsimp only at hSw); obtain ⟨⟨p0, p1, p2, p3, p4, p5, p6⟩, ⟨q0, q1, q2, q3, q4, q5, q6⟩, ⟨q7, q8⟩, q9, qa⟩ := hSw.cells; obtain ⟨g0, g1, g2, g3⟩ := HC.out w hSw.2.1.2.2.2; clear g3; go_simp) <;> with_reducible rfl⟩
      try simp only [Act.put, List.setIfInBounds_toArray, List.set_cons_zero, List.set_cons_succ]
      refine wpAnyH_take (i := 4) (oi := ?o4_1) (v := ?v4_1) ?hi4_1 (by kernel_rfl) (by kernel_rfl) (by kernel_rfl) (fun _ _ _ h => h) ?hy4_1 (by assumption) ?r4_1
      case hi4_1 => simp only [List.getElem?_toArray, List.getElem?_cons_succ, List.getElem?_cons_zero]; rfl
      case hy4_1 => exact Or.inl ⟨by rfl, by (intro w hSw; (try dsimp only at hSw); obtain ⟨⟨p0, p1, p2, p3, p4, p5, p6⟩, ⟨q0, q1, q2, q3, q4, q5, q6⟩, ⟨q7, q8⟩, q9, qa⟩ := hSw.cells; obtain ⟨g0, g1, g2, g3⟩ := HC.out w hSw.2.1.2.2.2; clear g3; go_simp) <;> with_reducible rfl⟩
      try simp only [Act.put, List.setIfInBounds_toArray, List.set_cons_zero, List.set_cons_succ]
      refine wpAnyH_take (i := 5) (oi := ?o5_1) (v := ?v5_1) ?hi5_1 (by kernel_rfl) (by kernel_rfl) (by kernel_rfl) (fun _ _ _ h => h) ?hy5_1 (by assumption) ?r5_1
      case hi5_1 => simp only [List.getElem?_toArray, List.getElem?_cons_succ, List.getElem?_cons_zero]; rfl
      case hy5_1 => exact Or.inl ⟨by rfl, by (intro w hSw; (try dsimp only at hSw); obtain ⟨⟨p0, p1, p2, p3, p4, p5, p6⟩, ⟨q0, q1, q2, q3, q4, q5, q6⟩, ⟨q7, q8⟩, q9, qa⟩ := hSw.cells; obtain ⟨g0, g1, g2, g3⟩ := HC.out w hSw.2.1.2.2.2; clear g3; go_simp) <;> with_reducible rfl⟩
      try simp only [Act.put, List.setIfInBounds_toArray, List.set_cons_zero, List.set_cons_succ]
      refine wpAnyH_ready (rs := [6, 10]) (by kernel_rfl) (by simp) ?_
      refine AllReadyH.cons (o := ?o6_2) ?hi6_2 (fun K hK => ?st6_2) (AllReadyH.cons (o := ?o10_2) ?hi10_2 (fun K hK => ?st10_2) AllReadyH.nil)
      case hi6_2 => simp only [List.getElem?_toArray, List.getElem?_cons_succ, List.getElem?_cons_zero]; rfl
      case hi10_2 => simp only [List.getElem?_toArray, List.getElem?_cons_succ, List.getElem?_cons_zero]; rfl
      case st6_2 =>
        go_simp
        (go_at_call 24; refine (HA.out _ hHeld.2.1.2.2.2).mono ?_; rintro e u2 ⟨rfl, hbl⟩)
        have hPrev := hHeld
        refine hK.out _ _ ?_ (fun hHeld => ?_)
        · (try dsimp only); exact Ln.below hPrev hbl
        clear hK K
        try simp only [Act.put, List.setIfInBounds_toArray, List.set_cons_zero, List.set_cons_succ]
        clear hPrev hbl
        refine wpAnyH_take (i := 7) (oi := ?o7_6_2) (v := ?v7_6_2) ?hi7_6_2 (by kernel_rfl) (by kernel_rfl) (by kernel_rfl) (fun _ _ _ h => h) ?hy7_6_2 (by assumption) ?r7_6_2
        case hi7_6_2 => simp only [List.getElem?_toArray, List.getElem?_cons_succ, List.getElem?_cons_zero]; rfl
        case hy7_6_2 => exact Or.inl ⟨by rfl, by (intro w hSw; (try dsimp only at hSw); obtain ⟨⟨p0, p1, p2, p3, p4, p5, p6⟩, ⟨q0, q1, q2, q3, q4, q5, q6⟩, ⟨q7, q8⟩, q9, qa⟩ := hSw.cells; obtain ⟨g0, g1, g2, g3⟩ := HC.out w hSw.2.1.2.2.2; clear g3; go_simp) <;> with_reducible rfl⟩
        try simp only [Act.put, List.setIfInBounds_toArray, List.set_cons_zero, List.set_cons_succ]
        refine wpAnyH_take (i := 8) (oi := ?o8_6_2) (v := ?v8_6_2) ?hi8_6_2 (by kernel_rfl) (by kernel_rfl) (by kernel_rfl) (fun _ _ _ h => h) ?hy8_6_2 (by assumption) ?r8_6_2
        case hi8_6_2 => simp only [List.getElem?_toArray, List.getElem?_cons_succ, List.getElem?_cons_zero]; rfl
        case hy8_6_2 => exact Or.inl ⟨by rfl, by (intro w hSw; (try dsimp only at hSw); obtain ⟨⟨p0, p1, p2, p3, p4, p5, p6⟩, ⟨q0, q1, q2, q3, q4, q5, q6⟩, ⟨q7, q8⟩, q9, qa⟩ := hSw.cells; obtain ⟨g0, g1, g2, g3⟩ := HC.out w hSw.2.1.2.2.2; clear g3; go_simp) <;> with_reducible rfl⟩
        try simp only [Act.put, List.setIfInBounds_toArray, List.set_cons_zero, List.set_cons_succ]
        refine wpAnyH_take (i := 9) (oi := ?o9_6_2) (v := ?v9_6_2) ?hi9_6_2 (by kernel_rfl) (by kernel_rfl) (by kernel_rfl) (fun _ _ _ h => h) ?hy9_6_2 (by assumption) ?r9_6_2
        case hi9_6_2 => simp only [List.getElem?_toArray, List.getElem?_cons_succ, List.getElem?_cons_zero]; rfl
        case hy9_6_2 => exact Or.inl ⟨by rfl, by (intro w hSw; (try dsimp only at hSw); obtain ⟨⟨p0, p1, p2, p3, p4, p5, p6⟩, ⟨q0, q1, q2, q3, q4, q5, q6⟩, ⟨q7, q8⟩, q9, qa⟩ := hSw.cells; obtain ⟨g0, g1, g2, g3⟩ := HC.out w hSw.2.1.2.2.2; clear g3; go_simp) <;> with_reducible rfl⟩
        try simp only [Act.put, List.setIfInBounds_toArray, List.set_cons_zero, List.set_cons_succ]
        refine wpAnyH_ready (rs := [10]) (by kernel_rfl) (by simp) ?_
        refine AllReadyH.cons (o := ?o10_3) ?hi10_3 (fun K hK => ?st10_3) AllReadyH.nil
        case hi10_3 => simp only [List.getElem?_toArray, List.getElem?_cons_succ, List.getElem?_cons_zero]; rfl
        case st10_3 =>
          go_simp
          have hPrev := hHeld
          refine hK.out _ _ ?_ (fun hHeld => ?_)
          · (try dsimp only); exact Ln.below hPrev ((Below.refl _ _).alloc (Nat.le_refl _) _)
          clear hK K
          try simp only [Act.put, List.setIfInBounds_toArray, List.set_cons_zero, List.set_cons_succ]
          have HZ := Lib.hid (zn_of hPrev)
          clear hPrev
          revert HZ hHeld
          generalize hW3 : World.alloc _ _ = v3
          intro hHeld HZ
          clear hW3
          refine wpAnyH_take (i := 11) (oi := ?o11_f4) (v := ?v11_f4) ?hi11_f4 (by kernel_rfl) (by kernel_rfl) (by kernel_rfl) (fun _ _ _ h => h) ?hy11_f4 (by assumption) ?r11_f4
          case hi11_f4 => simp only [List.getElem?_toArray, List.getElem?_cons_succ, List.getElem?_cons_zero]; rfl
          case hy11_f4 => exact Or.inl ⟨by rfl, by (intro w hSw; (try dsimp only at hSw); obtain ⟨⟨p0, p1, p2, p3, p4, p5, p6⟩, ⟨q0, q1, q2, q3, q4, q5, q6⟩, ⟨q7, q8⟩, q9, qa⟩ := hSw.cells; obtain ⟨g0, g1, g2, g3⟩ := HC.out w hSw.2.1.2.2.2; clear g3; go_simp) <;> with_reducible rfl⟩
          try simp only [Act.put, List.setIfInBounds_toArray, List.set_cons_zero, List.set_cons_succ]
          have HS := Lib.hid hHeld
          obtain ⟨z0, z1⟩ := sc_cells HZ.out.1
          obtain ⟨z2, z3⟩ := sc_unfrozen HZ.out.1
          refine wpAnyH_ready (rs := [12]) (by kernel_rfl) (by simp) ?_
          refine AllReadyH.cons (o := ?oz4) ?hiz4 (fun K hK => ?stz4) AllReadyH.nil
          case hiz4 => simp only [List.getElem?_toArray, List.getElem?_cons_succ, List.getElem?_cons_zero]; rfl
          go_simp
          refine hK.out _ _ ?_ (fun hHeld => ?_)
          · (try dsimp only); exact Ln.put HS.out HZ.out.2 _ _
          clear hK K
          try simp only [Act.put, List.setIfInBounds_toArray, List.set_cons_zero, List.set_cons_succ]
          have HN := Lib.hid (sc_put HZ.out.1 (s2.op) (s2.to))
          have HL2 := Lib.hid hHeld
          clear hHeld HS z0 z1 z2 z3
          refine wpAnyH_done (by kernel_rfl) ?_ _
          refine NoPanic.normal ?_
          have HQ := Lib.hid (show Lq w w.heap.size w2.heap.size a b nt s _ s2 _ from ⟨HL2.out, HN.out, HZ.out.2⟩)
          clear HN HL2 HZ
          revert HQ
          generalize World.setCell (World.setCell _ _ _) _ _ = W9
          generalize u2.heap.size = n9
          intro HQ
          obtain ⟨⟨p0, p1, p2, p3, p4, p5, p6⟩, ⟨q0, q1, q2, q3, q4, q5, q6⟩, ⟨q7, q8⟩, q9, qa⟩ := HQ.out.1.cells
          obtain ⟨k0, k1⟩ := sc_cells HQ.out.2.1
          obtain ⟨g0, g1, g2, g3⟩ := HC.out W9 HQ.out.1.2.1.2.2.2
          clear g3 HA
          go_wp2
          refine wp_region_noPanic ?_
          refine wp_region_held_drew (S := fun w' => Lq w w.heap.size w2.heap.size a b nt s n9 s2 w') (by kernel_rfl) ?_ (fun hHeld => ?_)
          · (try dsimp only); exact Lq.below HQ.out (Below.refl _ _).drew
          generalize W9.drew = we at *
          refine wpAnyH_take (i := 0) (oi := ?o0_7) (v := ?v0_7) ?hi0_7 (by kernel_rfl) (by kernel_rfl) (by kernel_rfl) (fun _ _ _ h => h) ?hy0_7 (by assumption) ?r0_7
          case hi0_7 => simp only [List.getElem?_toArray, List.getElem?_cons_succ, List.getElem?_cons_zero]; rfl
          case hy0_7 => exact Or.inl ⟨by rfl, by (intro w hSw; (try dsimp only at hSw); obtain ⟨⟨p0, p1, p2, p3, p4, p5, p6⟩, ⟨q0, q1, q2, q3, q4, q5, q6⟩, ⟨q7, q8⟩, q9, qa⟩ := hSw.1.cells; obtain ⟨g0, g1, g2, g3⟩ := HC.out w hSw.1.2.1.2.2.2; clear g3; go_simp) <;> with_reducible rfl⟩
          try simp only [Act.put, List.setIfInBounds_toArray, List.set_cons_zero, List.set_cons_succ]
          refine wpAnyH_take (i := 1) (oi := ?o1_7) (v := ?v1_7) ?hi1_7 (by kernel_rfl) (by kernel_rfl) (by kernel_rfl) (fun _ _ _ h => h) ?hy1_7 (by assumption) ?r1_7
          case hi1_7 => simp only [List.getElem?_toArray, List.getElem?_cons_succ, List.getElem?_cons_zero]; rfl
          case hy1_7 => exact Or.inl ⟨by rfl, by (intro w hSw; (try dsimp only at hSw); obtain ⟨⟨p0, p1, p2, p3, p4, p5, p6⟩, ⟨q0, q1, q2, q3, q4, q5, q6⟩, ⟨q7, q8⟩, q9, qa⟩ := hSw.1.cells; obtain ⟨g0, g1, g2, g3⟩ := HC.out w hSw.1.2.1.2.2.2; clear g3; go_simp) <;> with_reducible rfl⟩
          try simp only [Act.put, List.setIfInBounds_toArray, List.set_cons_zero, List.set_cons_succ]
          refine wpAnyH_take (i := 2) (oi := ?o2_7) (v := ?v2_7) ?hi2_7 (by kernel_rfl) (by kernel_rfl) (by kernel_rfl) (fun _ _ _ h => h) ?hy2_7 (by assumption) ?r2_7
          case hi2_7 => simp only [List.getElem?_toArray, List.getElem?_cons_succ, List.getElem?_cons_zero]; rfl
          case hy2_7 => exact Or.inl ⟨by rfl, by (intro w hSw; (try dsimp only at hSw); obtain ⟨⟨p0, p1, p2, p3, p4, p5, p6⟩, ⟨q0, q1, q2, q3, q4, q5, q6⟩, ⟨q7, q8⟩, q9, qa⟩ := hSw.1.cells; obtain ⟨g0, g1, g2, g3⟩ := HC.out w hSw.1.2.1.2.2.2; clear g3; go_simp) <;> with_reducible rfl⟩
          try simp only [Act.put, List.setIfInBounds_toArray, List.set_cons_zero, List.set_cons_succ]
          refine wpAnyH_take (i := 3) (oi := ?o3_7) (v := ?v3_7) ?hi3_7 (by kernel_rfl) (by kernel_rfl) (by kernel_rfl) (fun _ _ _ h => h) ?hy3_7 (by assumption) ?r3_7
          case hi3_7 => simp only [List.getElem?_toArray, List.getElem?_cons_succ, List.getElem?_cons_zero]; rfl
          case hy3_7 => exact Or.inl ⟨by rfl, by (intro w hSw; (try dsimp only at hSw); obtain ⟨⟨p0, p1, p2, p3, p4, p5, p6⟩, ⟨q0, q1, q2, q3, q4, q5, q6⟩, ⟨q7, q8⟩, q9, qa⟩ := hSw.1.cells; obtain ⟨g0, g1, g2, g3⟩ := HC.out w hSw.1.2.1.2.2.2; clear g3; go_simp) <;> with_reducible rfl⟩
          try simp only [Act.put, List.setIfInBounds_toArray, List.set_cons_zero, List.set_cons_succ]
          refine wpAnyH_take (i := 4) (oi := ?o4_7) (v := ?v4_7) ?hi4_7 (by kernel_rfl) (by kernel_rfl) (by kernel_rfl) (fun _ _ _ h => h) ?hy4_7 (by assumption) ?r4_7
          case hi4_7 => simp only [List.getElem?_toArray, List.getElem?_cons_succ, List.getElem?_cons_zero]; rfl
          case hy4_7 => exact Or.inl ⟨by rfl, by (intro w hSw; (try dsimp only at hSw); obtain ⟨⟨p0, p1, p2, p3, p4, p5, p6⟩, ⟨q0, q1, q2, q3, q4, q5, q6⟩, ⟨q7, q8⟩, q9, qa⟩ := hSw.1.cells; obtain ⟨g0, g1, g2, g3⟩ := HC.out w hSw.1.2.1.2.2.2; clear g3; go_simp) <;> with_reducible rfl⟩
          try simp only [Act.put, List.setIfInBounds_toArray, List.set_cons_zero, List.set_cons_succ]
          refine wpAnyH_take (i := 5) (oi := ?o5_7) (v := ?v5_7) ?hi5_7 (by kernel_rfl) (by kernel_rfl) (by kernel_rfl) (fun _ _ _ h => h) ?hy5_7 (by assumption) ?r5_7
          case hi5_7 => simp only [List.getElem?_toArray, List.getElem?_cons_succ, List.getElem?_cons_zero]; rfl
          case hy5_7 => exact Or.inl ⟨by rfl, by (intro w hSw; (try dsimp only at hSw); obtain ⟨⟨p0, p1, p2, p3, p4, p5, p6⟩, ⟨q0, q1, q2, q3, q4, q5, q6⟩, ⟨q7, q8⟩, q9, qa⟩ := hSw.1.cells; obtain ⟨g0, g1, g2, g3⟩ := HC.out w hSw.1.2.1.2.2.2; clear g3; go_simp) <;> with_reducible rfl⟩
          try simp only [Act.put, List.setIfInBounds_toArray, List.set_cons_zero, List.set_cons_succ]
          refine wpAnyH_ready (rs := [6, 10]) (by kernel_rfl) (by simp) ?_
          refine AllReadyH.cons (o := ?o6_8) ?hi6_8 (fun K hK => ?st6_8) (AllReadyH.cons (o := ?o10_8) ?hi10_8 (fun K hK => ?st10_8) AllReadyH.nil)
          case hi6_8 => simp only [List.getElem?_toArray, List.getElem?_cons_succ, List.getElem?_cons_zero]; rfl
          case hi10_8 => simp only [List.getElem?_toArray, List.getElem?_cons_succ, List.getElem?_cons_zero]; rfl
          case st6_8 =>
            go_simp
            (go_at_call 24; refine (HA2.out _ hHeld.1.2.1.2.2.2).mono ?_; rintro e u8 ⟨rfl, hbl⟩)
            have hPrev := hHeld
            refine hK.out _ _ ?_ (fun hHeld => ?_)
            · (try dsimp only); exact Lq.below hPrev hbl
            clear hK K
            try simp only [Act.put, List.setIfInBounds_toArray, List.set_cons_zero, List.set_cons_succ]
            clear hPrev hbl
            refine wpAnyH_take (i := 7) (oi := ?o7_6_8) (v := ?v7_6_8) ?hi7_6_8 (by kernel_rfl) (by kernel_rfl) (by kernel_rfl) (fun _ _ _ h => h) ?hy7_6_8 (by assumption) ?r7_6_8
            case hi7_6_8 => simp only [List.getElem?_toArray, List.getElem?_cons_succ, List.getElem?_cons_zero]; rfl
            case hy7_6_8 => exact Or.inl ⟨by rfl, by (intro w hSw; (try dsimp only at hSw); obtain ⟨⟨p0, p1, p2, p3, p4, p5, p6⟩, ⟨q0, q1, q2, q3, q4, q5, q6⟩, ⟨q7, q8⟩, q9, qa⟩ := hSw.1.cells; obtain ⟨g0, g1, g2, g3⟩ := HC.out w hSw.1.2.1.2.2.2; clear g3; go_simp) <;> with_reducible rfl⟩
            try simp only [Act.put, List.setIfInBounds_toArray, List.set_cons_zero, List.set_cons_succ]
            refine wpAnyH_take (i := 8) (oi := ?o8_6_8) (v := ?v8_6_8) ?hi8_6_8 (by kernel_rfl) (by kernel_rfl) (by kernel_rfl) (fun _ _ _ h => h) ?hy8_6_8 (by assumption) ?r8_6_8
            case hi8_6_8 => simp only [List.getElem?_toArray, List.getElem?_cons_succ, List.getElem?_cons_zero]; rfl
            case hy8_6_8 => exact Or.inl ⟨by rfl, by (intro w hSw; (try dsimp only at hSw); obtain ⟨⟨p0, p1, p2, p3, p4, p5, p6⟩, ⟨q0, q1, q2, q3, q4, q5, q6⟩, ⟨q7, q8⟩, q9, qa⟩ := hSw.1.cells; obtain ⟨g0, g1, g2, g3⟩ := HC.out w hSw.1.2.1.2.2.2; clear g3; go_simp) <;> with_reducible rfl⟩
            try simp only [Act.put, List.setIfInBounds_toArray, List.set_cons_zero, List.set_cons_succ]
            refine wpAnyH_take (i := 9) (oi := ?o9_6_8) (v := ?v9_6_8) ?hi9_6_8 (by kernel_rfl) (by kernel_rfl) (by kernel_rfl) (fun _ _ _ h => h) ?hy9_6_8 (by assumption) ?r9_6_8
            case hi9_6_8 => simp only [List.getElem?_toArray, List.getElem?_cons_succ, List.getElem?_cons_zero]; rfl
            case hy9_6_8 => exact Or.inl ⟨by rfl, by (intro w hSw; (try dsimp only at hSw); obtain ⟨⟨p0, p1, p2, p3, p4, p5, p6⟩, ⟨q0, q1, q2, q3, q4, q5, q6⟩, ⟨q7, q8⟩, q9, qa⟩ := hSw.1.cells; obtain ⟨g0, g1, g2, g3⟩ := HC.out w hSw.1.2.1.2.2.2; clear g3; go_simp) <;> with_reducible rfl⟩
            try simp only [Act.put, List.setIfInBounds_toArray, List.set_cons_zero, List.set_cons_succ]
            refine wpAnyH_ready (rs := [10]) (by kernel_rfl) (by simp) ?_
            refine AllReadyH.cons (o := ?o10_9) ?hi10_9 (fun K hK => ?st10_9) AllReadyH.nil
            case hi10_9 => simp only [List.getElem?_toArray, List.getElem?_cons_succ, List.getElem?_cons_zero]; rfl
            case st10_9 =>
              go_simp
              have hPrev := hHeld
              refine hK.out _ _ ?_ (fun hHeld => ?_)
              · (try dsimp only); exact Lq.below hPrev ((Below.refl _ _).alloc (Nat.le_refl _) _)
              clear hK K
              try simp only [Act.put, List.setIfInBounds_toArray, List.set_cons_zero, List.set_cons_succ]
              have HZ := Lib.hid (zq_of hPrev)
              clear hPrev
              revert HZ hHeld
              generalize hW9 : World.alloc _ _ = v9
              intro hHeld HZ
              clear hW9
              refine wpAnyH_take (i := 11) (oi := ?o11_f10) (v := ?v11_f10) ?hi11_f10 (by kernel_rfl) (by kernel_rfl) (by kernel_rfl) (fun _ _ _ h => h) ?hy11_f10 (by assumption) ?r11_f10
              case hi11_f10 => simp only [List.getElem?_toArray, List.getElem?_cons_succ, List.getElem?_cons_zero]; rfl
              case hy11_f10 => exact Or.inl ⟨by rfl, by (intro w hSw; (try dsimp only at hSw); obtain ⟨⟨p0, p1, p2, p3, p4, p5, p6⟩, ⟨q0, q1, q2, q3, q4, q5, q6⟩, ⟨q7, q8⟩, q9, qa⟩ := hSw.1.cells; obtain ⟨g0, g1, g2, g3⟩ := HC.out w hSw.1.2.1.2.2.2; clear g3; go_simp) <;> with_reducible rfl⟩
              try simp only [Act.put, List.setIfInBounds_toArray, List.set_cons_zero, List.set_cons_succ]
              have HS := Lib.hid hHeld
              obtain ⟨z0, z1⟩ := sc_cells HZ.out.1
              obtain ⟨z2, z3⟩ := sc_unfrozen HZ.out.1
              refine wpAnyH_ready (rs := [12]) (by kernel_rfl) (by simp) ?_
              refine AllReadyH.cons (o := ?oz10) ?hiz10 (fun K hK => ?stz10) AllReadyH.nil
              case hiz10 => simp only [List.getElem?_toArray, List.getElem?_cons_succ, List.getElem?_cons_zero]; rfl
              go_simp
              refine hK.out _ _ ?_ (fun hHeld => ?_)
              · (try dsimp only); exact Lq.put HS.out HZ.out.2 _ _
              clear hK K
              try simp only [Act.put, List.setIfInBounds_toArray, List.set_cons_zero, List.set_cons_succ]
              have HN := Lib.hid (sc_put HZ.out.1 (s2.op) (s2.to))
              have HL2 := Lib.hid hHeld
              clear hHeld HS z0 z1 z2 z3
              refine wpAnyH_done (by kernel_rfl) ?_ _
              refine NoPanic.normal ?_
              have HE := Lib.hid (HL2.out.1.set s2)
              revert HN HL2 HE
              generalize World.setCell (World.setCell _ _ _) _ _ = W10
              intro HN HL2 HE
              obtain ⟨⟨p0, p1, p2, p3, p4, p5, p6⟩, ⟨q0, q1, q2, q3, q4, q5, q6⟩, ⟨q7, q8⟩, q9, qa⟩ := HL2.out.1.cells
              obtain ⟨k0, k1⟩ := sc_cells HL2.out.2.1
              obtain ⟨k2, k3⟩ := sc_cells HN.out
              clear HA2 HZ HSH
              go_wp2
              go_roundw
              case rel => exact ⟨k + 1, s2, by omega, by go_num, HE⟩
              case measure => simp [intOf]; omega
          case st10_8 =>
            go_simp
            have hPrev := hHeld
            refine hK.out _ _ ?_ (fun hHeld => ?_)
            · (try dsimp only); exact Lq.below hPrev ((Below.refl _ _).alloc (Nat.le_refl _) _)
            clear hK K
            try simp only [Act.put, List.setIfInBounds_toArray, List.set_cons_zero, List.set_cons_succ]
            have HZ := Lib.hid (zq_of hPrev)
            clear hPrev
            revert HZ hHeld
            generalize hW8 : World.alloc _ _ = v8
            intro hHeld HZ
            clear hW8
            refine wpAnyH_ready (rs := [6]) (by kernel_rfl) (by simp) ?_
            refine AllReadyH.cons (o := ?o6_11) ?hi6_11 (fun K hK => ?st6_11) AllReadyH.nil
            case hi6_11 => simp only [List.getElem?_toArray, List.getElem?_cons_succ, List.getElem?_cons_zero]; rfl
            case st6_11 =>
              go_simp
              (go_at_call 24; refine (HA2.out _ hHeld.1.2.1.2.2.2).mono ?_; rintro e u11 ⟨rfl, hbl⟩)
              have hPrev := hHeld
              refine hK.out _ _ ?_ (fun hHeld => ?_)
              · (try dsimp only); exact Lq.below hPrev hbl
              clear hK K
              try simp only [Act.put, List.setIfInBounds_toArray, List.set_cons_zero, List.set_cons_succ]
              have HZ := Lib.hid (zs_below HZ.out hbl)
              clear hPrev hbl
              refine wpAnyH_take (i := 7) (oi := ?o7_6_11) (v := ?v7_6_11) ?hi7_6_11 (by kernel_rfl) (by kernel_rfl) (by kernel_rfl) (fun _ _ _ h => h) ?hy7_6_11 (by assumption) ?r7_6_11
              case hi7_6_11 => simp only [List.getElem?_toArray, List.getElem?_cons_succ, List.getElem?_cons_zero]; rfl
              case hy7_6_11 => exact Or.inl ⟨by rfl, by (intro w hSw; (try dsimp only at hSw); obtain ⟨⟨p0, p1, p2, p3, p4, p5, p6⟩, ⟨q0, q1, q2, q3, q4, q5, q6⟩, ⟨q7, q8⟩, q9, qa⟩ := hSw.1.cells; obtain ⟨g0, g1, g2, g3⟩ := HC.out w hSw.1.2.1.2.2.2; clear g3; go_simp) <;> with_reducible rfl⟩
              try simp only [Act.put, List.setIfInBounds_toArray, List.set_cons_zero, List.set_cons_succ]
              refine wpAnyH_take (i := 8) (oi := ?o8_6_11) (v := ?v8_6_11) ?hi8_6_11 (by kernel_rfl) (by kernel_rfl) (by kernel_rfl) (fun _ _ _ h => h) ?hy8_6_11 (by assumption) ?r8_6_11
              case hi8_6_11 => simp only [List.getElem?_toArray, List.getElem?_cons_succ, List.getElem?_cons_zero]; rfl
              case hy8_6_11 => exact Or.inl ⟨by rfl, by (intro w hSw; (try dsimp only at hSw); obtain ⟨⟨p0, p1, p2, p3, p4, p5, p6⟩, ⟨q0, q1, q2, q3, q4, q5, q6⟩, ⟨q7, q8⟩, q9, qa⟩ := hSw.1.cells; obtain ⟨g0, g1, g2, g3⟩ := HC.out w hSw.1.2.1.2.2.2; clear g3; go_simp) <;> with_reducible rfl⟩
              try simp only [Act.put, List.setIfInBounds_toArray, List.set_cons_zero, List.set_cons_succ]
              refine wpAnyH_take (i := 9) (oi := ?o9_6_11) (v := ?v9_6_11) ?hi9_6_11 (by kernel_rfl) (by kernel_rfl) (by kernel_rfl) (fun _ _ _ h => h) ?hy9_6_11 (by assumption) ?r9_6_11
              case hi9_6_11 => simp only [List.getElem?_toArray, List.getElem?_cons_succ, List.getElem?_cons_zero]; rfl
              case hy9_6_11 => exact Or.inl ⟨by rfl, by (intro w hSw; (try dsimp only at hSw); obtain ⟨⟨p0, p1, p2, p3, p4, p5, p6⟩, ⟨q0, q1, q2, q3, q4, q5, q6⟩, ⟨q7, q8⟩, q9, qa⟩ := hSw.1.cells; obtain ⟨g0, g1, g2, g3⟩ := HC.out w hSw.1.2.1.2.2.2; clear g3; go_simp) <;> with_reducible rfl⟩
              try simp only [Act.put, List.setIfInBounds_toArray, List.set_cons_zero, List.set_cons_succ]
              refine wpAnyH_take (i := 11) (oi := ?o11_f12) (v := ?v11_f12) ?hi11_f12 (by kernel_rfl) (by kernel_rfl) (by kernel_rfl) (fun _ _ _ h => h) ?hy11_f12 (by assumption) ?r11_f12
              case hi11_f12 => simp only [List.getElem?_toArray, List.getElem?_cons_succ, List.getElem?_cons_zero]; rfl
              case hy11_f12 => exact Or.inl ⟨by rfl, by (intro w hSw; (try dsimp only at hSw); obtain ⟨⟨p0, p1, p2, p3, p4, p5, p6⟩, ⟨q0, q1, q2, q3, q4, q5, q6⟩, ⟨q7, q8⟩, q9, qa⟩ := hSw.1.cells; obtain ⟨g0, g1, g2, g3⟩ := HC.out w hSw.1.2.1.2.2.2; clear g3; go_simp) <;> with_reducible rfl⟩
              try simp only [Act.put, List.setIfInBounds_toArray, List.set_cons_zero, List.set_cons_succ]
              have HS := Lib.hid hHeld
              obtain ⟨z0, z1⟩ := sc_cells HZ.out.1
              obtain ⟨z2, z3⟩ := sc_unfrozen HZ.out.1
              refine wpAnyH_ready (rs := [12]) (by kernel_rfl) (by simp) ?_
              refine AllReadyH.cons (o := ?oz12) ?hiz12 (fun K hK => ?stz12) AllReadyH.nil
              case hiz12 => simp only [List.getElem?_toArray, List.getElem?_cons_succ, List.getElem?_cons_zero]; rfl
              go_simp
              refine hK.out _ _ ?_ (fun hHeld => ?_)
              · (try dsimp only); exact Lq.put HS.out HZ.out.2 _ _
              clear hK K
              try simp only [Act.put, List.setIfInBounds_toArray, List.set_cons_zero, List.set_cons_succ]
              have HN := Lib.hid (sc_put HZ.out.1 (s2.op) (s2.to))
              have HL2 := Lib.hid hHeld
              clear hHeld HS z0 z1 z2 z3
              refine wpAnyH_done (by kernel_rfl) ?_ _
              refine NoPanic.normal ?_
              have HE := Lib.hid (HL2.out.1.set s2)
              revert HN HL2 HE
              generalize World.setCell (World.setCell _ _ _) _ _ = W10
              intro HN HL2 HE
              obtain ⟨⟨p0, p1, p2, p3, p4, p5, p6⟩, ⟨q0, q1, q2, q3, q4, q5, q6⟩, ⟨q7, q8⟩, q9, qa⟩ := HL2.out.1.cells
              obtain ⟨k0, k1⟩ := sc_cells HL2.out.2.1
              obtain ⟨k2, k3⟩ := sc_cells HN.out
              clear HA2 HZ HSH
              go_wp2
              go_roundw
              case rel => exact ⟨k + 1, s2, by omega, by go_num, HE⟩
              case measure => simp [intOf]; omega
      case st10_2 =>
        go_simp
        have hPrev := hHeld
        refine hK.out _ _ ?_ (fun hHeld => ?_)
        · (try dsimp only); exact Ln.below hPrev ((Below.refl _ _).alloc (Nat.le_refl _) _)
        clear hK K
        try simp only [Act.put, List.setIfInBounds_toArray, List.set_cons_zero, List.set_cons_succ]
        have HZ := Lib.hid (zn_of hPrev)
        clear hPrev
        revert HZ hHeld
        generalize hW2 : World.alloc _ _ = v2
        intro hHeld HZ
        clear hW2
        refine wpAnyH_ready (rs := [6]) (by kernel_rfl) (by simp) ?_
        refine AllReadyH.cons (o := ?o6_5) ?hi6_5 (fun K hK => ?st6_5) AllReadyH.nil
        case hi6_5 => simp only [List.getElem?_toArray, List.getElem?_cons_succ, List.getElem?_cons_zero]; rfl
        case st6_5 =>
          go_simp
          (go_at_call 24; refine (HA.out _ hHeld.2.1.2.2.2).mono ?_; rintro e u5 ⟨rfl, hbl⟩)
          have hPrev := hHeld
          refine hK.out _ _ ?_ (fun hHeld => ?_)
          · (try dsimp only); exact Ln.below hPrev hbl
          clear hK K
          try simp only [Act.put, List.setIfInBounds_toArray, List.set_cons_zero, List.set_cons_succ]
          have HZ := Lib.hid (zs_below HZ.out hbl)
          clear hPrev hbl
          refine wpAnyH_take (i := 7) (oi := ?o7_6_5) (v := ?v7_6_5) ?hi7_6_5 (by kernel_rfl) (by kernel_rfl) (by kernel_rfl) (fun _ _ _ h => h) ?hy7_6_5 (by assumption) ?r7_6_5
          case hi7_6_5 => simp only [List.getElem?_toArray, List.getElem?_cons_succ, List.getElem?_cons_zero]; rfl
          case hy7_6_5 => exact Or.inl ⟨by rfl, by (intro w hSw; (try dsimp only at hSw); obtain ⟨⟨p0, p1, p2, p3, p4, p5, p6⟩, ⟨q0, q1, q2, q3, q4, q5, q6⟩, ⟨q7, q8⟩, q9, qa⟩ := hSw.cells; obtain ⟨g0, g1, g2, g3⟩ := HC.out w hSw.2.1.2.2.2; clear g3; go_simp) <;> with_reducible rfl⟩
          try simp only [Act.put, List.setIfInBounds_toArray, List.set_cons_zero, List.set_cons_succ]
          refine wpAnyH_take (i := 8) (oi := ?o8_6_5) (v := ?v8_6_5) ?hi8_6_5 (by kernel_rfl) (by kernel_rfl) (by kernel_rfl) (fun _ _ _ h => h) ?hy8_6_5 (by assumption) ?r8_6_5
          case hi8_6_5 => simp only [List.getElem?_toArray, List.getElem?_cons_succ, List.getElem?_cons_zero]; rfl
          case hy8_6_5 => exact Or.inl ⟨by rfl, by (intro w hSw; (try dsimp only at hSw); obtain ⟨⟨p0, p1, p2, p3, p4, p5, p6⟩, ⟨q0, q1, q2, q3, q4, q5, q6⟩, ⟨q7, q8⟩, q9, qa⟩ := hSw.cells; obtain ⟨g0, g1, g2, g3⟩ := HC.out w hSw.2.1.2.2.2; clear g3; go_simp) <;> with_reducible rfl⟩
          try simp only [Act.put, List.setIfInBounds_toArray, List.set_cons_zero, List.set_cons_succ]
          refine wpAnyH_take (i := 9) (oi := ?o9_6_5) (v := ?v9_6_5) ?hi9_6_5 (by kernel_rfl) (by kernel_rfl) (by kernel_rfl) (fun _ _ _ h => h) ?hy9_6_5 (by assumption) ?r9_6_5
          case hi9_6_5 => simp only [List.getElem?_toArray, List.getElem?_cons_succ, List.getElem?_cons_zero]; rfl
          case hy9_6_5 => exact Or.inl ⟨by rfl, by (intro w hSw; (try dsimp only at hSw); obtain ⟨⟨p0, p1, p2, p3, p4, p5, p6⟩, ⟨q0, q1, q2, q3, q4, q5, q6⟩, ⟨q7, q8⟩, q9, qa⟩ := hSw.cells; obtain ⟨g0, g1, g2, g3⟩ := HC.out w hSw.2.1.2.2.2; clear g3; go_simp) <;> with_reducible rfl⟩
          try simp only [Act.put, List.setIfInBounds_toArray, List.set_cons_zero, List.set_cons_succ]
          refine wpAnyH_take (i := 11) (oi := ?o11_f6) (v := ?v11_f6) ?hi11_f6 (by kernel_rfl) (by kernel_rfl) (by kernel_rfl) (fun _ _ _ h => h) ?hy11_f6 (by assumption) ?r11_f6
          case hi11_f6 => simp only [List.getElem?_toArray, List.getElem?_cons_succ, List.getElem?_cons_zero]; rfl
          case hy11_f6 => exact Or.inl ⟨by rfl, by (intro w hSw; (try dsimp only at hSw); obtain ⟨⟨p0, p1, p2, p3, p4, p5, p6⟩, ⟨q0, q1, q2, q3, q4, q5, q6⟩, ⟨q7, q8⟩, q9, qa⟩ := hSw.cells; obtain ⟨g0, g1, g2, g3⟩ := HC.out w hSw.2.1.2.2.2; clear g3; go_simp) <;> with_reducible rfl⟩
          try simp only [Act.put, List.setIfInBounds_toArray, List.set_cons_zero, List.set_cons_succ]
          have HS := Lib.hid hHeld
          obtain ⟨z0, z1⟩ := sc_cells HZ.out.1
          obtain ⟨z2, z3⟩ := sc_unfrozen HZ.out.1
          refine wpAnyH_ready (rs := [12]) (by kernel_rfl) (by simp) ?_
          refine AllReadyH.cons (o := ?oz6) ?hiz6 (fun K hK => ?stz6) AllReadyH.nil
          case hiz6 => simp only [List.getElem?_toArray, List.getElem?_cons_succ, List.getElem?_cons_zero]; rfl
          go_simp
          refine hK.out _ _ ?_ (fun hHeld => ?_)
          · (try dsimp only); exact Ln.put HS.out HZ.out.2 _ _
          clear hK K
          try simp only [Act.put, List.setIfInBounds_toArray, List.set_cons_zero, List.set_cons_succ]
          have HN := Lib.hid (sc_put HZ.out.1 (s2.op) (s2.to))
          have HL2 := Lib.hid hHeld
          clear hHeld HS z0 z1 z2 z3
          refine wpAnyH_done (by kernel_rfl) ?_ _
          refine NoPanic.normal ?_
          have HQ := Lib.hid (show Lq w w.heap.size w2.heap.size a b nt s _ s2 _ from ⟨HL2.out, HN.out, HZ.out.2⟩)
          clear HN HL2 HZ
          revert HQ
          generalize World.setCell (World.setCell _ _ _) _ _ = W9
          generalize wd.heap.size = n9
          intro HQ
          obtain ⟨⟨p0, p1, p2, p3, p4, p5, p6⟩, ⟨q0, q1, q2, q3, q4, q5, q6⟩, ⟨q7, q8⟩, q9, qa⟩ := HQ.out.1.cells
          obtain ⟨k0, k1⟩ := sc_cells HQ.out.2.1
          obtain ⟨g0, g1, g2, g3⟩ := HC.out W9 HQ.out.1.2.1.2.2.2
          clear g3 HA
          go_wp2
          refine wp_region_noPanic ?_
          refine wp_region_held_drew (S := fun w' => Lq w w.heap.size w2.heap.size a b nt s n9 s2 w') (by kernel_rfl) ?_ (fun hHeld => ?_)
          · (try dsimp only); exact Lq.below HQ.out (Below.refl _ _).drew
          generalize W9.drew = we at *
          refine wpAnyH_take (i := 0) (oi := ?o0_13) (v := ?v0_13) ?hi0_13 (by kernel_rfl) (by kernel_rfl) (by kernel_rfl) (fun _ _ _ h => h) ?hy0_13 (by assumption) ?r0_13
          case hi0_13 => simp only [List.getElem?_toArray, List.getElem?_cons_succ, List.getElem?_cons_zero]; rfl
          case hy0_13 => exact Or.inl ⟨by rfl, by (intro w hSw; (try dsimp only at hSw); obtain ⟨⟨p0, p1, p2, p3, p4, p5, p6⟩, ⟨q0, q1, q2, q3, q4, q5, q6⟩, ⟨q7, q8⟩, q9, qa⟩ := hSw.1.cells; obtain ⟨g0, g1, g2, g3⟩ := HC.out w hSw.1.2.1.2.2.2; clear g3; go_simp) <;> with_reducible rfl⟩
          try simp only [Act.put, List.setIfInBounds_toArray, List.set_cons_zero, List.set_cons_succ]
          refine wpAnyH_take (i := 1) (oi := ?o1_13) (v := ?v1_13) ?hi1_13 (by kernel_rfl) (by kernel_rfl) (by kernel_rfl) (fun _ _ _ h => h) ?hy1_13 (by assumption) ?r1_13
          case hi1_13 => simp only [List.getElem?_toArray, List.getElem?_cons_succ, List.getElem?_cons_zero]; rfl
          case hy1_13 => exact Or.inl ⟨by rfl, by (intro w hSw; (try dsimp only at hSw); obtain ⟨⟨p0, p1, p2, p3, p4, p5, p6⟩, ⟨q0, q1, q2, q3, q4, q5, q6⟩, ⟨q7, q8⟩, q9, qa⟩ := hSw.1.cells; obtain ⟨g0, g1, g2, g3⟩ := HC.out w hSw.1.2.1.2.2.2; clear g3; go_simp) <;> with_reducible rfl⟩
          try simp only [Act.put, List.setIfInBounds_toArray, List.set_cons_zero, List.set_cons_succ]
          refine wpAnyH_take (i := 2) (oi := ?o2_13) (v := ?v2_13) ?hi2_13 (by kernel_rfl) (by kernel_rfl) (by kernel_rfl) (fun _ _ _ h => h) ?hy2_13 (by assumption) ?r2_13
          case hi2_13 => simp only [List.getElem?_toArray, List.getElem?_cons_succ, List.getElem?_cons_zero]; rfl
          case hy2_13 => exact Or.inl ⟨by rfl, by (intro w hSw; (try dsimp only at hSw); obtain ⟨⟨p0, p1, p2, p3, p4, p5, p6⟩, ⟨q0, q1, q2, q3, q4, q5, q6⟩, ⟨q7, q8⟩, q9, qa⟩ := hSw.1.cells; obtain ⟨g0, g1, g2, g3⟩ := HC.out w hSw.1.2.1.2.2.2; clear g3; go_simp) <;> with_reducible rfl⟩
          try simp only [Act.put, List.setIfInBounds_toArray, List.set_cons_zero, List.set_cons_succ]
          refine wpAnyH_take (i := 3) (oi := ?o3_13) (v := ?v3_13) ?hi3_13 (by kernel_rfl) (by kernel_rfl) (by kernel_rfl) (fun _ _ _ h => h) ?hy3_13 (by assumption) ?r3_13
          case hi3_13 => simp only [List.getElem?_toArray, List.getElem?_cons_succ, List.getElem?_cons_zero]; rfl
          case hy3_13 => exact Or.inl ⟨by rfl, by (intro w hSw; (try dsimp only at hSw); obtain ⟨⟨p0, p1, p2, p3, p4, p5, p6⟩, ⟨q0, q1, q2, q3, q4, q5, q6⟩, ⟨q7, q8⟩, q9, qa⟩ := hSw.1.cells; obtain ⟨g0, g1, g2, g3⟩ := HC.out w hSw.1.2.1.2.2.2; clear g3; go_simp) <;> with_reducible rfl⟩
          try simp only [Act.put, List.setIfInBounds_toArray, List.set_cons_zero, List.set_cons_succ]
          refine wpAnyH_take (i := 4) (oi := ?o4_13) (v := ?v4_13) ?hi4_13 (by kernel_rfl) (by kernel_rfl) (by kernel_rfl) (fun _ _ _ h => h) ?hy4_13 (by assumption) ?r4_13
          case hi4_13 => simp only [List.getElem?_toArray, List.getElem?_cons_succ, List.getElem?_cons_zero]; rfl
          case hy4_13 => exact Or.inl ⟨by rfl, by (intro w hSw; (try dsimp only at hSw); obtain ⟨⟨p0, p1, p2, p3, p4, p5, p6⟩, ⟨q0, q1, q2, q3, q4, q5, q6⟩, ⟨q7, q8⟩, q9, qa⟩ := hSw.1.cells; obtain ⟨g0, g1, g2, g3⟩ := HC.out w hSw.1.2.1.2.2.2; clear g3; go_simp) <;> with_reducible rfl⟩
          try simp only [Act.put, List.setIfInBounds_toArray, List.set_cons_zero, List.set_cons_succ]
          refine wpAnyH_take (i := 5) (oi := ?o5_13) (v := ?v5_13) ?hi5_13 (by kernel_rfl) (by kernel_rfl) (by kernel_rfl) (fun _ _ _ h => h) ?hy5_13 (by assumption) ?r5_13
          case hi5_13 => simp only [List.getElem?_toArray, List.getElem?_cons_succ, List.getElem?_cons_zero]; rfl
          case hy5_13 => exact Or.inl ⟨by rfl, by (intro w hSw; (try dsimp only at hSw); obtain ⟨⟨p0, p1, p2, p3, p4, p5, p6⟩, ⟨q0, q1, q2, q3, q4, q5, q6⟩, ⟨q7, q8⟩, q9, qa⟩ := hSw.1.cells; obtain ⟨g0, g1, g2, g3⟩ := HC.out w hSw.1.2.1.2.2.2; clear g3; go_simp) <;> with_reducible rfl⟩
          try simp only [Act.put, List.setIfInBounds_toArray, List.set_cons_zero, List.set_cons_succ]
          refine wpAnyH_ready (rs := [6, 10]) (by kernel_rfl) (by simp) ?_
          refine AllReadyH.cons (o := ?o6_14) ?hi6_14 (fun K hK => ?st6_14) (AllReadyH.cons (o := ?o10_14) ?hi10_14 (fun K hK => ?st10_14) AllReadyH.nil)
          case hi6_14 => simp only [List.getElem?_toArray, List.getElem?_cons_succ, List.getElem?_cons_zero]; rfl
          case hi10_14 => simp only [List.getElem?_toArray, List.getElem?_cons_succ, List.getElem?_cons_zero]; rfl
          case st6_14 =>
            go_simp
            (go_at_call 24; refine (HA2.out _ hHeld.1.2.1.2.2.2).mono ?_; rintro e u14 ⟨rfl, hbl⟩)
            have hPrev := hHeld
            refine hK.out _ _ ?_ (fun hHeld => ?_)
            · (try dsimp only); exact Lq.below hPrev hbl
            clear hK K
            try simp only [Act.put, List.setIfInBounds_toArray, List.set_cons_zero, List.set_cons_succ]
            clear hPrev hbl
            refine wpAnyH_take (i := 7) (oi := ?o7_6_14) (v := ?v7_6_14) ?hi7_6_14 (by kernel_rfl) (by kernel_rfl) (by kernel_rfl) (fun _ _ _ h => h) ?hy7_6_14 (by assumption) ?r7_6_14
            case hi7_6_14 => simp only [List.getElem?_toArray, List.getElem?_cons_succ, List.getElem?_cons_zero]; rfl
            case hy7_6_14 => exact Or.inl ⟨by rfl, by (intro w hSw; (try dsimp only at hSw); obtain ⟨⟨p0, p1, p2, p3, p4, p5, p6⟩, ⟨q0, q1, q2, q3, q4, q5, q6⟩, ⟨q7, q8⟩, q9, qa⟩ := hSw.1.cells; obtain ⟨g0, g1, g2, g3⟩ := HC.out w hSw.1.2.1.2.2.2; clear g3; go_simp) <;> with_reducible rfl⟩
            try simp only [Act.put, List.setIfInBounds_toArray, List.set_cons_zero, List.set_cons_succ]
            refine wpAnyH_take (i := 8) (oi := ?o8_6_14) (v := ?v8_6_14) ?hi8_6_14 (by kernel_rfl) (by kernel_rfl) (by kernel_rfl) (fun _ _ _ h => h) ?hy8_6_14 (by assumption) ?r8_6_14
            case hi8_6_14 => simp only [List.getElem?_toArray, List.getElem?_cons_succ, List.getElem?_cons_zero]; rfl
            case hy8_6_14 => exact Or.inl ⟨by rfl, by (intro w hSw; (try dsimp only at hSw); obtain ⟨⟨p0, p1, p2, p3, p4, p5, p6⟩, ⟨q0, q1, q2, q3, q4, q5, q6⟩, ⟨q7, q8⟩, q9, qa⟩ := hSw.1.cells; obtain ⟨g0, g1, g2, g3⟩ := HC.out w hSw.1.2.1.2.2.2; clear g3; go_simp) <;> with_reducible rfl⟩
            try simp only [Act.put, List.setIfInBounds_toArray, List.set_cons_zero, List.set_cons_succ]
            refine wpAnyH_take (i := 9) (oi := ?o9_6_14) (v := ?v9_6_14) ?hi9_6_14 (by kernel_rfl) (by kernel_rfl) (by kernel_rfl) (fun _ _ _ h => h) ?hy9_6_14 (by assumption) ?r9_6_14
            case hi9_6_14 => simp only [List.getElem?_toArray, List.getElem?_cons_succ, List.getElem?_cons_zero]; rfl
            case hy9_6_14 => exact Or.inl ⟨by rfl, by (intro w hSw; (try dsimp only at hSw); obtain ⟨⟨p0, p1, p2, p3, p4, p5, p6⟩, ⟨q0, q1, q2, q3, q4, q5, q6⟩, ⟨q7, q8⟩, q9, qa⟩ := hSw.1.cells; obtain ⟨g0, g1, g2, g3⟩ := HC.out w hSw.1.2.1.2.2.2; clear g3; go_simp) <;> with_reducible rfl⟩
            try simp only [Act.put, List.setIfInBounds_toArray, List.set_cons_zero, List.set_cons_succ]
            refine wpAnyH_ready (rs := [10]) (by kernel_rfl) (by simp) ?_
            refine AllReadyH.cons (o := ?o10_15) ?hi10_15 (fun K hK => ?st10_15) AllReadyH.nil
            case hi10_15 => simp only [List.getElem?_toArray, List.getElem?_cons_succ, List.getElem?_cons_zero]; rfl
            case st10_15 =>
              go_simp
              have hPrev := hHeld
              refine hK.out _ _ ?_ (fun hHeld => ?_)
              · (try dsimp only); exact Lq.below hPrev ((Below.refl _ _).alloc (Nat.le_refl _) _)
              clear hK K
              try simp only [Act.put, List.setIfInBounds_toArray, List.set_cons_zero, List.set_cons_succ]
              have HZ := Lib.hid (zq_of hPrev)
              clear hPrev
              revert HZ hHeld
              generalize hW15 : World.alloc _ _ = v15
              intro hHeld HZ
              clear hW15
              refine wpAnyH_take (i := 11) (oi := ?o11_f16) (v := ?v11_f16) ?hi11_f16 (by kernel_rfl) (by kernel_rfl) (by kernel_rfl) (fun _ _ _ h => h) ?hy11_f16 (by assumption) ?r11_f16
              case hi11_f16 => simp only [List.getElem?_toArray, List.getElem?_cons_succ, List.getElem?_cons_zero]; rfl
              case hy11_f16 => exact Or.inl ⟨by rfl, by (intro w hSw; (try dsimp only at hSw); obtain ⟨⟨p0, p1, p2, p3, p4, p5, p6⟩, ⟨q0, q1, q2, q3, q4, q5, q6⟩, ⟨q7, q8⟩, q9, qa⟩ := hSw.1.cells; obtain ⟨g0, g1, g2, g3⟩ := HC.out w hSw.1.2.1.2.2.2; clear g3; go_simp) <;> with_reducible rfl⟩
              try simp only [Act.put, List.setIfInBounds_toArray, List.set_cons_zero, List.set_cons_succ]
              have HS := Lib.hid hHeld
              obtain ⟨z0, z1⟩ := sc_cells HZ.out.1
              obtain ⟨z2, z3⟩ := sc_unfrozen HZ.out.1
              refine wpAnyH_ready (rs := [12]) (by kernel_rfl) (by simp) ?_
              refine AllReadyH.cons (o := ?oz16) ?hiz16 (fun K hK => ?stz16) AllReadyH.nil
              case hiz16 => simp only [List.getElem?_toArray, List.getElem?_cons_succ, List.getElem?_cons_zero]; rfl
              go_simp
              refine hK.out _ _ ?_ (fun hHeld => ?_)
              · (try dsimp only); exact Lq.put HS.out HZ.out.2 _ _
              clear hK K
              try simp only [Act.put, List.setIfInBounds_toArray, List.set_cons_zero, List.set_cons_succ]
              have HN := Lib.hid (sc_put HZ.out.1 (s2.op) (s2.to))
              have HL2 := Lib.hid hHeld
              clear hHeld HS z0 z1 z2 z3
              refine wpAnyH_done (by kernel_rfl) ?_ _
              refine NoPanic.normal ?_
              have HE := Lib.hid (HL2.out.1.set s2)
              revert HN HL2 HE
              generalize World.setCell (World.setCell _ _ _) _ _ = W10
              intro HN HL2 HE
              obtain ⟨⟨p0, p1, p2, p3, p4, p5, p6⟩, ⟨q0, q1, q2, q3, q4, q5, q6⟩, ⟨q7, q8⟩, q9, qa⟩ := HL2.out.1.cells
              obtain ⟨k0, k1⟩ := sc_cells HL2.out.2.1
              obtain ⟨k2, k3⟩ := sc_cells HN.out
              clear HA2 HZ HSH
              go_wp2
              go_roundw
              case rel => exact ⟨k + 1, s2, by omega, by go_num, HE⟩
              case measure => simp [intOf]; omega
          case st10_14 =>
            go_simp
            have hPrev := hHeld
            refine hK.out _ _ ?_ (fun hHeld => ?_)
            · (try dsimp only); exact Lq.below hPrev ((Below.refl _ _).alloc (Nat.le_refl _) _)
            clear hK K
            try simp only [Act.put, List.setIfInBounds_toArray, List.set_cons_zero, List.set_cons_succ]
            have HZ := Lib.hid (zq_of hPrev)
            clear hPrev
            revert HZ hHeld
            generalize hW14 : World.alloc _ _ = v14
            intro hHeld HZ
            clear hW14
            refine wpAnyH_ready (rs := [6]) (by kernel_rfl) (by simp) ?_
            refine AllReadyH.cons (o := ?o6_17) ?hi6_17 (fun K hK => ?st6_17) AllReadyH.nil
            case hi6_17 => simp only [List.getElem?_toArray, List.getElem?_cons_succ, List.getElem?_cons_zero]; rfl
            case st6_17 =>
              go_simp
              (go_at_call 24; refine (HA2.out _ hHeld.1.2.1.2.2.2).mono ?_; rintro e u17 ⟨rfl, hbl⟩)
              have hPrev := hHeld
              refine hK.out _ _ ?_ (fun hHeld => ?_)
              · (try dsimp only); exact Lq.below hPrev hbl
              clear hK K
              try simp only [Act.put, List.setIfInBounds_toArray, List.set_cons_zero, List.set_cons_succ]
              have HZ := Lib.hid (zs_below HZ.out hbl)
              clear hPrev hbl
              refine wpAnyH_take (i := 7) (oi := ?o7_6_17) (v := ?v7_6_17) ?hi7_6_17 (by kernel_rfl) (by kernel_rfl) (by kernel_rfl) (fun _ _ _ h => h) ?hy7_6_17 (by assumption) ?r7_6_17
              case hi7_6_17 => simp only [List.getElem?_toArray, List.getElem?_cons_succ, List.getElem?_cons_zero]; rfl
              case hy7_6_17 => exact Or.inl ⟨by rfl, by (intro w hSw; (try dsimp only at hSw); obtain ⟨⟨p0, p1, p2, p3, p4, p5, p6⟩, ⟨q0, q1, q2, q3, q4, q5, q6⟩, ⟨q7, q8⟩, q9, qa⟩ := hSw.1.cells; obtain ⟨g0, g1, g2, g3⟩ := HC.out w hSw.1.2.1.2.2.2; clear g3; go_simp) <;> with_reducible rfl⟩
              try simp only [Act.put, List.setIfInBounds_toArray, List.set_cons_zero, List.set_cons_succ]
              refine wpAnyH_take (i := 8) (oi := ?o8_6_17) (v := ?v8_6_17) ?hi8_6_17 (by kernel_rfl) (by kernel_rfl) (by kernel_rfl) (fun _ _ _ h => h) ?hy8_6_17 (by assumption) ?r8_6_17
              case hi8_6_17 => simp only [List.getElem?_toArray, List.getElem?_cons_succ, List.getElem?_cons_zero]; rfl
              case hy8_6_17 => exact Or.inl ⟨by rfl, by (intro w hSw; (try dsimp only at hSw); obtain ⟨⟨p0, p1, p2, p3, p4, p5, p6⟩, ⟨q0, q1, q2, q3, q4, q5, q6⟩, ⟨q7, q8⟩, q9, qa⟩ := hSw.1.cells; obtain ⟨g0, g1, g2, g3⟩ := HC.out w hSw.1.2.1.2.2.2; clear g3; go_simp) <;> with_reducible rfl⟩
              try simp only [Act.put, List.setIfInBounds_toArray, List.set_cons_zero, List.set_cons_succ]
              refine wpAnyH_take (i := 9) (oi := ?o9_6_17) (v := ?v9_6_17) ?hi9_6_17 (by kernel_rfl) (by kernel_rfl) (by kernel_rfl) (fun _ _ _ h => h) ?hy9_6_17 (by assumption) ?r9_6_17
              case hi9_6_17 => simp only [List.getElem?_toArray, List.getElem?_cons_succ, List.getElem?_cons_zero]; rfl
              case hy9_6_17 => exact Or.inl ⟨by rfl, by (intro w hSw; (try dsimp only at hSw); obtain ⟨⟨p0, p1, p2, p3, p4, p5, p6⟩, ⟨q0, q1, q2, q3, q4, q5, q6⟩, ⟨q7, q8⟩, q9, qa⟩ := hSw.1.cells; obtain ⟨g0, g1, g2, g3⟩ := HC.out w hSw.1.2.1.2.2.2; clear g3; go_simp) <;> with_reducible rfl⟩
              try simp only [Act.put, List.setIfInBounds_toArray, List.set_cons_zero, List.set_cons_succ]
              refine wpAnyH_take (i := 11) (oi := ?o11_f18) (v := ?v11_f18) ?hi11_f18 (by kernel_rfl) (by kernel_rfl) (by kernel_rfl) (fun _ _ _ h => h) ?hy11_f18 (by assumption) ?r11_f18
              case hi11_f18 => simp only [List.getElem?_toArray, List.getElem?_cons_succ, List.getElem?_cons_zero]; rfl
              case hy11_f18 => exact Or.inl ⟨by rfl, by (intro w hSw; (try dsimp only at hSw); obtain ⟨⟨p0, p1, p2, p3, p4, p5, p6⟩, ⟨q0, q1, q2, q3, q4, q5, q6⟩, ⟨q7, q8⟩, q9, qa⟩ := hSw.1.cells; obtain ⟨g0, g1, g2, g3⟩ := HC.out w hSw.1.2.1.2.2.2; clear g3; go_simp) <;> with_reducible rfl⟩
              try simp only [Act.put, List.setIfInBounds_toArray, List.set_cons_zero, List.set_cons_succ]
              have HS := Lib.hid hHeld
              obtain ⟨z0, z1⟩ := sc_cells HZ.out.1
              obtain ⟨z2, z3⟩ := sc_unfrozen HZ.out.1
              refine wpAnyH_ready (rs := [12]) (by kernel_rfl) (by simp) ?_
              refine AllReadyH.cons (o := ?oz18) ?hiz18 (fun K hK => ?stz18) AllReadyH.nil
              case hiz18 => simp only [List.getElem?_toArray, List.getElem?_cons_succ, List.getElem?_cons_zero]; rfl
              go_simp
              refine hK.out _ _ ?_ (fun hHeld => ?_)
              · (try dsimp only); exact Lq.put HS.out HZ.out.2 _ _
              clear hK K
              try simp only [Act.put, List.setIfInBounds_toArray, List.set_cons_zero, List.set_cons_succ]
              have HN := Lib.hid (sc_put HZ.out.1 (s2.op) (s2.to))
              have HL2 := Lib.hid hHeld
              clear hHeld HS z0 z1 z2 z3
              refine wpAnyH_done (by kernel_rfl) ?_ _
              refine NoPanic.normal ?_
              have HE := Lib.hid (HL2.out.1.set s2)
              revert HN HL2 HE
              generalize World.setCell (World.setCell _ _ _) _ _ = W10
              intro HN HL2 HE
              obtain ⟨⟨p0, p1, p2, p3, p4, p5, p6⟩, ⟨q0, q1, q2, q3, q4, q5, q6⟩, ⟨q7, q8⟩, q9, qa⟩ := HL2.out.1.cells
              obtain ⟨k0, k1⟩ := sc_cells HL2.out.2.1
              obtain ⟨k2, k3⟩ := sc_cells HN.out
              clear HA2 HZ HSH
              go_wp2
              go_roundw
              case rel => exact ⟨k + 1, s2, by omega, by go_num, HE⟩
              case measure => simp [intOf]; omega
    · have hlt' : ¬ ((k : Nat) : Int) < (ls.length : Int) := by omega
      go_wp2
      go_ret
      exact ⟨rfl, HR.out.2.1.2.2.2⟩
set_option maxRecDepth 100000 in
set_option maxHeartbeats 3200000 in
theorem not_big (a b : A3) (nt : Bool) (ao : Option Addr) (l c : Nat) (w : World) (hL : Lay w) (hl : 60 < l) :
    Calls Tryd.prog 7 #[RV a b nt, .slice ao l c] w fun e w' => e = .returned (.bool true) ∧ Below w.heap.size w w' := by
  have hl' : (60 : Int) < (l : Int) := by omega
  have HSH := Lib.hid (fun w1 (h : Below w.heap.size w w1) => shown_at w w1 hL h)
  have HM := Lib.hid (fun w' => may_any a b nt w')
  have HB0 := Lib.hid ((Below.refl w.heap.size w).alloc (Nat.le_refl _) (Obj.cells #[E a.k, E a.n, E a.m, E b.k, E b.n, E b.m, .bool nt] 25))
  go_enter Tryd.func7, Tryd.ntmps7
  go_wp2_with (go_at_call 12; refine (HSH.out _ HB0.out).mono ?_; rintro e w2 ⟨rfl, hb⟩; have HB2 := Lib.hid (HB0.out.trans (hb.mono HB0.out.size)); clear hb)
  go_ret
  exact ⟨rfl, HB2.out⟩
set_option maxRecDepth 100000 in
set_option maxHeartbeats 3200000 in
theorem not_may (a b : A3) (nt : Bool) (ao : Option Addr) (l c : Nat) (w : World) (hL : Lay w) (hl : l ≤ 60) (hm : ¬ May a b) :
    Calls Tryd.prog 7 #[RV a b nt, .slice ao l c] w fun e w' => e = .returned (.bool true) ∧ Below w.heap.size w w' := by
  have hl' : ¬ (60 : Int) < (l : Int) := by omega
  have HSH := Lib.hid (fun w1 (h : Below w.heap.size w w1) => shown_at w w1 hL h)
  have HM := Lib.hid (fun w' => may_any a b nt w')
  have HB0 := Lib.hid ((Below.refl w.heap.size w).alloc (Nat.le_refl _) (Obj.cells #[E a.k, E a.n, E a.m, E b.k, E b.n, E b.m, .bool nt] 25))
  rw [decide_eq_false hm] at HM
  go_enter Tryd.func7, Tryd.ntmps7
  go_wp2_with (first
    | (go_at_call 18; refine (HM.out _).mono ?_; rintro e w1 ⟨rfl, hb⟩; have HB1 := Lib.hid (HB0.out.trans (hb.mono HB0.out.size)); clear hb)
    | (go_at_call 12; refine (HSH.out _ HB1.out).mono ?_; rintro e w2 ⟨rfl, hb⟩; have HB2 := Lib.hid (HB1.out.trans (hb.mono HB1.out.size)); clear hb))
  go_ret
  exact ⟨rfl, HB2.out⟩
theorem addrNot_walk (W : World) (hL : Lay W) (a b : A3) (nt : Bool) (ao : Option Addr) (c : Nat) (ls : List L3) (hm : ls.length ≤ maxLen) (hb : Ls W (.slice ao ls.length c) ls) :
    Calls Tryd.prog 7 #[RV a b nt, .slice ao ls.length c] W fun e w' => e = .returned (.bool true) ∧ Below W.heap.size W w' := by
  by_cases hl : ls.length ≤ 60
  · by_cases h : May a b
    · exact not_walk a b nt ls ao c W hL h hl hb
    · exact not_may a b nt ao _ c W hL hl h
  · exact not_big a b nt ao _ c W hL (by omega)
end Go.Proofs.YtcijhfdccbgcpaaDoor.Ad
