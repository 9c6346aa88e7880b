/- AddrZero: the walk. -/
import Derived.Test.YtcijhfdccbgcpaaDoorAdL1
namespace Go.Proofs.YtcijhfdccbgcpaaDoor.Ad
open Go.RowKit Go.Shelf
set_option linter.unusedVariables false
set_option linter.unusedSimpArgs false
theorem sc_unfrozen {w : World} {g : Nat} {x : Bool} {y : Int} {t : TypeId} (h : w.heap[g]? = some (.cells #[.bool x, E y] t (0, 0))) : w.frozen? ⟨g, 0, none⟩ = false ∧ w.frozen? ⟨g, 1, none⟩ = false :=
  ⟨by simp [World.frozen?, h], by simp [World.frozen?, h]⟩
theorem sc_put {w : World} {g : Nat} {x0 : Bool} {y0 : Int} {t : TypeId} (h : w.heap[g]? = some (.cells #[.bool x0, E y0] t (0, 0))) (x : Bool) (y : Int) : ((w.setCell ⟨g, 0, none⟩ (.bool x)).setCell ⟨g, 1, none⟩ (E y)).heap[g]? = some (.cells #[.bool x, E y] t (0, 0)) :=
  Go.Joins.block_setCell (Go.Joins.block_setCell h (i := 0) (.bool x)) (i := 1) (E y)
theorem Lp.put {w0 : World} {B : Nat} {a b : A3} {nt : Bool} {s : S2} {w : World} (h : Lp w0 B a b nt s w) {g : Nat} (hg : B + 1 < g) (x y : Value) : Lp w0 B a b nt s ((w.setCell ⟨g, 0, none⟩ x).setCell ⟨g, 1, none⟩ y) := by
  obtain ⟨h1, h2, h3, hb⟩ := h
  refine ⟨?_, ?_, h3, (hb.setCell (by simp; omega) _).setCell (by simp; omega) _⟩
  · show _ = _
    rw [Below.heap_setCell _ _ _ _ (by simp; omega), Below.heap_setCell _ _ _ _ (by simp; omega)]
    exact h1
  · rw [Below.heap_setCell _ _ _ _ (by simp; omega), Below.heap_setCell _ _ _ _ (by simp; omega)]
    exact h2
/-- A new State behind the law's blocks. -/
def Zs (B g : Nat) (w : World) : Prop := w.heap[g]? = some (.cells #[.bool false, E 0] 52 (0, 0)) ∧ B + 1 < g
theorem zs_of {w0 : World} {B : Nat} {a b : A3} {nt : Bool} {s : S2} {w : World} (h : Lp w0 B a b nt s w) (_ : Lp w0 B a b nt s (w.alloc (.cells #[.bool false, E 0] 52))) : Zs B w.heap.size (w.alloc (.cells #[.bool false, E 0] 52)) :=
  ⟨heap_alloc_new _ _, lt_heap h.2.1⟩
theorem zs_below {B g : Nat} {w w' : World} (h : Zs B g w) (hb : Below w.heap.size w w') : Zs B g w' := ⟨(hb.block _ (lt_heap h.1)).trans h.1, h.2⟩
set_option maxRecDepth 100000 in
set_option maxHeartbeats 3200000 in
theorem zero_walk (hs : List Bool) (ao : Option Addr) (c : Nat) (fr : Bool) (w : World) (hL : Lay w) (hl : hs.length ≤ 60) (hcap : hs.length ≤ c) (hb : Bs w (.slice ao hs.length c) hs) :
    Calls Tryd.prog 11 #[.slice ao hs.length c, .bool fr] w fun e w' => e = .returned (.bool true) ∧ Below w.heap.size w w' := by
  have hm : ∀ N0 : Int, N0 = 0 ∨ N0 = 1 → May ⟨1, N0, 0⟩ ⟨4, 0, 0⟩ := by rintro N0 h; unfold May One; dsimp only; omega
  obtain ⟨N0, hN0, HE⟩ : ∃ N0 : Int, (N0 = 0 ∨ N0 = 1) ∧ N0 = (if fr then 1 else 0) := ⟨_, by cases fr <;> simp, rfl⟩
  have hm1 := hm N0 hN0
  have hl' : ¬ (60 : Int) < (hs.length : Int) := by omega
  have HSH := Lib.hid (fun w1 (h : Below w.heap.size w w1) => shown_at w w1 hL h)
  have HBS := Lib.hid hb
  clear hb hm
  cases fr
  all_goals (try simp only [Bool.false_eq_true, if_false] at HE); (try simp only [if_true] at HE)
  all_goals subst HE
  all_goals go_enter Tryd.func11, Tryd.ntmps11
  all_goals go_wp2_with (go_at_call 12; refine (HSH.out _ (Below.refl _ _)).mono ?_; rintro e w1 ⟨rfl, hb⟩; have HB1 := Lib.hid hb; clear hb)
  · have HL0 := Lib.hid (lp0 HB1.out ⟨1, 0, 0⟩ ⟨4, 0, 0⟩ false ⟨false, 0⟩)
    go_loopw [8, 9] (fun o i wr => ∃ (k : Nat) (ov : Bool), k ≤ hs.length ∧ i = .int .i64 (k : Nat) ∧ o = .bool ov ∧ Hid (Lp w w1.heap.size ⟨1, 0, 0⟩ ⟨4, 0, 0⟩ false (zeroS k ov) wr) ∧ Hid (k = 0 → ov = false)) (fun _ i _ => hs.length - (intOf i).toNat)
    case atStart => exact ⟨0, false, by omega, rfl, rfl, Lib.hid HL0.out, Lib.hid (fun _ => rfl)⟩
    case round =>
      obtain ⟨k, ov, hk, rfl, rfl, HR, HOV⟩ := hrel
      by_cases hlt : k < hs.length
      · have hlt' : ((k : Nat) : Int) < (hs.length : Int) := by omega
        obtain ⟨⟨q0, q1, q2, q3, q4, q5, q6⟩, ⟨q7, q8⟩, q9, qa⟩ := HR.out.cells
        obtain ⟨s, hss⟩ : ∃ s, zeroS k ov = s := ⟨_, rfl⟩
        rw [hss] at HR q7 q8
        have HSS := Lib.hid hss
        clear hss
        obtain ⟨ao', c', hv, hcs⟩ := HBS.out
        obtain ⟨rfl, rfl⟩ : ao' = ao ∧ c' = c := by simp at hv; exact ⟨hv.1.symm, hv.2.symm⟩
        obtain ⟨a, rfl, hx⟩ := hcs k hlt
        clear hcs hv
        have hwk : IntKind.i64.wrap ((k : Int) + 1) = (k : Int) + 1 := by rw [IntKind.wrap_i64]; omega
        have hwl : IntKind.i64.wrap ((hs.length : Int) - 1) = (hs.length : Int) - 1 := by rw [IntKind.wrap_i64]; omega
        have hck : ¬ c' = k := by omega
        have hc1 : (k : Int) + 1 ≤ (c' : Int) := by omega
        have hc2 : (0 : Int) ≤ (k : Int) + 1 := by omega
        have hc3 : ((k : Int) + 1).toNat = k + 1 := by omega
        have hh : ∀ w', Below w.heap.size w w' → w'.cell? (a.add k) = some (.bool hs[k]) := fun w' h => (h.cell (p := a.add k) (lt_cell hx)).trans hx
        have HX := Lib.hid hh
        obtain ⟨s2, hs2⟩ : ∃ s2, zeroS (k + 1) (ov || (hs[k] && (decide (0 < k) || !false))) = s2 := ⟨_, rfl⟩
        have HA : Hid (∀ w', Below w.heap.size w w' → Calls Tryd.prog 24 #[RV ⟨1, 0, 0⟩ ⟨4, 0, 0⟩ false, SV2 s, LV ((k : Int) + 1) ((k : Int) == (hs.length : Int) - 1) (.slice (some (a.add k)) 1 (c' - k))] w' fun e w2 => e = .returned (.tuple #[.bool (!ov), SV2 s2]) ∧ Below w'.heap.size w' w2) := Lib.hid (fun w' h => by
          have q := Ask_any ⟨1, 0, 0⟩ ⟨4, 0, 0⟩ false s ((k : Int) + 1) ((k : Int) == (hs.length : Int) - 1) (some (a.add k)) (c' - k) [hs[k]] w' hm1 (by omega) ⟨some (a.add k), c' - k, rfl, fun i hi => ⟨a.add k, rfl, by
            obtain rfl : i = 0 := by simpa using hi
            rw [Go.Deep.add_add]
            exact hh w' h⟩⟩
          have z := ask_zero false k ov hs[k] ((k : Int) == (hs.length : Int) - 1) HOV.out
          rw [hs2] at z
          unfold askN at q
          rw [HSS.out] at z
          have z2 : askL ⟨1, 0, 0⟩ ⟨4, 0, 0⟩ s ⟨(k : Int) + 1, ((k : Int) == (hs.length : Int) - 1), [hs[k]]⟩ = (!ov, s2) := z
          rw [z2] at q
          simpa using q)
        have HS2 := Lib.hid hs2
        clear hh hs2 hm1
        generalize hs[k] = hb at *
        go_wp2
        refine wp_region_noPanic ?_
        refine wp_region_held_drew (S := fun w' => Lp w w1.heap.size ⟨1, 0, 0⟩ ⟨4, 0, 0⟩ false s w') (by kernel_rfl) ?_ (fun hHeld => ?_)
        · (try dsimp only); exact Lp.below HR.out (Below.refl _ _).drew
        generalize wr.drew = wd at *
        refine wpAnyH_take (i := 0) (oi := ?o0_1) (v := ?v0_1) ?hi0_1 (by kernel_rfl) (by kernel_rfl) (by kernel_rfl) (fun _ _ _ h => h) ?hy0_1 (by assumption) ?r0_1
        case hi0_1 => simp only [List.getElem?_toArray, List.getElem?_cons_succ, List.getElem?_cons_zero]; rfl
        case hy0_1 => exact Or.inl ⟨by rfl, by (intro w hSw; (try dsimp only at hSw); obtain ⟨⟨q0, q1, q2, q3, q4, q5, q6⟩, ⟨q7, q8⟩, q9, qa⟩ := hSw.cells; go_simp) <;> with_reducible rfl⟩
        try simp only [Act.put, List.setIfInBounds_toArray, List.set_cons_zero, List.set_cons_succ]
        refine wpAnyH_take (i := 1) (oi := ?o1_1) (v := ?v1_1) ?hi1_1 (by kernel_rfl) (by kernel_rfl) (by kernel_rfl) (fun _ _ _ h => h) ?hy1_1 (by assumption) ?r1_1
        case hi1_1 => simp only [List.getElem?_toArray, List.getElem?_cons_succ, List.getElem?_cons_zero]; rfl
        case hy1_1 => exact Or.inl ⟨by rfl, by (intro w hSw; (try dsimp only at hSw); obtain ⟨⟨q0, q1, q2, q3, q4, q5, q6⟩, ⟨q7, q8⟩, q9, qa⟩ := hSw.cells; go_simp) <;> with_reducible rfl⟩
        try simp only [Act.put, List.setIfInBounds_toArray, List.set_cons_zero, List.set_cons_succ]
        refine wpAnyH_take (i := 2) (oi := ?o2_1) (v := ?v2_1) ?hi2_1 (by kernel_rfl) (by kernel_rfl) (by kernel_rfl) (fun _ _ _ h => h) ?hy2_1 (by assumption) ?r2_1
        case hi2_1 => simp only [List.getElem?_toArray, List.getElem?_cons_succ, List.getElem?_cons_zero]; rfl
        case hy2_1 => exact Or.inl ⟨by rfl, by (intro w hSw; (try dsimp only at hSw); obtain ⟨⟨q0, q1, q2, q3, q4, q5, q6⟩, ⟨q7, q8⟩, q9, qa⟩ := hSw.cells; go_simp) <;> with_reducible rfl⟩
        try simp only [Act.put, List.setIfInBounds_toArray, List.set_cons_zero, List.set_cons_succ]
        refine wpAnyH_take (i := 3) (oi := ?o3_1) (v := ?v3_1) ?hi3_1 (by kernel_rfl) (by kernel_rfl) (by kernel_rfl) (fun _ _ _ h => h) ?hy3_1 (by assumption) ?r3_1
        case hi3_1 => simp only [List.getElem?_toArray, List.getElem?_cons_succ, List.getElem?_cons_zero]; rfl
        case hy3_1 => exact Or.inl ⟨by rfl, by (intro w hSw; (try dsimp only at hSw); obtain ⟨⟨q0, q1, q2, q3, q4, q5, q6⟩, ⟨q7, q8⟩, q9, qa⟩ := hSw.cells; go_simp) <;> with_reducible rfl⟩
        try simp only [Act.put, List.setIfInBounds_toArray, List.set_cons_zero, List.set_cons_succ]
        refine wpAnyH_take (i := 4) (oi := ?o4_1) (v := ?v4_1) ?hi4_1 (by kernel_rfl) (by kernel_rfl) (by kernel_rfl) (fun _ _ _ h => h) ?hy4_1 (by assumption) ?r4_1
        case hi4_1 => simp only [List.getElem?_toArray, List.getElem?_cons_succ, List.getElem?_cons_zero]; rfl
        case hy4_1 => exact Or.inl ⟨by rfl, by (intro w hSw; (try dsimp only at hSw); obtain ⟨⟨q0, q1, q2, q3, q4, q5, q6⟩, ⟨q7, q8⟩, q9, qa⟩ := hSw.cells; go_simp) <;> with_reducible rfl⟩
        try simp only [Act.put, List.setIfInBounds_toArray, List.set_cons_zero, List.set_cons_succ]
        refine wpAnyH_take (i := 5) (oi := ?o5_1) (v := ?v5_1) ?hi5_1 (by kernel_rfl) (by kernel_rfl) (by kernel_rfl) (fun _ _ _ h => h) ?hy5_1 (by assumption) ?r5_1
        case hi5_1 => simp only [List.getElem?_toArray, List.getElem?_cons_succ, List.getElem?_cons_zero]; rfl
        case hy5_1 => exact Or.inl ⟨by rfl, by (intro w hSw; (try dsimp only at hSw); obtain ⟨⟨q0, q1, q2, q3, q4, q5, q6⟩, ⟨q7, q8⟩, q9, qa⟩ := hSw.cells; go_simp) <;> with_reducible rfl⟩
        try simp only [Act.put, List.setIfInBounds_toArray, List.set_cons_zero, List.set_cons_succ]
        refine wpAnyH_take (i := 6) (oi := ?o6_1) (v := ?v6_1) ?hi6_1 (by kernel_rfl) (by kernel_rfl) (by kernel_rfl) (fun _ _ _ h => h) ?hy6_1 (by assumption) ?r6_1
        case hi6_1 => simp only [List.getElem?_toArray, List.getElem?_cons_succ, List.getElem?_cons_zero]; rfl
        case hy6_1 => exact Or.inl ⟨by rfl, by (intro w hSw; (try dsimp only at hSw); obtain ⟨⟨q0, q1, q2, q3, q4, q5, q6⟩, ⟨q7, q8⟩, q9, qa⟩ := hSw.cells; go_simp) <;> with_reducible rfl⟩
        try simp only [Act.put, List.setIfInBounds_toArray, List.set_cons_zero, List.set_cons_succ]
        refine wpAnyH_take (i := 7) (oi := ?o7_1) (v := ?v7_1) ?hi7_1 (by kernel_rfl) (by kernel_rfl) (by kernel_rfl) (fun _ _ _ h => h) ?hy7_1 (by assumption) ?r7_1
        case hi7_1 => simp only [List.getElem?_toArray, List.getElem?_cons_succ, List.getElem?_cons_zero]; rfl
        case hy7_1 => exact Or.inl ⟨by rfl, by (intro w hSw; (try dsimp only at hSw); obtain ⟨⟨q0, q1, q2, q3, q4, q5, q6⟩, ⟨q7, q8⟩, q9, qa⟩ := hSw.cells; go_simp) <;> with_reducible rfl⟩
        try simp only [Act.put, List.setIfInBounds_toArray, List.set_cons_zero, List.set_cons_succ]
        refine wpAnyH_take (i := 8) (oi := ?o8_1) (v := ?v8_1) ?hi8_1 (by kernel_rfl) (by kernel_rfl) (by kernel_rfl) (fun _ _ _ h => h) ?hy8_1 (by assumption) ?r8_1
        case hi8_1 => simp only [List.getElem?_toArray, List.getElem?_cons_succ, List.getElem?_cons_zero]; rfl
        case hy8_1 => exact Or.inl ⟨by rfl, by (intro w hSw; (try dsimp only at hSw); obtain ⟨⟨q0, q1, q2, q3, q4, q5, q6⟩, ⟨q7, q8⟩, q9, qa⟩ := hSw.cells; go_simp) <;> with_reducible rfl⟩
        try simp only [Act.put, List.setIfInBounds_toArray, List.set_cons_zero, List.set_cons_succ]
        refine wpAnyH_take (i := 9) (oi := ?o9_1) (v := ?v9_1) ?hi9_1 (by kernel_rfl) (by kernel_rfl) (by kernel_rfl) (fun _ _ _ h => h) ?hy9_1 (by assumption) ?r9_1
        case hi9_1 => simp only [List.getElem?_toArray, List.getElem?_cons_succ, List.getElem?_cons_zero]; rfl
        case hy9_1 => exact Or.inl ⟨by rfl, by (intro w hSw; (try dsimp only at hSw); obtain ⟨⟨q0, q1, q2, q3, q4, q5, q6⟩, ⟨q7, q8⟩, q9, qa⟩ := hSw.cells; go_simp) <;> with_reducible rfl⟩
        try simp only [Act.put, List.setIfInBounds_toArray, List.set_cons_zero, List.set_cons_succ]
        refine wpAnyH_take (i := 10) (oi := ?o10_1) (v := ?v10_1) ?hi10_1 (by kernel_rfl) (by kernel_rfl) (by kernel_rfl) (fun _ _ _ h => h) ?hy10_1 (by assumption) ?r10_1
        case hi10_1 => simp only [List.getElem?_toArray, List.getElem?_cons_succ, List.getElem?_cons_zero]; rfl
        case hy10_1 => exact Or.inl ⟨by rfl, by (intro w hSw; (try dsimp only at hSw); obtain ⟨⟨q0, q1, q2, q3, q4, q5, q6⟩, ⟨q7, q8⟩, q9, qa⟩ := hSw.cells; go_simp) <;> with_reducible rfl⟩
        try simp only [Act.put, List.setIfInBounds_toArray, List.set_cons_zero, List.set_cons_succ]
        refine wpAnyH_take (i := 11) (oi := ?o11_1) (v := ?v11_1) ?hi11_1 (by kernel_rfl) (by kernel_rfl) (by kernel_rfl) (fun _ _ _ h => h) ?hy11_1 (by assumption) ?r11_1
        case hi11_1 => simp only [List.getElem?_toArray, List.getElem?_cons_succ, List.getElem?_cons_zero]; rfl
        case hy11_1 => exact Or.inl ⟨by rfl, by (intro w hSw; (try dsimp only at hSw); obtain ⟨⟨q0, q1, q2, q3, q4, q5, q6⟩, ⟨q7, q8⟩, q9, qa⟩ := hSw.cells; go_simp) <;> with_reducible rfl⟩
        try simp only [Act.put, List.setIfInBounds_toArray, List.set_cons_zero, List.set_cons_succ]
        refine wpAnyH_take (i := 12) (oi := ?o12_1) (v := ?v12_1) ?hi12_1 (by kernel_rfl) (by kernel_rfl) (by kernel_rfl) (fun _ _ _ h => h) ?hy12_1 (by assumption) ?r12_1
        case hi12_1 => simp only [List.getElem?_toArray, List.getElem?_cons_succ, List.getElem?_cons_zero]; rfl
        case hy12_1 => exact Or.inl ⟨by rfl, by (intro w hSw; (try dsimp only at hSw); obtain ⟨⟨q0, q1, q2, q3, q4, q5, q6⟩, ⟨q7, q8⟩, q9, qa⟩ := hSw.cells; go_simp) <;> with_reducible rfl⟩
        try simp only [Act.put, List.setIfInBounds_toArray, List.set_cons_zero, List.set_cons_succ]
        refine wpAnyH_take (i := 13) (oi := ?o13_1) (v := ?v13_1) ?hi13_1 (by kernel_rfl) (by kernel_rfl) (by kernel_rfl) (fun _ _ _ h => h) ?hy13_1 (by assumption) ?r13_1
        case hi13_1 => simp only [List.getElem?_toArray, List.getElem?_cons_succ, List.getElem?_cons_zero]; rfl
        case hy13_1 => exact Or.inl ⟨by rfl, by (intro w hSw; (try dsimp only at hSw); obtain ⟨⟨q0, q1, q2, q3, q4, q5, q6⟩, ⟨q7, q8⟩, q9, qa⟩ := hSw.cells; go_simp) <;> with_reducible rfl⟩
        try simp only [Act.put, List.setIfInBounds_toArray, List.set_cons_zero, List.set_cons_succ]
        refine wpAnyH_take (i := 14) (oi := ?o14_1) (v := ?v14_1) ?hi14_1 (by kernel_rfl) (by kernel_rfl) (by kernel_rfl) (fun _ _ _ h => h) ?hy14_1 (by assumption) ?r14_1
        case hi14_1 => simp only [List.getElem?_toArray, List.getElem?_cons_succ, List.getElem?_cons_zero]; rfl
        case hy14_1 => exact Or.inl ⟨by rfl, by (intro w hSw; (try dsimp only at hSw); obtain ⟨⟨q0, q1, q2, q3, q4, q5, q6⟩, ⟨q7, q8⟩, q9, qa⟩ := hSw.cells; go_simp) <;> with_reducible rfl⟩
        try simp only [Act.put, List.setIfInBounds_toArray, List.set_cons_zero, List.set_cons_succ]
        refine wpAnyH_ready (rs := [15, 19]) (by kernel_rfl) (by simp) ?_
        refine AllReadyH.cons (o := ?o15_2) ?hi15_2 (fun K hK => ?st15_2) (AllReadyH.cons (o := ?o19_2) ?hi19_2 (fun K hK => ?st19_2) AllReadyH.nil)
        case hi15_2 => simp only [List.getElem?_toArray, List.getElem?_cons_succ, List.getElem?_cons_zero]; rfl
        case hi19_2 => simp only [List.getElem?_toArray, List.getElem?_cons_succ, List.getElem?_cons_zero]; rfl
        case st15_2 =>
          go_simp
          (go_at_call 24; refine (HA.out _ hHeld.2.2.2).mono ?_; rintro e w' ⟨rfl, hbl⟩)
          have hPrev := hHeld
          refine hK.out _ _ ?_ (fun hHeld => ?_)
          · (try dsimp only); exact Lp.below hPrev hbl
          clear hK K
          try simp only [Act.put, List.setIfInBounds_toArray, List.set_cons_zero, List.set_cons_succ]
          clear hPrev hbl
          refine wpAnyH_take (i := 16) (oi := ?o16_15_2) (v := ?v16_15_2) ?hi16_15_2 (by kernel_rfl) (by kernel_rfl) (by kernel_rfl) (fun _ _ _ h => h) ?hy16_15_2 (by assumption) ?r16_15_2
          case hi16_15_2 => simp only [List.getElem?_toArray, List.getElem?_cons_succ, List.getElem?_cons_zero]; rfl
          case hy16_15_2 => exact Or.inl ⟨by rfl, by (intro w hSw; (try dsimp only at hSw); obtain ⟨⟨q0, q1, q2, q3, q4, q5, q6⟩, ⟨q7, q8⟩, q9, qa⟩ := hSw.cells; go_simp) <;> with_reducible rfl⟩
          try simp only [Act.put, List.setIfInBounds_toArray, List.set_cons_zero, List.set_cons_succ]
          refine wpAnyH_take (i := 17) (oi := ?o17_15_2) (v := ?v17_15_2) ?hi17_15_2 (by kernel_rfl) (by kernel_rfl) (by kernel_rfl) (fun _ _ _ h => h) ?hy17_15_2 (by assumption) ?r17_15_2
          case hi17_15_2 => simp only [List.getElem?_toArray, List.getElem?_cons_succ, List.getElem?_cons_zero]; rfl
          case hy17_15_2 => exact Or.inl ⟨by rfl, by (intro w hSw; (try dsimp only at hSw); obtain ⟨⟨q0, q1, q2, q3, q4, q5, q6⟩, ⟨q7, q8⟩, q9, qa⟩ := hSw.cells; go_simp) <;> with_reducible rfl⟩
          try simp only [Act.put, List.setIfInBounds_toArray, List.set_cons_zero, List.set_cons_succ]
          refine wpAnyH_take (i := 18) (oi := ?o18_15_2) (v := ?v18_15_2) ?hi18_15_2 (by kernel_rfl) (by kernel_rfl) (by kernel_rfl) (fun _ _ _ h => h) ?hy18_15_2 (by assumption) ?r18_15_2
          case hi18_15_2 => simp only [List.getElem?_toArray, List.getElem?_cons_succ, List.getElem?_cons_zero]; rfl
          case hy18_15_2 => exact Or.inl ⟨by rfl, by (intro w hSw; (try dsimp only at hSw); obtain ⟨⟨q0, q1, q2, q3, q4, q5, q6⟩, ⟨q7, q8⟩, q9, qa⟩ := hSw.cells; go_simp) <;> with_reducible rfl⟩
          try simp only [Act.put, List.setIfInBounds_toArray, List.set_cons_zero, List.set_cons_succ]
          refine wpAnyH_ready (rs := [19]) (by kernel_rfl) (by simp) ?_
          refine AllReadyH.cons (o := ?o19_3) ?hi19_3 (fun K hK => ?st19_3) AllReadyH.nil
          case hi19_3 => simp only [List.getElem?_toArray, List.getElem?_cons_succ, List.getElem?_cons_zero]; rfl
          case st19_3 =>
            go_simp
            have hPrev := hHeld
            refine hK.out _ _ ?_ (fun hHeld => ?_)
            · (try dsimp only); exact Lp.below hPrev ((Below.refl _ _).alloc (Nat.le_refl _) _)
            clear hK K
            try simp only [Act.put, List.setIfInBounds_toArray, List.set_cons_zero, List.set_cons_succ]
            have HZ := Lib.hid (zs_of hPrev hHeld)
            clear hPrev
            revert HZ hHeld
            generalize hW3 : World.alloc _ _ = v3
            intro hHeld HZ
            clear hW3
            refine wpAnyH_take (i := 20) (oi := ?o20_f4) (v := ?v20_f4) ?hi20_f4 (by kernel_rfl) (by kernel_rfl) (by kernel_rfl) (fun _ _ _ h => h) ?hy20_f4 (by assumption) ?r20_f4
            case hi20_f4 => simp only [List.getElem?_toArray, List.getElem?_cons_succ, List.getElem?_cons_zero]; rfl
            case hy20_f4 => exact Or.inl ⟨by rfl, by (intro w hSw; (try dsimp only at hSw); obtain ⟨⟨q0, q1, q2, q3, q4, q5, q6⟩, ⟨q7, q8⟩, q9, qa⟩ := hSw.cells; go_simp) <;> with_reducible rfl⟩
            try simp only [Act.put, List.setIfInBounds_toArray, List.set_cons_zero, List.set_cons_succ]
            have HS := Lib.hid hHeld
            obtain ⟨z0, z1⟩ := sc_cells HZ.out.1
            obtain ⟨z2, z3⟩ := sc_unfrozen HZ.out.1
            refine wpAnyH_ready (rs := [21]) (by kernel_rfl) (by simp) ?_
            refine AllReadyH.cons (o := ?oz4) ?hiz4 (fun K hK => ?stz4) AllReadyH.nil
            case hiz4 => simp only [List.getElem?_toArray, List.getElem?_cons_succ, List.getElem?_cons_zero]; rfl
            go_simp
            refine hK.out _ _ ?_ (fun hHeld => ?_)
            · (try dsimp only); exact Lp.put HS.out HZ.out.2 _ _
            clear hK K
            try simp only [Act.put, List.setIfInBounds_toArray, List.set_cons_zero, List.set_cons_succ]
            have HN := Lib.hid (sc_put HZ.out.1 (s2.op) (s2.to))
            have HL2 := Lib.hid hHeld
            clear hHeld HS z0 z1 z2 z3
            refine wpAnyH_done (by kernel_rfl) ?_ _
            refine NoPanic.normal ?_
            revert HN HL2
            generalize World.setCell (World.setCell _ _ _) _ _ = W9
            intro HN HL2
            obtain ⟨⟨q0, q1, q2, q3, q4, q5, q6⟩, ⟨q7, q8⟩, q9, qa⟩ := HL2.out.cells
            obtain ⟨k0, k1⟩ := sc_cells HN.out
            have hxx := HX.out _ (HL2.out.set s2).2.2.2
            clear HSH HBS HA HZ
            cases ov
            · cases hb
              · have HZ2 := Lib.hid (show zeroS (k + 1) false = s2 from by rw [← HS2.out]; simp)
                clear HS2
                go_wp2
                go_roundw
                case rel => exact ⟨k + 1, false, by omega, by go_num, rfl, by rw [HZ2.out]; exact Lib.hid (HL2.out.set s2), Lib.hid (fun h => absurd h (by omega))⟩
                case measure => simp [intOf]; omega
              · by_cases h0 : 0 < k
                · have h0' : (0 : Int) < (k : Int) := by omega
                  have HZ2 := Lib.hid (show zeroS (k + 1) true = s2 from by rw [← HS2.out]; simp [h0])
                  clear HS2
                  go_wp2
                  go_roundw
                  case rel => exact ⟨k + 1, true, by omega, by go_num, rfl, by rw [HZ2.out]; exact Lib.hid (HL2.out.set s2), Lib.hid (fun h => absurd h (by omega))⟩
                  case measure => simp [intOf]; omega
                · have h0' : ¬ (0 : Int) < (k : Int) := by omega
                  have HZ2 := Lib.hid (show zeroS (k + 1) true = s2 from by rw [← HS2.out]; simp [h0])
                  clear HS2
                  go_wp2
                  go_roundw
                  case rel => exact ⟨k + 1, true, by omega, by go_num, rfl, by rw [HZ2.out]; exact Lib.hid (HL2.out.set s2), Lib.hid (fun h => absurd h (by omega))⟩
                  case measure => simp [intOf]; omega
            · cases hb
              · have HZ2 := Lib.hid (show zeroS (k + 1) true = s2 from by rw [← HS2.out]; simp)
                clear HS2
                go_wp2
                go_roundw
                case rel => exact ⟨k + 1, true, by omega, by go_num, rfl, by rw [HZ2.out]; exact Lib.hid (HL2.out.set s2), Lib.hid (fun h => absurd h (by omega))⟩
                case measure => simp [intOf]; omega
              · by_cases h0 : 0 < k
                · have h0' : (0 : Int) < (k : Int) := by omega
                  have HZ2 := Lib.hid (show zeroS (k + 1) true = s2 from by rw [← HS2.out]; simp [h0])
                  clear HS2
                  go_wp2
                  go_roundw
                  case rel => exact ⟨k + 1, true, by omega, by go_num, rfl, by rw [HZ2.out]; exact Lib.hid (HL2.out.set s2), Lib.hid (fun h => absurd h (by omega))⟩
                  case measure => simp [intOf]; omega
                · have h0' : ¬ (0 : Int) < (k : Int) := by omega
                  have HZ2 := Lib.hid (show zeroS (k + 1) true = s2 from by rw [← HS2.out]; simp [h0])
                  clear HS2
                  go_wp2
                  go_roundw
                  case rel => exact ⟨k + 1, true, by omega, by go_num, rfl, by rw [HZ2.out]; exact Lib.hid (HL2.out.set s2), Lib.hid (fun h => absurd h (by omega))⟩
                  case measure => simp [intOf]; omega
        case st19_2 =>
          go_simp
          have hPrev := hHeld
          refine hK.out _ _ ?_ (fun hHeld => ?_)
          · (try dsimp only); exact Lp.below hPrev ((Below.refl _ _).alloc (Nat.le_refl _) _)
          clear hK K
          try simp only [Act.put, List.setIfInBounds_toArray, List.set_cons_zero, List.set_cons_succ]
          have HZ := Lib.hid (zs_of hPrev hHeld)
          clear hPrev
          revert HZ hHeld
          generalize hW2 : World.alloc _ _ = v2
          intro hHeld HZ
          clear hW2
          refine wpAnyH_ready (rs := [15]) (by kernel_rfl) (by simp) ?_
          refine AllReadyH.cons (o := ?o15_5) ?hi15_5 (fun K hK => ?st15_5) AllReadyH.nil
          case hi15_5 => simp only [List.getElem?_toArray, List.getElem?_cons_succ, List.getElem?_cons_zero]; rfl
          case st15_5 =>
            go_simp
            (go_at_call 24; refine (HA.out _ hHeld.2.2.2).mono ?_; rintro e w' ⟨rfl, hbl⟩)
            have hPrev := hHeld
            refine hK.out _ _ ?_ (fun hHeld => ?_)
            · (try dsimp only); exact Lp.below hPrev hbl
            clear hK K
            try simp only [Act.put, List.setIfInBounds_toArray, List.set_cons_zero, List.set_cons_succ]
            have HZ := Lib.hid (zs_below HZ.out hbl)
            clear hPrev hbl
            refine wpAnyH_take (i := 16) (oi := ?o16_15_5) (v := ?v16_15_5) ?hi16_15_5 (by kernel_rfl) (by kernel_rfl) (by kernel_rfl) (fun _ _ _ h => h) ?hy16_15_5 (by assumption) ?r16_15_5
            case hi16_15_5 => simp only [List.getElem?_toArray, List.getElem?_cons_succ, List.getElem?_cons_zero]; rfl
            case hy16_15_5 => exact Or.inl ⟨by rfl, by (intro w hSw; (try dsimp only at hSw); obtain ⟨⟨q0, q1, q2, q3, q4, q5, q6⟩, ⟨q7, q8⟩, q9, qa⟩ := hSw.cells; go_simp) <;> with_reducible rfl⟩
            try simp only [Act.put, List.setIfInBounds_toArray, List.set_cons_zero, List.set_cons_succ]
            refine wpAnyH_take (i := 17) (oi := ?o17_15_5) (v := ?v17_15_5) ?hi17_15_5 (by kernel_rfl) (by kernel_rfl) (by kernel_rfl) (fun _ _ _ h => h) ?hy17_15_5 (by assumption) ?r17_15_5
            case hi17_15_5 => simp only [List.getElem?_toArray, List.getElem?_cons_succ, List.getElem?_cons_zero]; rfl
            case hy17_15_5 => exact Or.inl ⟨by rfl, by (intro w hSw; (try dsimp only at hSw); obtain ⟨⟨q0, q1, q2, q3, q4, q5, q6⟩, ⟨q7, q8⟩, q9, qa⟩ := hSw.cells; go_simp) <;> with_reducible rfl⟩
            try simp only [Act.put, List.setIfInBounds_toArray, List.set_cons_zero, List.set_cons_succ]
            refine wpAnyH_take (i := 18) (oi := ?o18_15_5) (v := ?v18_15_5) ?hi18_15_5 (by kernel_rfl) (by kernel_rfl) (by kernel_rfl) (fun _ _ _ h => h) ?hy18_15_5 (by assumption) ?r18_15_5
            case hi18_15_5 => simp only [List.getElem?_toArray, List.getElem?_cons_succ, List.getElem?_cons_zero]; rfl
            case hy18_15_5 => exact Or.inl ⟨by rfl, by (intro w hSw; (try dsimp only at hSw); obtain ⟨⟨q0, q1, q2, q3, q4, q5, q6⟩, ⟨q7, q8⟩, q9, qa⟩ := hSw.cells; go_simp) <;> with_reducible rfl⟩
            try simp only [Act.put, List.setIfInBounds_toArray, List.set_cons_zero, List.set_cons_succ]
            refine wpAnyH_take (i := 20) (oi := ?o20_f6) (v := ?v20_f6) ?hi20_f6 (by kernel_rfl) (by kernel_rfl) (by kernel_rfl) (fun _ _ _ h => h) ?hy20_f6 (by assumption) ?r20_f6
            case hi20_f6 => simp only [List.getElem?_toArray, List.getElem?_cons_succ, List.getElem?_cons_zero]; rfl
            case hy20_f6 => exact Or.inl ⟨by rfl, by (intro w hSw; (try dsimp only at hSw); obtain ⟨⟨q0, q1, q2, q3, q4, q5, q6⟩, ⟨q7, q8⟩, q9, qa⟩ := hSw.cells; go_simp) <;> with_reducible rfl⟩
            try simp only [Act.put, List.setIfInBounds_toArray, List.set_cons_zero, List.set_cons_succ]
            have HS := Lib.hid hHeld
            obtain ⟨z0, z1⟩ := sc_cells HZ.out.1
            obtain ⟨z2, z3⟩ := sc_unfrozen HZ.out.1
            refine wpAnyH_ready (rs := [21]) (by kernel_rfl) (by simp) ?_
            refine AllReadyH.cons (o := ?oz6) ?hiz6 (fun K hK => ?stz6) AllReadyH.nil
            case hiz6 => simp only [List.getElem?_toArray, List.getElem?_cons_succ, List.getElem?_cons_zero]; rfl
            go_simp
            refine hK.out _ _ ?_ (fun hHeld => ?_)
            · (try dsimp only); exact Lp.put HS.out HZ.out.2 _ _
            clear hK K
            try simp only [Act.put, List.setIfInBounds_toArray, List.set_cons_zero, List.set_cons_succ]
            have HN := Lib.hid (sc_put HZ.out.1 (s2.op) (s2.to))
            have HL2 := Lib.hid hHeld
            clear hHeld HS z0 z1 z2 z3
            refine wpAnyH_done (by kernel_rfl) ?_ _
            refine NoPanic.normal ?_
            revert HN HL2
            generalize World.setCell (World.setCell _ _ _) _ _ = W9
            intro HN HL2
            obtain ⟨⟨q0, q1, q2, q3, q4, q5, q6⟩, ⟨q7, q8⟩, q9, qa⟩ := HL2.out.cells
            obtain ⟨k0, k1⟩ := sc_cells HN.out
            have hxx := HX.out _ (HL2.out.set s2).2.2.2
            clear HSH HBS HA HZ
            cases ov
            · cases hb
              · have HZ2 := Lib.hid (show zeroS (k + 1) false = s2 from by rw [← HS2.out]; simp)
                clear HS2
                go_wp2
                go_roundw
                case rel => exact ⟨k + 1, false, by omega, by go_num, rfl, by rw [HZ2.out]; exact Lib.hid (HL2.out.set s2), Lib.hid (fun h => absurd h (by omega))⟩
                case measure => simp [intOf]; omega
              · by_cases h0 : 0 < k
                · have h0' : (0 : Int) < (k : Int) := by omega
                  have HZ2 := Lib.hid (show zeroS (k + 1) true = s2 from by rw [← HS2.out]; simp [h0])
                  clear HS2
                  go_wp2
                  go_roundw
                  case rel => exact ⟨k + 1, true, by omega, by go_num, rfl, by rw [HZ2.out]; exact Lib.hid (HL2.out.set s2), Lib.hid (fun h => absurd h (by omega))⟩
                  case measure => simp [intOf]; omega
                · have h0' : ¬ (0 : Int) < (k : Int) := by omega
                  have HZ2 := Lib.hid (show zeroS (k + 1) true = s2 from by rw [← HS2.out]; simp [h0])
                  clear HS2
                  go_wp2
                  go_roundw
                  case rel => exact ⟨k + 1, true, by omega, by go_num, rfl, by rw [HZ2.out]; exact Lib.hid (HL2.out.set s2), Lib.hid (fun h => absurd h (by omega))⟩
                  case measure => simp [intOf]; omega
            · cases hb
              · have HZ2 := Lib.hid (show zeroS (k + 1) true = s2 from by rw [← HS2.out]; simp)
                clear HS2
                go_wp2
                go_roundw
                case rel => exact ⟨k + 1, true, by omega, by go_num, rfl, by rw [HZ2.out]; exact Lib.hid (HL2.out.set s2), Lib.hid (fun h => absurd h (by omega))⟩
                case measure => simp [intOf]; omega
              · by_cases h0 : 0 < k
                · have h0' : (0 : Int) < (k : Int) := by omega
                  have HZ2 := Lib.hid (show zeroS (k + 1) true = s2 from by rw [← HS2.out]; simp [h0])
                  clear HS2
                  go_wp2
                  go_roundw
                  case rel => exact ⟨k + 1, true, by omega, by go_num, rfl, by rw [HZ2.out]; exact Lib.hid (HL2.out.set s2), Lib.hid (fun h => absurd h (by omega))⟩
                  case measure => simp [intOf]; omega
                · have h0' : ¬ (0 : Int) < (k : Int) := by omega
                  have HZ2 := Lib.hid (show zeroS (k + 1) true = s2 from by rw [← HS2.out]; simp [h0])
                  clear HS2
                  go_wp2
                  go_roundw
                  case rel => exact ⟨k + 1, true, by omega, by go_num, rfl, by rw [HZ2.out]; exact Lib.hid (HL2.out.set s2), Lib.hid (fun h => absurd h (by omega))⟩
                  case measure => simp [intOf]; omega
      · have hlt' : ¬ ((k : Nat) : Int) < (hs.length : Int) := by omega
        go_wp2
        go_ret
        exact ⟨rfl, HR.out.2.2.2⟩
  · have HL0 := Lib.hid (lp0 HB1.out ⟨1, 1, 0⟩ ⟨4, 0, 0⟩ false ⟨false, 0⟩)
    go_loopw [8, 9] (fun o i wr => ∃ (k : Nat) (ov : Bool), k ≤ hs.length ∧ i = .int .i64 (k : Nat) ∧ o = .bool ov ∧ Hid (Lp w w1.heap.size ⟨1, 1, 0⟩ ⟨4, 0, 0⟩ false (zeroS k ov) wr) ∧ Hid (k = 0 → ov = false)) (fun _ i _ => hs.length - (intOf i).toNat)
    case atStart => exact ⟨0, false, by omega, rfl, rfl, Lib.hid HL0.out, Lib.hid (fun _ => rfl)⟩
    case round =>
      obtain ⟨k, ov, hk, rfl, rfl, HR, HOV⟩ := hrel
      by_cases hlt : k < hs.length
      · have hlt' : ((k : Nat) : Int) < (hs.length : Int) := by omega
        obtain ⟨⟨q0, q1, q2, q3, q4, q5, q6⟩, ⟨q7, q8⟩, q9, qa⟩ := HR.out.cells
        obtain ⟨s, hss⟩ : ∃ s, zeroS k ov = s := ⟨_, rfl⟩
        rw [hss] at HR q7 q8
        have HSS := Lib.hid hss
        clear hss
        obtain ⟨ao', c', hv, hcs⟩ := HBS.out
        obtain ⟨rfl, rfl⟩ : ao' = ao ∧ c' = c := by simp at hv; exact ⟨hv.1.symm, hv.2.symm⟩
        obtain ⟨a, rfl, hx⟩ := hcs k hlt
        clear hcs hv
        have hwk : IntKind.i64.wrap ((k : Int) + 1) = (k : Int) + 1 := by rw [IntKind.wrap_i64]; omega
        have hwl : IntKind.i64.wrap ((hs.length : Int) - 1) = (hs.length : Int) - 1 := by rw [IntKind.wrap_i64]; omega
        have hck : ¬ c' = k := by omega
        have hc1 : (k : Int) + 1 ≤ (c' : Int) := by omega
        have hc2 : (0 : Int) ≤ (k : Int) + 1 := by omega
        have hc3 : ((k : Int) + 1).toNat = k + 1 := by omega
        have hh : ∀ w', Below w.heap.size w w' → w'.cell? (a.add k) = some (.bool hs[k]) := fun w' h => (h.cell (p := a.add k) (lt_cell hx)).trans hx
        have HX := Lib.hid hh
        obtain ⟨s2, hs2⟩ : ∃ s2, zeroS (k + 1) (ov || (hs[k] && (decide (0 < k) || !true))) = s2 := ⟨_, rfl⟩
        have HA : Hid (∀ w', Below w.heap.size w w' → Calls Tryd.prog 24 #[RV ⟨1, 1, 0⟩ ⟨4, 0, 0⟩ false, SV2 s, LV ((k : Int) + 1) ((k : Int) == (hs.length : Int) - 1) (.slice (some (a.add k)) 1 (c' - k))] w' fun e w2 => e = .returned (.tuple #[.bool (!ov), SV2 s2]) ∧ Below w'.heap.size w' w2) := Lib.hid (fun w' h => by
          have q := Ask_any ⟨1, 1, 0⟩ ⟨4, 0, 0⟩ false s ((k : Int) + 1) ((k : Int) == (hs.length : Int) - 1) (some (a.add k)) (c' - k) [hs[k]] w' hm1 (by omega) ⟨some (a.add k), c' - k, rfl, fun i hi => ⟨a.add k, rfl, by
            obtain rfl : i = 0 := by simpa using hi
            rw [Go.Deep.add_add]
            exact hh w' h⟩⟩
          have z := ask_zero true k ov hs[k] ((k : Int) == (hs.length : Int) - 1) HOV.out
          rw [hs2] at z
          unfold askN at q
          rw [HSS.out] at z
          have z2 : askL ⟨1, 1, 0⟩ ⟨4, 0, 0⟩ s ⟨(k : Int) + 1, ((k : Int) == (hs.length : Int) - 1), [hs[k]]⟩ = (!ov, s2) := z
          rw [z2] at q
          simpa using q)
        have HS2 := Lib.hid hs2
        clear hh hs2 hm1
        generalize hs[k] = hb at *
        go_wp2
        refine wp_region_noPanic ?_
        refine wp_region_held_drew (S := fun w' => Lp w w1.heap.size ⟨1, 1, 0⟩ ⟨4, 0, 0⟩ false s w') (by kernel_rfl) ?_ (fun hHeld => ?_)
        · (try dsimp only); exact Lp.below HR.out (Below.refl _ _).drew
        generalize wr.drew = wd at *
        refine wpAnyH_take (i := 0) (oi := ?o0_7) (v := ?v0_7) ?hi0_7 (by kernel_rfl) (by kernel_rfl) (by kernel_rfl) (fun _ _ _ h => h) ?hy0_7 (by assumption) ?r0_7
        case hi0_7 => simp only [List.getElem?_toArray, List.getElem?_cons_succ, List.getElem?_cons_zero]; rfl
        case hy0_7 => exact Or.inl ⟨by rfl, by (intro w hSw; (try dsimp only at hSw); obtain ⟨⟨q0, q1, q2, q3, q4, q5, q6⟩, ⟨q7, q8⟩, q9, qa⟩ := hSw.cells; go_simp) <;> with_reducible rfl⟩
        try simp only [Act.put, List.setIfInBounds_toArray, List.set_cons_zero, List.set_cons_succ]
        refine wpAnyH_take (i := 1) (oi := ?o1_7) (v := ?v1_7) ?hi1_7 (by kernel_rfl) (by kernel_rfl) (by kernel_rfl) (fun _ _ _ h => h) ?hy1_7 (by assumption) ?r1_7
        case hi1_7 => simp only [List.getElem?_toArray, List.getElem?_cons_succ, List.getElem?_cons_zero]; rfl
        case hy1_7 => exact Or.inl ⟨by rfl, by (intro w hSw; (try dsimp only at hSw); obtain ⟨⟨q0, q1, q2, q3, q4, q5, q6⟩, ⟨q7, q8⟩, q9, qa⟩ := hSw.cells; go_simp) <;> with_reducible rfl⟩
        try simp only [Act.put, List.setIfInBounds_toArray, List.set_cons_zero, List.set_cons_succ]
        refine wpAnyH_take (i := 2) (oi := ?o2_7) (v := ?v2_7) ?hi2_7 (by kernel_rfl) (by kernel_rfl) (by kernel_rfl) (fun _ _ _ h => h) ?hy2_7 (by assumption) ?r2_7
        case hi2_7 => simp only [List.getElem?_toArray, List.getElem?_cons_succ, List.getElem?_cons_zero]; rfl
        case hy2_7 => exact Or.inl ⟨by rfl, by (intro w hSw; (try dsimp only at hSw); obtain ⟨⟨q0, q1, q2, q3, q4, q5, q6⟩, ⟨q7, q8⟩, q9, qa⟩ := hSw.cells; go_simp) <;> with_reducible rfl⟩
        try simp only [Act.put, List.setIfInBounds_toArray, List.set_cons_zero, List.set_cons_succ]
        refine wpAnyH_take (i := 3) (oi := ?o3_7) (v := ?v3_7) ?hi3_7 (by kernel_rfl) (by kernel_rfl) (by kernel_rfl) (fun _ _ _ h => h) ?hy3_7 (by assumption) ?r3_7
        case hi3_7 => simp only [List.getElem?_toArray, List.getElem?_cons_succ, List.getElem?_cons_zero]; rfl
        case hy3_7 => exact Or.inl ⟨by rfl, by (intro w hSw; (try dsimp only at hSw); obtain ⟨⟨q0, q1, q2, q3, q4, q5, q6⟩, ⟨q7, q8⟩, q9, qa⟩ := hSw.cells; go_simp) <;> with_reducible rfl⟩
        try simp only [Act.put, List.setIfInBounds_toArray, List.set_cons_zero, List.set_cons_succ]
        refine wpAnyH_take (i := 4) (oi := ?o4_7) (v := ?v4_7) ?hi4_7 (by kernel_rfl) (by kernel_rfl) (by kernel_rfl) (fun _ _ _ h => h) ?hy4_7 (by assumption) ?r4_7
        case hi4_7 => simp only [List.getElem?_toArray, List.getElem?_cons_succ, List.getElem?_cons_zero]; rfl
        case hy4_7 => exact Or.inl ⟨by rfl, by (intro w hSw; (try dsimp only at hSw); obtain ⟨⟨q0, q1, q2, q3, q4, q5, q6⟩, ⟨q7, q8⟩, q9, qa⟩ := hSw.cells; go_simp) <;> with_reducible rfl⟩
        try simp only [Act.put, List.setIfInBounds_toArray, List.set_cons_zero, List.set_cons_succ]
        refine wpAnyH_take (i := 5) (oi := ?o5_7) (v := ?v5_7) ?hi5_7 (by kernel_rfl) (by kernel_rfl) (by kernel_rfl) (fun _ _ _ h => h) ?hy5_7 (by assumption) ?r5_7
        case hi5_7 => simp only [List.getElem?_toArray, List.getElem?_cons_succ, List.getElem?_cons_zero]; rfl
        case hy5_7 => exact Or.inl ⟨by rfl, by (intro w hSw; (try dsimp only at hSw); obtain ⟨⟨q0, q1, q2, q3, q4, q5, q6⟩, ⟨q7, q8⟩, q9, qa⟩ := hSw.cells; go_simp) <;> with_reducible rfl⟩
        try simp only [Act.put, List.setIfInBounds_toArray, List.set_cons_zero, List.set_cons_succ]
        refine wpAnyH_take (i := 6) (oi := ?o6_7) (v := ?v6_7) ?hi6_7 (by kernel_rfl) (by kernel_rfl) (by kernel_rfl) (fun _ _ _ h => h) ?hy6_7 (by assumption) ?r6_7
        case hi6_7 => simp only [List.getElem?_toArray, List.getElem?_cons_succ, List.getElem?_cons_zero]; rfl
        case hy6_7 => exact Or.inl ⟨by rfl, by (intro w hSw; (try dsimp only at hSw); obtain ⟨⟨q0, q1, q2, q3, q4, q5, q6⟩, ⟨q7, q8⟩, q9, qa⟩ := hSw.cells; go_simp) <;> with_reducible rfl⟩
        try simp only [Act.put, List.setIfInBounds_toArray, List.set_cons_zero, List.set_cons_succ]
        refine wpAnyH_take (i := 7) (oi := ?o7_7) (v := ?v7_7) ?hi7_7 (by kernel_rfl) (by kernel_rfl) (by kernel_rfl) (fun _ _ _ h => h) ?hy7_7 (by assumption) ?r7_7
        case hi7_7 => simp only [List.getElem?_toArray, List.getElem?_cons_succ, List.getElem?_cons_zero]; rfl
        case hy7_7 => exact Or.inl ⟨by rfl, by (intro w hSw; (try dsimp only at hSw); obtain ⟨⟨q0, q1, q2, q3, q4, q5, q6⟩, ⟨q7, q8⟩, q9, qa⟩ := hSw.cells; go_simp) <;> with_reducible rfl⟩
        try simp only [Act.put, List.setIfInBounds_toArray, List.set_cons_zero, List.set_cons_succ]
        refine wpAnyH_take (i := 8) (oi := ?o8_7) (v := ?v8_7) ?hi8_7 (by kernel_rfl) (by kernel_rfl) (by kernel_rfl) (fun _ _ _ h => h) ?hy8_7 (by assumption) ?r8_7
        case hi8_7 => simp only [List.getElem?_toArray, List.getElem?_cons_succ, List.getElem?_cons_zero]; rfl
        case hy8_7 => exact Or.inl ⟨by rfl, by (intro w hSw; (try dsimp only at hSw); obtain ⟨⟨q0, q1, q2, q3, q4, q5, q6⟩, ⟨q7, q8⟩, q9, qa⟩ := hSw.cells; go_simp) <;> with_reducible rfl⟩
        try simp only [Act.put, List.setIfInBounds_toArray, List.set_cons_zero, List.set_cons_succ]
        refine wpAnyH_take (i := 9) (oi := ?o9_7) (v := ?v9_7) ?hi9_7 (by kernel_rfl) (by kernel_rfl) (by kernel_rfl) (fun _ _ _ h => h) ?hy9_7 (by assumption) ?r9_7
        case hi9_7 => simp only [List.getElem?_toArray, List.getElem?_cons_succ, List.getElem?_cons_zero]; rfl
        case hy9_7 => exact Or.inl ⟨by rfl, by (intro w hSw; (try dsimp only at hSw); obtain ⟨⟨q0, q1, q2, q3, q4, q5, q6⟩, ⟨q7, q8⟩, q9, qa⟩ := hSw.cells; go_simp) <;> with_reducible rfl⟩
        try simp only [Act.put, List.setIfInBounds_toArray, List.set_cons_zero, List.set_cons_succ]
        refine wpAnyH_take (i := 10) (oi := ?o10_7) (v := ?v10_7) ?hi10_7 (by kernel_rfl) (by kernel_rfl) (by kernel_rfl) (fun _ _ _ h => h) ?hy10_7 (by assumption) ?r10_7
        case hi10_7 => simp only [List.getElem?_toArray, List.getElem?_cons_succ, List.getElem?_cons_zero]; rfl
        case hy10_7 => exact Or.inl ⟨by rfl, by (intro w hSw; (try dsimp only at hSw); obtain ⟨⟨q0, q1, q2, q3, q4, q5, q6⟩, ⟨q7, q8⟩, q9, qa⟩ := hSw.cells; go_simp) <;> with_reducible rfl⟩
        try simp only [Act.put, List.setIfInBounds_toArray, List.set_cons_zero, List.set_cons_succ]
        refine wpAnyH_take (i := 11) (oi := ?o11_7) (v := ?v11_7) ?hi11_7 (by kernel_rfl) (by kernel_rfl) (by kernel_rfl) (fun _ _ _ h => h) ?hy11_7 (by assumption) ?r11_7
        case hi11_7 => simp only [List.getElem?_toArray, List.getElem?_cons_succ, List.getElem?_cons_zero]; rfl
        case hy11_7 => exact Or.inl ⟨by rfl, by (intro w hSw; (try dsimp only at hSw); obtain ⟨⟨q0, q1, q2, q3, q4, q5, q6⟩, ⟨q7, q8⟩, q9, qa⟩ := hSw.cells; go_simp) <;> with_reducible rfl⟩
        try simp only [Act.put, List.setIfInBounds_toArray, List.set_cons_zero, List.set_cons_succ]
        refine wpAnyH_take (i := 12) (oi := ?o12_7) (v := ?v12_7) ?hi12_7 (by kernel_rfl) (by kernel_rfl) (by kernel_rfl) (fun _ _ _ h => h) ?hy12_7 (by assumption) ?r12_7
        case hi12_7 => simp only [List.getElem?_toArray, List.getElem?_cons_succ, List.getElem?_cons_zero]; rfl
        case hy12_7 => exact Or.inl ⟨by rfl, by (intro w hSw; (try dsimp only at hSw); obtain ⟨⟨q0, q1, q2, q3, q4, q5, q6⟩, ⟨q7, q8⟩, q9, qa⟩ := hSw.cells; go_simp) <;> with_reducible rfl⟩
        try simp only [Act.put, List.setIfInBounds_toArray, List.set_cons_zero, List.set_cons_succ]
        refine wpAnyH_take (i := 13) (oi := ?o13_7) (v := ?v13_7) ?hi13_7 (by kernel_rfl) (by kernel_rfl) (by kernel_rfl) (fun _ _ _ h => h) ?hy13_7 (by assumption) ?r13_7
        case hi13_7 => simp only [List.getElem?_toArray, List.getElem?_cons_succ, List.getElem?_cons_zero]; rfl
        case hy13_7 => exact Or.inl ⟨by rfl, by (intro w hSw; (try dsimp only at hSw); obtain ⟨⟨q0, q1, q2, q3, q4, q5, q6⟩, ⟨q7, q8⟩, q9, qa⟩ := hSw.cells; go_simp) <;> with_reducible rfl⟩
        try simp only [Act.put, List.setIfInBounds_toArray, List.set_cons_zero, List.set_cons_succ]
        refine wpAnyH_take (i := 14) (oi := ?o14_7) (v := ?v14_7) ?hi14_7 (by kernel_rfl) (by kernel_rfl) (by kernel_rfl) (fun _ _ _ h => h) ?hy14_7 (by assumption) ?r14_7
        case hi14_7 => simp only [List.getElem?_toArray, List.getElem?_cons_succ, List.getElem?_cons_zero]; rfl
        case hy14_7 => exact Or.inl ⟨by rfl, by (intro w hSw; (try dsimp only at hSw); obtain ⟨⟨q0, q1, q2, q3, q4, q5, q6⟩, ⟨q7, q8⟩, q9, qa⟩ := hSw.cells; go_simp) <;> with_reducible rfl⟩
        try simp only [Act.put, List.setIfInBounds_toArray, List.set_cons_zero, List.set_cons_succ]
        refine wpAnyH_ready (rs := [15, 19]) (by kernel_rfl) (by simp) ?_
        refine AllReadyH.cons (o := ?o15_8) ?hi15_8 (fun K hK => ?st15_8) (AllReadyH.cons (o := ?o19_8) ?hi19_8 (fun K hK => ?st19_8) AllReadyH.nil)
        case hi15_8 => simp only [List.getElem?_toArray, List.getElem?_cons_succ, List.getElem?_cons_zero]; rfl
        case hi19_8 => simp only [List.getElem?_toArray, List.getElem?_cons_succ, List.getElem?_cons_zero]; rfl
        case st15_8 =>
          go_simp
          (go_at_call 24; refine (HA.out _ hHeld.2.2.2).mono ?_; rintro e w' ⟨rfl, hbl⟩)
          have hPrev := hHeld
          refine hK.out _ _ ?_ (fun hHeld => ?_)
          · (try dsimp only); exact Lp.below hPrev hbl
          clear hK K
          try simp only [Act.put, List.setIfInBounds_toArray, List.set_cons_zero, List.set_cons_succ]
          clear hPrev hbl
          refine wpAnyH_take (i := 16) (oi := ?o16_15_8) (v := ?v16_15_8) ?hi16_15_8 (by kernel_rfl) (by kernel_rfl) (by kernel_rfl) (fun _ _ _ h => h) ?hy16_15_8 (by assumption) ?r16_15_8
          case hi16_15_8 => simp only [List.getElem?_toArray, List.getElem?_cons_succ, List.getElem?_cons_zero]; rfl
          case hy16_15_8 => exact Or.inl ⟨by rfl, by (intro w hSw; (try dsimp only at hSw); obtain ⟨⟨q0, q1, q2, q3, q4, q5, q6⟩, ⟨q7, q8⟩, q9, qa⟩ := hSw.cells; go_simp) <;> with_reducible rfl⟩
          try simp only [Act.put, List.setIfInBounds_toArray, List.set_cons_zero, List.set_cons_succ]
          refine wpAnyH_take (i := 17) (oi := ?o17_15_8) (v := ?v17_15_8) ?hi17_15_8 (by kernel_rfl) (by kernel_rfl) (by kernel_rfl) (fun _ _ _ h => h) ?hy17_15_8 (by assumption) ?r17_15_8
          case hi17_15_8 => simp only [List.getElem?_toArray, List.getElem?_cons_succ, List.getElem?_cons_zero]; rfl
          case hy17_15_8 => exact Or.inl ⟨by rfl, by (intro w hSw; (try dsimp only at hSw); obtain ⟨⟨q0, q1, q2, q3, q4, q5, q6⟩, ⟨q7, q8⟩, q9, qa⟩ := hSw.cells; go_simp) <;> with_reducible rfl⟩
          try simp only [Act.put, List.setIfInBounds_toArray, List.set_cons_zero, List.set_cons_succ]
          refine wpAnyH_take (i := 18) (oi := ?o18_15_8) (v := ?v18_15_8) ?hi18_15_8 (by kernel_rfl) (by kernel_rfl) (by kernel_rfl) (fun _ _ _ h => h) ?hy18_15_8 (by assumption) ?r18_15_8
          case hi18_15_8 => simp only [List.getElem?_toArray, List.getElem?_cons_succ, List.getElem?_cons_zero]; rfl
          case hy18_15_8 => exact Or.inl ⟨by rfl, by (intro w hSw; (try dsimp only at hSw); obtain ⟨⟨q0, q1, q2, q3, q4, q5, q6⟩, ⟨q7, q8⟩, q9, qa⟩ := hSw.cells; go_simp) <;> with_reducible rfl⟩
          try simp only [Act.put, List.setIfInBounds_toArray, List.set_cons_zero, List.set_cons_succ]
          refine wpAnyH_ready (rs := [19]) (by kernel_rfl) (by simp) ?_
          refine AllReadyH.cons (o := ?o19_9) ?hi19_9 (fun K hK => ?st19_9) AllReadyH.nil
          case hi19_9 => simp only [List.getElem?_toArray, List.getElem?_cons_succ, List.getElem?_cons_zero]; rfl
          case st19_9 =>
            go_simp
            have hPrev := hHeld
            refine hK.out _ _ ?_ (fun hHeld => ?_)
            · (try dsimp only); exact Lp.below hPrev ((Below.refl _ _).alloc (Nat.le_refl _) _)
            clear hK K
            try simp only [Act.put, List.setIfInBounds_toArray, List.set_cons_zero, List.set_cons_succ]
            have HZ := Lib.hid (zs_of hPrev hHeld)
            clear hPrev
            revert HZ hHeld
            generalize hW9 : World.alloc _ _ = v9
            intro hHeld HZ
            clear hW9
            refine wpAnyH_take (i := 20) (oi := ?o20_f10) (v := ?v20_f10) ?hi20_f10 (by kernel_rfl) (by kernel_rfl) (by kernel_rfl) (fun _ _ _ h => h) ?hy20_f10 (by assumption) ?r20_f10
            case hi20_f10 => simp only [List.getElem?_toArray, List.getElem?_cons_succ, List.getElem?_cons_zero]; rfl
            case hy20_f10 => exact Or.inl ⟨by rfl, by (intro w hSw; (try dsimp only at hSw); obtain ⟨⟨q0, q1, q2, q3, q4, q5, q6⟩, ⟨q7, q8⟩, q9, qa⟩ := hSw.cells; go_simp) <;> with_reducible rfl⟩
            try simp only [Act.put, List.setIfInBounds_toArray, List.set_cons_zero, List.set_cons_succ]
            have HS := Lib.hid hHeld
            obtain ⟨z0, z1⟩ := sc_cells HZ.out.1
            obtain ⟨z2, z3⟩ := sc_unfrozen HZ.out.1
            refine wpAnyH_ready (rs := [21]) (by kernel_rfl) (by simp) ?_
            refine AllReadyH.cons (o := ?oz10) ?hiz10 (fun K hK => ?stz10) AllReadyH.nil
            case hiz10 => simp only [List.getElem?_toArray, List.getElem?_cons_succ, List.getElem?_cons_zero]; rfl
            go_simp
            refine hK.out _ _ ?_ (fun hHeld => ?_)
            · (try dsimp only); exact Lp.put HS.out HZ.out.2 _ _
            clear hK K
            try simp only [Act.put, List.setIfInBounds_toArray, List.set_cons_zero, List.set_cons_succ]
            have HN := Lib.hid (sc_put HZ.out.1 (s2.op) (s2.to))
            have HL2 := Lib.hid hHeld
            clear hHeld HS z0 z1 z2 z3
            refine wpAnyH_done (by kernel_rfl) ?_ _
            refine NoPanic.normal ?_
            revert HN HL2
            generalize World.setCell (World.setCell _ _ _) _ _ = W9
            intro HN HL2
            obtain ⟨⟨q0, q1, q2, q3, q4, q5, q6⟩, ⟨q7, q8⟩, q9, qa⟩ := HL2.out.cells
            obtain ⟨k0, k1⟩ := sc_cells HN.out
            have hxx := HX.out _ (HL2.out.set s2).2.2.2
            clear HSH HBS HA HZ
            cases ov
            · cases hb
              · have HZ2 := Lib.hid (show zeroS (k + 1) false = s2 from by rw [← HS2.out]; simp)
                clear HS2
                go_wp2
                go_roundw
                case rel => exact ⟨k + 1, false, by omega, by go_num, rfl, by rw [HZ2.out]; exact Lib.hid (HL2.out.set s2), Lib.hid (fun h => absurd h (by omega))⟩
                case measure => simp [intOf]; omega
              · by_cases h0 : 0 < k
                · have h0' : (0 : Int) < (k : Int) := by omega
                  have HZ2 := Lib.hid (show zeroS (k + 1) true = s2 from by rw [← HS2.out]; simp [h0])
                  clear HS2
                  go_wp2
                  go_roundw
                  case rel => exact ⟨k + 1, true, by omega, by go_num, rfl, by rw [HZ2.out]; exact Lib.hid (HL2.out.set s2), Lib.hid (fun h => absurd h (by omega))⟩
                  case measure => simp [intOf]; omega
                · have h0' : ¬ (0 : Int) < (k : Int) := by omega
                  have HZ2 := Lib.hid (show zeroS (k + 1) false = s2 from by rw [← HS2.out]; simp [h0])
                  clear HS2
                  go_wp2
                  go_roundw
                  case rel => exact ⟨k + 1, false, by omega, by go_num, rfl, by rw [HZ2.out]; exact Lib.hid (HL2.out.set s2), Lib.hid (fun h => absurd h (by omega))⟩
                  case measure => simp [intOf]; omega
            · cases hb
              · have HZ2 := Lib.hid (show zeroS (k + 1) true = s2 from by rw [← HS2.out]; simp)
                clear HS2
                go_wp2
                go_roundw
                case rel => exact ⟨k + 1, true, by omega, by go_num, rfl, by rw [HZ2.out]; exact Lib.hid (HL2.out.set s2), Lib.hid (fun h => absurd h (by omega))⟩
                case measure => simp [intOf]; omega
              · by_cases h0 : 0 < k
                · have h0' : (0 : Int) < (k : Int) := by omega
                  have HZ2 := Lib.hid (show zeroS (k + 1) true = s2 from by rw [← HS2.out]; simp [h0])
                  clear HS2
                  go_wp2
                  go_roundw
                  case rel => exact ⟨k + 1, true, by omega, by go_num, rfl, by rw [HZ2.out]; exact Lib.hid (HL2.out.set s2), Lib.hid (fun h => absurd h (by omega))⟩
                  case measure => simp [intOf]; omega
                · have h0' : ¬ (0 : Int) < (k : Int) := by omega
                  have HZ2 := Lib.hid (show zeroS (k + 1) true = s2 from by rw [← HS2.out]; simp [h0])
                  clear HS2
                  go_wp2
                  go_roundw
                  case rel => exact ⟨k + 1, true, by omega, by go_num, rfl, by rw [HZ2.out]; exact Lib.hid (HL2.out.set s2), Lib.hid (fun h => absurd h (by omega))⟩
                  case measure => simp [intOf]; omega
        case st19_8 =>
          go_simp
          have hPrev := hHeld
          refine hK.out _ _ ?_ (fun hHeld => ?_)
          · (try dsimp only); exact Lp.below hPrev ((Below.refl _ _).alloc (Nat.le_refl _) _)
          clear hK K
          try simp only [Act.put, List.setIfInBounds_toArray, List.set_cons_zero, List.set_cons_succ]
          have HZ := Lib.hid (zs_of hPrev hHeld)
          clear hPrev
          revert HZ hHeld
          generalize hW8 : World.alloc _ _ = v8
          intro hHeld HZ
          clear hW8
          refine wpAnyH_ready (rs := [15]) (by kernel_rfl) (by simp) ?_
          refine AllReadyH.cons (o := ?o15_11) ?hi15_11 (fun K hK => ?st15_11) AllReadyH.nil
          case hi15_11 => simp only [List.getElem?_toArray, List.getElem?_cons_succ, List.getElem?_cons_zero]; rfl
          case st15_11 =>
            go_simp
            (go_at_call 24; refine (HA.out _ hHeld.2.2.2).mono ?_; rintro e w' ⟨rfl, hbl⟩)
            have hPrev := hHeld
            refine hK.out _ _ ?_ (fun hHeld => ?_)
            · (try dsimp only); exact Lp.below hPrev hbl
            clear hK K
            try simp only [Act.put, List.setIfInBounds_toArray, List.set_cons_zero, List.set_cons_succ]
            have HZ := Lib.hid (zs_below HZ.out hbl)
            clear hPrev hbl
            refine wpAnyH_take (i := 16) (oi := ?o16_15_11) (v := ?v16_15_11) ?hi16_15_11 (by kernel_rfl) (by kernel_rfl) (by kernel_rfl) (fun _ _ _ h => h) ?hy16_15_11 (by assumption) ?r16_15_11
            case hi16_15_11 => simp only [List.getElem?_toArray, List.getElem?_cons_succ, List.getElem?_cons_zero]; rfl
            case hy16_15_11 => exact Or.inl ⟨by rfl, by (intro w hSw; (try dsimp only at hSw); obtain ⟨⟨q0, q1, q2, q3, q4, q5, q6⟩, ⟨q7, q8⟩, q9, qa⟩ := hSw.cells; go_simp) <;> with_reducible rfl⟩
            try simp only [Act.put, List.setIfInBounds_toArray, List.set_cons_zero, List.set_cons_succ]
            refine wpAnyH_take (i := 17) (oi := ?o17_15_11) (v := ?v17_15_11) ?hi17_15_11 (by kernel_rfl) (by kernel_rfl) (by kernel_rfl) (fun _ _ _ h => h) ?hy17_15_11 (by assumption) ?r17_15_11
            case hi17_15_11 => simp only [List.getElem?_toArray, List.getElem?_cons_succ, List.getElem?_cons_zero]; rfl
            case hy17_15_11 => exact Or.inl ⟨by rfl, by (intro w hSw; (try dsimp only at hSw); obtain ⟨⟨q0, q1, q2, q3, q4, q5, q6⟩, ⟨q7, q8⟩, q9, qa⟩ := hSw.cells; go_simp) <;> with_reducible rfl⟩
            try simp only [Act.put, List.setIfInBounds_toArray, List.set_cons_zero, List.set_cons_succ]
            refine wpAnyH_take (i := 18) (oi := ?o18_15_11) (v := ?v18_15_11) ?hi18_15_11 (by kernel_rfl) (by kernel_rfl) (by kernel_rfl) (fun _ _ _ h => h) ?hy18_15_11 (by assumption) ?r18_15_11
            case hi18_15_11 => simp only [List.getElem?_toArray, List.getElem?_cons_succ, List.getElem?_cons_zero]; rfl
            case hy18_15_11 => exact Or.inl ⟨by rfl, by (intro w hSw; (try dsimp only at hSw); obtain ⟨⟨q0, q1, q2, q3, q4, q5, q6⟩, ⟨q7, q8⟩, q9, qa⟩ := hSw.cells; go_simp) <;> with_reducible rfl⟩
            try simp only [Act.put, List.setIfInBounds_toArray, List.set_cons_zero, List.set_cons_succ]
            refine wpAnyH_take (i := 20) (oi := ?o20_f12) (v := ?v20_f12) ?hi20_f12 (by kernel_rfl) (by kernel_rfl) (by kernel_rfl) (fun _ _ _ h => h) ?hy20_f12 (by assumption) ?r20_f12
            case hi20_f12 => simp only [List.getElem?_toArray, List.getElem?_cons_succ, List.getElem?_cons_zero]; rfl
            case hy20_f12 => exact Or.inl ⟨by rfl, by (intro w hSw; (try dsimp only at hSw); obtain ⟨⟨q0, q1, q2, q3, q4, q5, q6⟩, ⟨q7, q8⟩, q9, qa⟩ := hSw.cells; go_simp) <;> with_reducible rfl⟩
            try simp only [Act.put, List.setIfInBounds_toArray, List.set_cons_zero, List.set_cons_succ]
            have HS := Lib.hid hHeld
            obtain ⟨z0, z1⟩ := sc_cells HZ.out.1
            obtain ⟨z2, z3⟩ := sc_unfrozen HZ.out.1
            refine wpAnyH_ready (rs := [21]) (by kernel_rfl) (by simp) ?_
            refine AllReadyH.cons (o := ?oz12) ?hiz12 (fun K hK => ?stz12) AllReadyH.nil
            case hiz12 => simp only [List.getElem?_toArray, List.getElem?_cons_succ, List.getElem?_cons_zero]; rfl
            go_simp
            refine hK.out _ _ ?_ (fun hHeld => ?_)
            · (try dsimp only); exact Lp.put HS.out HZ.out.2 _ _
            clear hK K
            try simp only [Act.put, List.setIfInBounds_toArray, List.set_cons_zero, List.set_cons_succ]
            have HN := Lib.hid (sc_put HZ.out.1 (s2.op) (s2.to))
            have HL2 := Lib.hid hHeld
            clear hHeld HS z0 z1 z2 z3
            refine wpAnyH_done (by kernel_rfl) ?_ _
            refine NoPanic.normal ?_
            revert HN HL2
            generalize World.setCell (World.setCell _ _ _) _ _ = W9
            intro HN HL2
            obtain ⟨⟨q0, q1, q2, q3, q4, q5, q6⟩, ⟨q7, q8⟩, q9, qa⟩ := HL2.out.cells
            obtain ⟨k0, k1⟩ := sc_cells HN.out
            have hxx := HX.out _ (HL2.out.set s2).2.2.2
            clear HSH HBS HA HZ
            cases ov
            · cases hb
              · have HZ2 := Lib.hid (show zeroS (k + 1) false = s2 from by rw [← HS2.out]; simp)
                clear HS2
                go_wp2
                go_roundw
                case rel => exact ⟨k + 1, false, by omega, by go_num, rfl, by rw [HZ2.out]; exact Lib.hid (HL2.out.set s2), Lib.hid (fun h => absurd h (by omega))⟩
                case measure => simp [intOf]; omega
              · by_cases h0 : 0 < k
                · have h0' : (0 : Int) < (k : Int) := by omega
                  have HZ2 := Lib.hid (show zeroS (k + 1) true = s2 from by rw [← HS2.out]; simp [h0])
                  clear HS2
                  go_wp2
                  go_roundw
                  case rel => exact ⟨k + 1, true, by omega, by go_num, rfl, by rw [HZ2.out]; exact Lib.hid (HL2.out.set s2), Lib.hid (fun h => absurd h (by omega))⟩
                  case measure => simp [intOf]; omega
                · have h0' : ¬ (0 : Int) < (k : Int) := by omega
                  have HZ2 := Lib.hid (show zeroS (k + 1) false = s2 from by rw [← HS2.out]; simp [h0])
                  clear HS2
                  go_wp2
                  go_roundw
                  case rel => exact ⟨k + 1, false, by omega, by go_num, rfl, by rw [HZ2.out]; exact Lib.hid (HL2.out.set s2), Lib.hid (fun h => absurd h (by omega))⟩
                  case measure => simp [intOf]; omega
            · cases hb
              · have HZ2 := Lib.hid (show zeroS (k + 1) true = s2 from by rw [← HS2.out]; simp)
                clear HS2
                go_wp2
                go_roundw
                case rel => exact ⟨k + 1, true, by omega, by go_num, rfl, by rw [HZ2.out]; exact Lib.hid (HL2.out.set s2), Lib.hid (fun h => absurd h (by omega))⟩
                case measure => simp [intOf]; omega
              · by_cases h0 : 0 < k
                · have h0' : (0 : Int) < (k : Int) := by omega
                  have HZ2 := Lib.hid (show zeroS (k + 1) true = s2 from by rw [← HS2.out]; simp [h0])
                  clear HS2
                  go_wp2
                  go_roundw
                  case rel => exact ⟨k + 1, true, by omega, by go_num, rfl, by rw [HZ2.out]; exact Lib.hid (HL2.out.set s2), Lib.hid (fun h => absurd h (by omega))⟩
                  case measure => simp [intOf]; omega
                · have h0' : ¬ (0 : Int) < (k : Int) := by omega
                  have HZ2 := Lib.hid (show zeroS (k + 1) true = s2 from by rw [← HS2.out]; simp [h0])
                  clear HS2
                  go_wp2
                  go_roundw
                  case rel => exact ⟨k + 1, true, by omega, by go_num, rfl, by rw [HZ2.out]; exact Lib.hid (HL2.out.set s2), Lib.hid (fun h => absurd h (by omega))⟩
                  case measure => simp [intOf]; omega
      · have hlt' : ¬ ((k : Nat) : Int) < (hs.length : Int) := by omega
        go_wp2
        go_ret
        exact ⟨rfl, HR.out.2.2.2⟩
set_option maxRecDepth 100000 in
set_option maxHeartbeats 3200000 in
theorem zero_big (hs : List Bool) (ao : Option Addr) (c : Nat) (fr : Bool) (w : World) (hL : Lay w) (hl : 60 < hs.length) :
    Calls Tryd.prog 11 #[.slice ao hs.length c, .bool fr] w fun e w' => e = .returned (.bool true) ∧ Below w.heap.size w w' := by
  have hl' : (60 : Int) < (hs.length : Int) := by omega
  have HSH := Lib.hid (fun w1 (h : Below w.heap.size w w1) => shown_at w w1 hL h)
  go_enter Tryd.func11, Tryd.ntmps11
  go_wp2_with (go_at_call 12; refine (HSH.out _ (Below.refl _ _)).mono ?_; rintro e w1 ⟨rfl, hb⟩; have HB1 := Lib.hid hb; clear hb)
  go_ret
  exact ⟨rfl, HB1.out⟩
set_option maxRecDepth 100000 in
open Go.ChangeShapes Go.WideShapes Go.Deep in
theorem open_bs2 {H : Type} {enc : TypeId × Value → H} {w : World} {base : Nat} {held : Bool} {r : Reach} {b0 : Nat} {v : Value} {d : DataW H} {ps : List MemPlace} (hv : Value.okWide Tryd.prog w r b0 42 v) (hd : DataW.Trod enc Tryd.prog w base (fun _ => true) held 42 v d ps) :
    ∃ (ao : Option Addr) (c : Nat) (hs : List Bool), v = .slice ao hs.length c ∧ hs.length ≤ c ∧ Bs w (.slice ao hs.length c) hs := by
  obtain ⟨a0, l0, c0, rfl⟩ := okWide_slice Tryd.underlying42 hv
  obtain ⟨fuel, hf⟩ := hd
  rcases open_bools Tryd.underlying42 Tryd.underlying4 cellsBo hf with ⟨e, _⟩ | ⟨a, len, cap, B, e, _, hl, hm, _, hc⟩
  · obtain ⟨rfl, rfl, rfl⟩ : a0 = none ∧ l0 = 0 ∧ c0 = 0 := by simpa [Value.cells] using e
    exact ⟨none, 0, [], rfl, by simp, none, 0, rfl, fun i hi => absurd hi (by simp)⟩
  · obtain ⟨rfl, rfl, rfl⟩ : a0 = some a ∧ l0 = len ∧ c0 = cap := by simpa [Value.cells] using e
    refine ⟨some a, c0, (List.range l0).map B, by simp, by simpa using hl, some a, c0, by simp, fun i hi => ⟨a, rfl, ?_⟩⟩
    have hi' : i < l0 := by simpa using hi
    rw [hc i (by omega)]
    simp
theorem addrZero_walk (W : World) (hL : Lay W) (ao : Option Addr) (c : Nat) (hs : List Bool) (hcap : hs.length ≤ c) (hb : Bs W (.slice ao hs.length c) hs) (fr : Bool) :
    Calls Tryd.prog 11 #[.slice ao hs.length c, .bool fr] W fun e w' => e = .returned (.bool true) ∧ Below W.heap.size W w' := by
  by_cases hl : hs.length ≤ 60
  · exact zero_walk hs ao c fr W hL hl hcap hb
  · exact zero_big hs ao c fr W hL (by omega)
end Go.Proofs.YtcijhfdccbgcpaaDoor.Ad
