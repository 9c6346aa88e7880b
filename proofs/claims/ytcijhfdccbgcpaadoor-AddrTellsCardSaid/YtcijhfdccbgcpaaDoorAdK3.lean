/- The reference's ask whole, Ask; ranges handed over. -/
import Derived.Test.YtcijhfdccbgcpaaDoorAdK2
namespace Go.Proofs.YtcijhfdccbgcpaaDoor.Ad
open Go.RowKit Go.Shelf
set_option linter.unusedVariables false
set_option linter.unusedSimpArgs false
theorem rask_any (a b : A3) (nt : Bool) (s : S2) (N : Int) (last : Bool) (ao : Option Addr) (c : Nat) (hs : List Bool) (w : World) (hm : May a b) (hN : 0 ≤ N ∧ N ≤ 999999999) (hb : Bs w (.slice ao hs.length c) hs) :
    AskRP a b nt s N last (.slice ao hs.length c) hs w := by
  obtain ⟨ak, an, am⟩ := a
  obtain ⟨bk, bn, bm⟩ := b
  obtain ⟨op, to⟩ := s
  obtain ⟨h1, h2, h3, h4, h5, h6⟩ := hm
  have hone := h2
  have ha : ak = 3 → 0 ≤ an := fun q => by unfold One at h1; dsimp only at h1; omega
  have ham : ak = 1 → am = 0 := fun q => by unfold One at h1; dsimp only at h1; omega
  have hbk : bk = 0 ∨ bk = 1 ∨ bk = 2 ∨ bk = 4 ∨ 5 ≤ bk := by unfold One at h2; dsimp only at h2 h4; omega
  dsimp only at h4 h5 h6
  clear h1 h3
  by_cases k0 : bk = 0
  · subst k0; exact rask_p0 ak an am bn bm op nt to N last ao c hs w hN hb ha
  cases op with
  | true =>
    rcases hbk with h | h | h | h | h
    · exact absurd h k0
    · subst h
      by_cases q1 : to < N
      · exact rask_b1 ak an am bn bm nt to N last ao c hs w hN hb ha q1
      by_cases q2 : to = N
      · subst q2; exact rask_b2 ak an am bn bm nt to to last ao c hs w hN hb
      · exact rask_b3 ak an am bn bm nt to N last ao c hs w hN hb (by omega)
    · subst h
      cases last with
      | true => exact rask_b8 ak an am bn bm nt to N ao c hs w hN hb
      | false => exact rask_b9 ak an am bn bm nt to N ao c hs w hN hb
    · subst h
      cases hx : hits ⟨4, bn, bm⟩ ⟨N, last, hs⟩ with
      | true => exact rask_b6 ak an am bn bm nt to N last ao c hs w hN hb (by omega) hx
      | false => exact rask_b7 ak an am bn bm nt to N last ao c hs w hN hb (by omega) hx
    · by_cases q1 : to ≤ N
      · exact rask_b4 ak an am bk bn bm nt to N last ao c hs w hN hb h q1
      · exact rask_b5 ak an am bk bn bm nt to N last ao c hs w hN hb h (by omega)
  | false =>
    by_cases hak : ak = 1
    · obtain rfl := ham hak
      subst hak
      by_cases han : an = 0
      · subst han
        by_cases hN1 : N = 1
        · subst hN1
          obtain rfl : bk = 4 := h6 rfl rfl
          cases hx : hits ⟨4, bn, bm⟩ ⟨1, last, hs⟩ with
          | true => exact rask_d1 bn bm nt to last ao c hs w hb hx
          | false => exact rask_d2 bn bm nt to last ao c hs w hb hx
        · cases hx : hits ⟨1, 0, 0⟩ ⟨N, last, hs⟩ with
          | false => exact rask_c1g bk bn bm nt to N last ao c hs w hN hb hN1 hx k0
          | true => exact rask_c2g bk bn bm nt to N last ao c hs w hN hb hN1 hx k0 hone h4
      · cases hx : hits ⟨1, an, 0⟩ ⟨N, last, hs⟩ with
        | false => exact rask_c1h an 0 bk bn bm nt to N last ao c hs w hN hb han hx k0
        | true => exact rask_c2h an 0 bk bn bm nt to N last ao c hs w hN hb han hx k0 hone h4
    · cases hx : hits ⟨ak, an, am⟩ ⟨N, last, hs⟩ with
      | false => exact rask_c1f ak an am bk bn bm nt to N last ao c hs w hN hb ha hak hx k0
      | true => exact rask_c2f ak an am bk bn bm nt to N last ao c hs w hN hb ha hak hx k0 hone h4
theorem keepKR {w0 : World} {a b : A3} {nt : Bool} {s r : S2} {N : Int} {last : Bool} {v : Value} {w : World} (h : FrR w0 a b nt s r N last v w) {g : Nat} {o : Obj} (hg : w.heap[g]? = some o) (hne : w0.heap.size + 1 + 1 + 1 ≠ g) (x y : Value) :
    ((w.setCell ⟨w0.heap.size + 1 + 1 + 1, 0, none⟩ x).setCell ⟨w0.heap.size + 1 + 1 + 1, 1, none⟩ y).heap[g]? = some o := by
  rw [Below.heap_setCell _ _ _ _ (by simp; omega), Below.heap_setCell _ _ _ _ (by simp; omega), hg]
theorem FrR.ansA {w0 : World} {a b : A3} {nt : Bool} {s r : S2} {N : Int} {last : Bool} {v : Value} {w : World} (h : FrR w0 a b nt s r N last v w) (x : Bool) {tmps : Array Value}
    (hx : tmps.getD 6 undef = .bool x) (hp : tmps.getD 7 undef = .pointer (some ⟨w0.heap.size + 1 + 1 + 1, 0, none⟩)) : (results Tryd.f25 tmps).run Tryd.prog w = .ok (.tuple #[.bool x, SV2 r]) w :=
  ansT Tryd.underlying53 2 infoSR rfl hx hp h.2.2.2.1 rfl
set_option maxRecDepth 100000 in
set_option maxHeartbeats 1600000 in
theorem rAsk_any (a b : A3) (nt : Bool) (s : S2) (N : Int) (last : Bool) (ao : Option Addr) (c : Nat) (hs : List Bool) (w : World) (hm : May a b) (hN : 0 ≤ N ∧ N ≤ 999999999) (hb : Bs w (.slice ao hs.length c) hs) :
    Calls Tryd.prog 25 #[RV a b nt, SV2 s, LV N last (.slice ao hs.length c)] w fun e w' => e = .returned (.tuple #[.bool (askN a b nt s ⟨N, last, hs⟩).1, SV2 (askN a b nt s ⟨N, last, hs⟩).2]) ∧ Below w.heap.size w w' := by
  have HA : Hid (∀ w', Below w.heap.size w w' → Calls Tryd.prog 40 #[RV a b nt, SV2 s, LV N last (.slice ao hs.length c)] w' fun e w2 => e = .returned (.tuple #[.bool (askL a b s ⟨N, last, hs⟩).1, SV2 (askL a b s ⟨N, last, hs⟩).2]) ∧ Below w'.heap.size w' w2) := Lib.hid (fun w' h => rask_any a b nt s N last ao c hs w' hm hN (hb.below h))
  have HF := Lib.hid (fr0R w a b nt s N last (.slice ao hs.length c))
  unfold askN
  clear hb
  generalize Value.slice ao hs.length c = v at *
  generalize askL a b s ⟨N, last, hs⟩ = p at *
  obtain ⟨x, rop, rto⟩ := p
  dsimp only at HA ⊢
  go_enter Tryd.func25, Tryd.ntmps25
  go_wp2_with (go_at_call 40; refine (HA.out _ HF.out.2.2.2.2).mono ?_; rintro e w1 ⟨rfl, hb1⟩; have HF1 := Lib.hid (HF.out.below hb1); clear hb1)
  have HF2 := Lib.hid (HF1.out.below ((Below.refl w1.heap.size w1).alloc (Nat.le_refl _) (.cells #[.bool rop, E rto] 53)))
  have HK := Lib.hid (heap_alloc_new w1 (.cells #[.bool rop, E rto] 53))
  have hne : w.heap.size + 1 + 1 + 1 ≠ w1.heap.size := by have := lt_heap HF1.out.2.2.2.1; omega
  generalize w1.alloc (.cells #[.bool rop, E rto] 53) = w2 at *
  obtain ⟨⟨q0, q1, q2, q3, q4, q5, q6⟩, ⟨q7, q8⟩, ⟨q9, qa, qb⟩, qc, qd⟩ := HF2.out.cells; obtain ⟨u0, u1, u2, u3⟩ := HF2.out.unfrozen
  obtain ⟨k0, k1⟩ := sc_cells HK.out
  refine wp_region_noPanic ?_
  refine wp_region_held_drew (S := fun w' => (∃ r, FrR w a b nt s r N last v w') ∧ w'.heap[w1.heap.size]? = some (.cells #[.bool rop, E rto] 53 (0, 0))) (by kernel_rfl) ?_ (fun hHeld => ?_)
  · (try dsimp only); exact ⟨⟨_, HF2.out.below (Below.refl _ _).drew⟩, HK.out⟩
  refine wpAnyH_take (i := 0) (oi := ?o0) (v := ?v0) ?hi0 (by kernel_rfl) (by kernel_rfl) (by kernel_rfl) (fun _ _ _ h => h) ?hy0 (by assumption) ?r0
  case hi0 => simp only [List.getElem?_toArray, List.getElem?_cons_succ, List.getElem?_cons_zero]; rfl
  case hy0 => exact Or.inl ⟨by rfl, by (intro w hSw; (try dsimp only at hSw); obtain ⟨⟨r0, hSw⟩, hW⟩ := hSw; obtain ⟨⟨q0, q1, q2, q3, q4, q5, q6⟩, ⟨q7, q8⟩, ⟨q9, qa, qb⟩, qc, qd⟩ := hSw.cells; obtain ⟨u0, u1, u2, u3⟩ := hSw.unfrozen; obtain ⟨k0, k1⟩ := sc_cells hW; go_simp) <;> with_reducible rfl⟩
  try simp only [Act.put, List.setIfInBounds_toArray, List.set_cons_zero, List.set_cons_succ]
  refine wpAnyH_take (i := 1) (oi := ?o1) (v := ?v1) ?hi1 (by kernel_rfl) (by kernel_rfl) (by kernel_rfl) (fun _ _ _ h => h) ?hy1 (by assumption) ?r1
  case hi1 => simp only [List.getElem?_toArray, List.getElem?_cons_succ, List.getElem?_cons_zero]; rfl
  case hy1 => exact Or.inl ⟨by rfl, by (intro w hSw; (try dsimp only at hSw); obtain ⟨⟨r0, hSw⟩, hW⟩ := hSw; obtain ⟨⟨q0, q1, q2, q3, q4, q5, q6⟩, ⟨q7, q8⟩, ⟨q9, qa, qb⟩, qc, qd⟩ := hSw.cells; obtain ⟨u0, u1, u2, u3⟩ := hSw.unfrozen; obtain ⟨k0, k1⟩ := sc_cells hW; go_simp) <;> with_reducible rfl⟩
  try simp only [Act.put, List.setIfInBounds_toArray, List.set_cons_zero, List.set_cons_succ]
  refine wpAnyH_take (i := 2) (oi := ?o2) (v := ?v2) ?hi2 (by kernel_rfl) (by kernel_rfl) (by kernel_rfl) (fun _ _ _ h => h) ?hy2 (by assumption) ?r2
  case hi2 => simp only [List.getElem?_toArray, List.getElem?_cons_succ, List.getElem?_cons_zero]; rfl
  case hy2 => exact Or.inl ⟨by rfl, by (intro w hSw; (try dsimp only at hSw); obtain ⟨⟨r0, hSw⟩, hW⟩ := hSw; obtain ⟨⟨q0, q1, q2, q3, q4, q5, q6⟩, ⟨q7, q8⟩, ⟨q9, qa, qb⟩, qc, qd⟩ := hSw.cells; obtain ⟨u0, u1, u2, u3⟩ := hSw.unfrozen; obtain ⟨k0, k1⟩ := sc_cells hW; go_simp) <;> with_reducible rfl⟩
  try simp only [Act.put, List.setIfInBounds_toArray, List.set_cons_zero, List.set_cons_succ]
  refine wpAnyH_take (i := 3) (oi := ?o3) (v := ?v3) ?hi3 (by kernel_rfl) (by kernel_rfl) (by kernel_rfl) (fun _ _ _ h => h) ?hy3 (by assumption) ?r3
  case hi3 => simp only [List.getElem?_toArray, List.getElem?_cons_succ, List.getElem?_cons_zero]; rfl
  case hy3 => exact Or.inl ⟨by rfl, by (intro w hSw; (try dsimp only at hSw); obtain ⟨⟨r0, hSw⟩, hW⟩ := hSw; obtain ⟨⟨q0, q1, q2, q3, q4, q5, q6⟩, ⟨q7, q8⟩, ⟨q9, qa, qb⟩, qc, qd⟩ := hSw.cells; obtain ⟨u0, u1, u2, u3⟩ := hSw.unfrozen; obtain ⟨k0, k1⟩ := sc_cells hW; go_simp) <;> with_reducible rfl⟩
  try simp only [Act.put, List.setIfInBounds_toArray, List.set_cons_zero, List.set_cons_succ]
  refine wpAnyH_take (i := 4) (oi := ?o4) (v := ?v4) ?hi4 (by kernel_rfl) (by kernel_rfl) (by kernel_rfl) (fun _ _ _ h => h) ?hy4 (by assumption) ?r4
  case hi4 => simp only [List.getElem?_toArray, List.getElem?_cons_succ, List.getElem?_cons_zero]; rfl
  case hy4 => exact Or.inl ⟨by rfl, by (intro w hSw; (try dsimp only at hSw); obtain ⟨⟨r0, hSw⟩, hW⟩ := hSw; obtain ⟨⟨q0, q1, q2, q3, q4, q5, q6⟩, ⟨q7, q8⟩, ⟨q9, qa, qb⟩, qc, qd⟩ := hSw.cells; obtain ⟨u0, u1, u2, u3⟩ := hSw.unfrozen; obtain ⟨k0, k1⟩ := sc_cells hW; go_simp) <;> with_reducible rfl⟩
  try simp only [Act.put, List.setIfInBounds_toArray, List.set_cons_zero, List.set_cons_succ]
  refine wpAnyH_take (i := 5) (oi := ?o5) (v := ?v5) ?hi5 (by kernel_rfl) (by kernel_rfl) (by kernel_rfl) (fun _ _ _ h => h) ?hy5 (by assumption) ?r5
  case hi5 => simp only [List.getElem?_toArray, List.getElem?_cons_succ, List.getElem?_cons_zero]; rfl
  case hy5 => exact Or.inl ⟨by rfl, by (intro w hSw; (try dsimp only at hSw); obtain ⟨⟨r0, hSw⟩, hW⟩ := hSw; obtain ⟨⟨q0, q1, q2, q3, q4, q5, q6⟩, ⟨q7, q8⟩, ⟨q9, qa, qb⟩, qc, qd⟩ := hSw.cells; obtain ⟨u0, u1, u2, u3⟩ := hSw.unfrozen; obtain ⟨k0, k1⟩ := sc_cells hW; go_simp) <;> with_reducible rfl⟩
  try simp only [Act.put, List.setIfInBounds_toArray, List.set_cons_zero, List.set_cons_succ]
  refine wpAnyH_ready (rs := [6]) (by kernel_rfl) (by simp) ?_
  refine AllReadyH.cons (o := ?o6) ?hi6 (fun K hK => ?st6) AllReadyH.nil
  case hi6 => simp only [List.getElem?_toArray, List.getElem?_cons_succ, List.getElem?_cons_zero]; rfl
  (try dsimp only at hHeld); obtain ⟨⟨r0, hF⟩, hW⟩ := hHeld; obtain ⟨⟨q0, q1, q2, q3, q4, q5, q6⟩, ⟨q7, q8⟩, ⟨q9, qa, qb⟩, qc, qd⟩ := hF.cells; obtain ⟨u0, u1, u2, u3⟩ := hF.unfrozen; obtain ⟨k0, k1⟩ := sc_cells hW
  go_simp
  refine hK.out _ _ ?_ (fun hHeld => ?_)
  · (try dsimp only); (exact ⟨⟨_, hF.set ⟨rop, rto⟩⟩, keepKR hF hW hne _ _⟩)
  clear hK K
  try simp only [Act.put, List.setIfInBounds_toArray, List.set_cons_zero, List.set_cons_succ]
  refine wpAnyH_done (by kernel_rfl) ?_ _
  refine NoPanic.normal ?_
  clear hHeld
  go_wp2
  refine bodyPost_ret (v := .tuple #[.bool (x != nt), SV2 ⟨rop, rto⟩]) ?_ ?_ ?_
  · exact (hF.set ⟨rop, rto⟩).ansA _ rfl rfl
  · rfl
  · exact ⟨rfl, (hF.set ⟨rop, rto⟩).2.2.2.2⟩
/-- A range, and the answer behind it. -/
def RG (w0 : World) (a0 b0 : A3) (n0 : Bool) (a b : A3) (n : Bool) (w : World) : Prop := RCt 25 w w0.heap.size a0 b0 n0 ∧ RCt 33 w (w0.heap.size + 1) a b n ∧ Below w0.heap.size w0 w
theorem RG.below {w0 : World} {a0 b0 : A3} {n0 : Bool} {a b : A3} {n : Bool} {w w' : World} (h : RG w0 a0 b0 n0 a b n w) (hb : Below w.heap.size w w') : RG w0 a0 b0 n0 a b n w' := ⟨h.1.below hb, h.2.1.below hb, h.2.2.trans (hb.mono h.2.2.size)⟩
theorem rg0 (w : World) (a b : A3) (n : Bool) : RG w a b n ⟨0, 0, 0⟩ ⟨0, 0, 0⟩ false ((w.alloc (.cells #[E a.k, E a.n, E a.m, E b.k, E b.n, E b.m, .bool n] 25)).alloc (.cells #[E 0, E 0, E 0, E 0, E 0, E 0, .bool false] 33)) := by
  have e1 : (w.alloc (.cells #[E a.k, E a.n, E a.m, E b.k, E b.n, E b.m, .bool n] 25)).heap.size = w.heap.size + 1 := by simp
  have h1 := heap_alloc_new w (.cells #[E a.k, E a.n, E a.m, E b.k, E b.n, E b.m, .bool n] 25)
  have h2 := heap_alloc_new (w.alloc (.cells #[E a.k, E a.n, E a.m, E b.k, E b.n, E b.m, .bool n] 25)) (.cells #[E 0, E 0, E 0, E 0, E 0, E 0, .bool false] 33)
  rw [e1] at h2
  refine ⟨?_, h2, ((Below.refl w.heap.size w).alloc (Nat.le_refl _) _).alloc (by simp) _⟩
  show _ = _
  rw [heap_alloc_old _ _ (by rw [e1]; omega), h1]
theorem RG.s0 {w0 : World} {a0 b0 : A3} {n0 : Bool} {a b : A3} {n : Bool} {w : World} (h : RG w0 a0 b0 n0 a b n w) (x : Int) : RG w0 a0 b0 n0 ⟨x, a.n, a.m⟩ b n (w.setCell ⟨w0.heap.size + 1, 0, none⟩ (E x)) := by
  refine ⟨?_, Go.Joins.block_setCell h.2.1 (i := 0) (E x), h.2.2.setCell (by simp) _⟩
  show _ = _
  rw [Below.heap_setCell _ _ _ _ (by simp)]
  exact h.1
theorem RG.s1 {w0 : World} {a0 b0 : A3} {n0 : Bool} {a b : A3} {n : Bool} {w : World} (h : RG w0 a0 b0 n0 a b n w) (x : Int) : RG w0 a0 b0 n0 ⟨a.k, x, a.m⟩ b n (w.setCell ⟨w0.heap.size + 1, 1, none⟩ (E x)) := by
  refine ⟨?_, Go.Joins.block_setCell h.2.1 (i := 1) (E x), h.2.2.setCell (by simp) _⟩
  show _ = _
  rw [Below.heap_setCell _ _ _ _ (by simp)]
  exact h.1
theorem RG.s2 {w0 : World} {a0 b0 : A3} {n0 : Bool} {a b : A3} {n : Bool} {w : World} (h : RG w0 a0 b0 n0 a b n w) (x : Int) : RG w0 a0 b0 n0 ⟨a.k, a.n, x⟩ b n (w.setCell ⟨w0.heap.size + 1, 2, none⟩ (E x)) := by
  refine ⟨?_, Go.Joins.block_setCell h.2.1 (i := 2) (E x), h.2.2.setCell (by simp) _⟩
  show _ = _
  rw [Below.heap_setCell _ _ _ _ (by simp)]
  exact h.1
theorem RG.s3 {w0 : World} {a0 b0 : A3} {n0 : Bool} {a b : A3} {n : Bool} {w : World} (h : RG w0 a0 b0 n0 a b n w) (x : Int) : RG w0 a0 b0 n0 a ⟨x, b.n, b.m⟩ n (w.setCell ⟨w0.heap.size + 1, 3, none⟩ (E x)) := by
  refine ⟨?_, Go.Joins.block_setCell h.2.1 (i := 3) (E x), h.2.2.setCell (by simp) _⟩
  show _ = _
  rw [Below.heap_setCell _ _ _ _ (by simp)]
  exact h.1
theorem RG.s4 {w0 : World} {a0 b0 : A3} {n0 : Bool} {a b : A3} {n : Bool} {w : World} (h : RG w0 a0 b0 n0 a b n w) (x : Int) : RG w0 a0 b0 n0 a ⟨b.k, x, b.m⟩ n (w.setCell ⟨w0.heap.size + 1, 4, none⟩ (E x)) := by
  refine ⟨?_, Go.Joins.block_setCell h.2.1 (i := 4) (E x), h.2.2.setCell (by simp) _⟩
  show _ = _
  rw [Below.heap_setCell _ _ _ _ (by simp)]
  exact h.1
theorem RG.s5 {w0 : World} {a0 b0 : A3} {n0 : Bool} {a b : A3} {n : Bool} {w : World} (h : RG w0 a0 b0 n0 a b n w) (x : Int) : RG w0 a0 b0 n0 a ⟨b.k, b.n, x⟩ n (w.setCell ⟨w0.heap.size + 1, 5, none⟩ (E x)) := by
  refine ⟨?_, Go.Joins.block_setCell h.2.1 (i := 5) (E x), h.2.2.setCell (by simp) _⟩
  show _ = _
  rw [Below.heap_setCell _ _ _ _ (by simp)]
  exact h.1
theorem RG.s6 {w0 : World} {a0 b0 : A3} {n0 : Bool} {a b : A3} {n : Bool} {w : World} (h : RG w0 a0 b0 n0 a b n w) (x : Bool) : RG w0 a0 b0 n0 a b x (w.setCell ⟨w0.heap.size + 1, 6, none⟩ (.bool x)) := by
  refine ⟨?_, Go.Joins.block_setCell h.2.1 (i := 6) (.bool x), h.2.2.setCell (by simp) _⟩
  show _ = _
  rw [Below.heap_setCell _ _ _ _ (by simp)]
  exact h.1
theorem RG.set {w0 : World} {a0 b0 : A3} {n0 : Bool} {a' b' : A3} {n' : Bool} {w : World} (h : RG w0 a0 b0 n0 a' b' n' w) (a b : A3) (n : Bool) : RG w0 a0 b0 n0 a b n ((((((((w).setCell ⟨w0.heap.size + 1, 0, none⟩ (E a.k)).setCell ⟨w0.heap.size + 1, 1, none⟩ (E a.n)).setCell ⟨w0.heap.size + 1, 2, none⟩ (E a.m)).setCell ⟨w0.heap.size + 1, 3, none⟩ (E b.k)).setCell ⟨w0.heap.size + 1, 4, none⟩ (E b.n)).setCell ⟨w0.heap.size + 1, 5, none⟩ (E b.m)).setCell ⟨w0.heap.size + 1, 6, none⟩ (.bool n)) :=
  ((((((h.s0 a.k).s1 a.n).s2 a.m).s3 b.k).s4 b.n).s5 b.m).s6 n
theorem infoRR : (Tryd.prog.info? 33).map (·.size) = some 7 := by kernel_rfl
theorem RG.unfrozen {w0 : World} {a0 b0 : A3} {n0 : Bool} {a b : A3} {n : Bool} {w : World} (h : RG w0 a0 b0 n0 a b n w) : w.frozen? ⟨w0.heap.size + 1, 0, none⟩ = false ∧ w.frozen? ⟨w0.heap.size + 1, 1, none⟩ = false ∧ w.frozen? ⟨w0.heap.size + 1, 2, none⟩ = false ∧ w.frozen? ⟨w0.heap.size + 1, 3, none⟩ = false ∧ w.frozen? ⟨w0.heap.size + 1, 4, none⟩ = false ∧ w.frozen? ⟨w0.heap.size + 1, 5, none⟩ = false ∧ w.frozen? ⟨w0.heap.size + 1, 6, none⟩ = false := by
  have h1 : w.heap[w0.heap.size + 1]? = _ := h.2.1
  exact ⟨by simp [World.frozen?, h1], by simp [World.frozen?, h1], by simp [World.frozen?, h1], by simp [World.frozen?, h1], by simp [World.frozen?, h1], by simp [World.frozen?, h1], by simp [World.frozen?, h1]⟩
set_option maxRecDepth 100000 in
set_option maxHeartbeats 1600000 in
theorem rng_any (a b : A3) (n : Bool) (w : World) : Calls Tryd.prog 15 #[RV a b n] w fun e w' => e = .returned (RV a b n) ∧ Below w.heap.size w w' := by
  have HF := Lib.hid (rg0 w a b n)
  go_enter Tryd.func15, Tryd.ntmps15
  go_wp2
  refine wp_region_noPanic ?_
  refine wp_region_held_drew (S := fun w' => ∃ a1 b1 n1, RG w a b n a1 b1 n1 w') (by kernel_rfl) ?_ (fun hHeld => ?_)
  · (try dsimp only); exact ⟨_, _, _, HF.out.below (Below.refl _ _).drew⟩
  refine wpAnyH_take (i := 0) (oi := ?o0) (v := ?v0) ?hi0 (by kernel_rfl) (by kernel_rfl) (by kernel_rfl) (fun _ _ _ h => h) ?hy0 (by assumption) ?r0
  case hi0 => simp only [List.getElem?_toArray, List.getElem?_cons_succ, List.getElem?_cons_zero]; rfl
  case hy0 => exact Or.inl ⟨by rfl, by (intro w hSw; (try dsimp only at hSw); obtain ⟨a1, b1, n1, hSw⟩ := hSw; obtain ⟨q0, q1, q2, q3, q4, q5, q6⟩ := hSw.1.cells; go_simp) <;> with_reducible rfl⟩
  try simp only [Act.put, List.setIfInBounds_toArray, List.set_cons_zero, List.set_cons_succ]
  refine wpAnyH_take (i := 1) (oi := ?o1) (v := ?v1) ?hi1 (by kernel_rfl) (by kernel_rfl) (by kernel_rfl) (fun _ _ _ h => h) ?hy1 (by assumption) ?r1
  case hi1 => simp only [List.getElem?_toArray, List.getElem?_cons_succ, List.getElem?_cons_zero]; rfl
  case hy1 => exact Or.inl ⟨by rfl, by (intro w hSw; (try dsimp only at hSw); obtain ⟨a1, b1, n1, hSw⟩ := hSw; obtain ⟨q0, q1, q2, q3, q4, q5, q6⟩ := hSw.1.cells; go_simp) <;> with_reducible rfl⟩
  try simp only [Act.put, List.setIfInBounds_toArray, List.set_cons_zero, List.set_cons_succ]
  refine wpAnyH_take (i := 3) (oi := ?o3) (v := ?v3) ?hi3 (by kernel_rfl) (by kernel_rfl) (by kernel_rfl) (fun _ _ _ h => h) ?hy3 (by assumption) ?r3
  case hi3 => simp only [List.getElem?_toArray, List.getElem?_cons_succ, List.getElem?_cons_zero]; rfl
  case hy3 => exact Or.inl ⟨by rfl, by (intro w hSw; (try dsimp only at hSw); obtain ⟨a1, b1, n1, hSw⟩ := hSw; obtain ⟨q0, q1, q2, q3, q4, q5, q6⟩ := hSw.1.cells; go_simp) <;> with_reducible rfl⟩
  try simp only [Act.put, List.setIfInBounds_toArray, List.set_cons_zero, List.set_cons_succ]
  refine wpAnyH_take (i := 4) (oi := ?o4) (v := ?v4) ?hi4 (by kernel_rfl) (by kernel_rfl) (by kernel_rfl) (fun _ _ _ h => h) ?hy4 (by assumption) ?r4
  case hi4 => simp only [List.getElem?_toArray, List.getElem?_cons_succ, List.getElem?_cons_zero]; rfl
  case hy4 => exact Or.inl ⟨by rfl, by (intro w hSw; (try dsimp only at hSw); obtain ⟨a1, b1, n1, hSw⟩ := hSw; obtain ⟨q0, q1, q2, q3, q4, q5, q6⟩ := hSw.1.cells; go_simp) <;> with_reducible rfl⟩
  try simp only [Act.put, List.setIfInBounds_toArray, List.set_cons_zero, List.set_cons_succ]
  refine wpAnyH_take (i := 6) (oi := ?o6) (v := ?v6) ?hi6 (by kernel_rfl) (by kernel_rfl) (by kernel_rfl) (fun _ _ _ h => h) ?hy6 (by assumption) ?r6
  case hi6 => simp only [List.getElem?_toArray, List.getElem?_cons_succ, List.getElem?_cons_zero]; rfl
  case hy6 => exact Or.inl ⟨by rfl, by (intro w hSw; (try dsimp only at hSw); obtain ⟨a1, b1, n1, hSw⟩ := hSw; obtain ⟨q0, q1, q2, q3, q4, q5, q6⟩ := hSw.1.cells; go_simp) <;> with_reducible rfl⟩
  try simp only [Act.put, List.setIfInBounds_toArray, List.set_cons_zero, List.set_cons_succ]
  refine wpAnyH_take (i := 7) (oi := ?o7) (v := ?v7) ?hi7 (by kernel_rfl) (by kernel_rfl) (by kernel_rfl) (fun _ _ _ h => h) ?hy7 (by assumption) ?r7
  case hi7 => simp only [List.getElem?_toArray, List.getElem?_cons_succ, List.getElem?_cons_zero]; rfl
  case hy7 => exact Or.inl ⟨by rfl, by (intro w hSw; (try dsimp only at hSw); obtain ⟨a1, b1, n1, hSw⟩ := hSw; obtain ⟨q0, q1, q2, q3, q4, q5, q6⟩ := hSw.1.cells; go_simp) <;> with_reducible rfl⟩
  try simp only [Act.put, List.setIfInBounds_toArray, List.set_cons_zero, List.set_cons_succ]
  refine wpAnyH_ready (rs := [2]) (by kernel_rfl) (by simp) ?_
  refine AllReadyH.cons (o := ?o2) ?hi2 (fun K hK => ?st2) AllReadyH.nil
  case hi2 => simp only [List.getElem?_toArray, List.getElem?_cons_succ, List.getElem?_cons_zero]; rfl
  (try dsimp only at hHeld); obtain ⟨a1, b1, n1, hF⟩ := hHeld; obtain ⟨q0, q1, q2, q3, q4, q5, q6⟩ := hF.1.cells; obtain ⟨p0, p1, p2, p3, p4, p5, p6⟩ := hF.2.1.cells; obtain ⟨u0, u1, u2, u3, u4, u5, u6⟩ := hF.unfrozen
  go_simp
  (go_at_call 22; refine (its_any a _).mono ?_; rintro e w' ⟨rfl, hbl⟩)
  refine hK.out _ _ ?_ (fun hHeld => ?_)
  · (try dsimp only); (first | exact ⟨_, _, _, hF.below hbl⟩ | exact ⟨_, _, _, hF.set a b n⟩)
  clear hK K
  try simp only [Act.put, List.setIfInBounds_toArray, List.set_cons_zero, List.set_cons_succ]
  refine wpAnyH_ready (rs := [5]) (by kernel_rfl) (by simp) ?_
  refine AllReadyH.cons (o := ?o5) ?hi5 (fun K hK => ?st5) AllReadyH.nil
  case hi5 => simp only [List.getElem?_toArray, List.getElem?_cons_succ, List.getElem?_cons_zero]; rfl
  (try dsimp only at hHeld); obtain ⟨a1, b1, n1, hF⟩ := hHeld; obtain ⟨q0, q1, q2, q3, q4, q5, q6⟩ := hF.1.cells; obtain ⟨p0, p1, p2, p3, p4, p5, p6⟩ := hF.2.1.cells; obtain ⟨u0, u1, u2, u3, u4, u5, u6⟩ := hF.unfrozen
  go_simp
  (go_at_call 22; refine (its_any b _).mono ?_; rintro e w' ⟨rfl, hbl⟩)
  refine hK.out _ _ ?_ (fun hHeld => ?_)
  · (try dsimp only); (first | exact ⟨_, _, _, hF.below hbl⟩ | exact ⟨_, _, _, hF.set a b n⟩)
  clear hK K
  try simp only [Act.put, List.setIfInBounds_toArray, List.set_cons_zero, List.set_cons_succ]
  refine wpAnyH_take (i := 8) (oi := ?o8) (v := ?v8) ?hi8 (by kernel_rfl) (by kernel_rfl) (by kernel_rfl) (fun _ _ _ h => h) ?hy8 (by assumption) ?r8
  case hi8 => simp only [List.getElem?_toArray, List.getElem?_cons_succ, List.getElem?_cons_zero]; rfl
  case hy8 => exact Or.inl ⟨by rfl, by (intro w hSw; (try dsimp only at hSw); obtain ⟨a1, b1, n1, hSw⟩ := hSw; obtain ⟨q0, q1, q2, q3, q4, q5, q6⟩ := hSw.1.cells; go_simp) <;> with_reducible rfl⟩
  try simp only [Act.put, List.setIfInBounds_toArray, List.set_cons_zero, List.set_cons_succ]
  refine wpAnyH_ready (rs := [9]) (by kernel_rfl) (by simp) ?_
  refine AllReadyH.cons (o := ?o9) ?hi9 (fun K hK => ?st9) AllReadyH.nil
  case hi9 => simp only [List.getElem?_toArray, List.getElem?_cons_succ, List.getElem?_cons_zero]; rfl
  (try dsimp only at hHeld); obtain ⟨a1, b1, n1, hF⟩ := hHeld; obtain ⟨q0, q1, q2, q3, q4, q5, q6⟩ := hF.1.cells; obtain ⟨p0, p1, p2, p3, p4, p5, p6⟩ := hF.2.1.cells; obtain ⟨u0, u1, u2, u3, u4, u5, u6⟩ := hF.unfrozen
  go_simp
  refine hK.out _ _ ?_ (fun hHeld => ?_)
  · (try dsimp only); (first | exact ⟨_, _, _, hF.below hbl⟩ | exact ⟨_, _, _, hF.set a b n⟩)
  clear hK K
  try simp only [Act.put, List.setIfInBounds_toArray, List.set_cons_zero, List.set_cons_succ]
  refine wpAnyH_done (by kernel_rfl) ?_ _
  refine NoPanic.normal ?_
  clear hHeld
  go_wp2
  refine bodyPost_ret (v := RV a b n) ?_ ?_ ?_
  · exact ansA Tryd.underlying33 7 infoRR rfl rfl (hF.set a b n).2.1 rfl
  · rfl
  · exact ⟨rfl, (hF.set a b n).2.2⟩
end Go.Proofs.YtcijhfdccbgcpaaDoor.Ad
