/- Addresses: ask whole; Ask. -/
import Derived.Test.YtcijhfdccbgcpaaDoorAdW6
import Derived.Test.YtcijhfdccbgcpaaDoorAdW7
import Derived.Test.YtcijhfdccbgcpaaDoorAdW8
import Derived.Test.YtcijhfdccbgcpaaDoorAdW9
namespace Go.Proofs.YtcijhfdccbgcpaaDoor.Ad
open Go.RowKit Go.Shelf
set_option linter.unusedVariables false
set_option linter.unusedSimpArgs false
theorem ask_any (a b : A3) (nt : Bool) (s : S2) (N : Int) (last : Bool) (ao : Option Addr) (c : Nat) (hs : List Bool) (w : World) (hm : May a b) (hN : 0 ≤ N ∧ N ≤ 999999999) (hb : Bs w (.slice ao hs.length c) hs) :
    AskP a b nt s N last (.slice ao hs.length c) hs w := by
  obtain ⟨ak, an, am⟩ := a
  obtain ⟨bk, bn, bm⟩ := b
  obtain ⟨op, to⟩ := s
  obtain ⟨h1, h2, h3, h4, h5, h6⟩ := hm
  have hone := h2
  have ha : ak = 3 → 0 ≤ an := fun q => by unfold One at h1; dsimp only at h1; omega
  have ham : ak = 1 → am = 0 := fun q => by unfold One at h1; dsimp only at h1; omega
  have hbk : bk = 0 ∨ bk = 1 ∨ (bk = 2 ∨ bk = 4) ∨ 5 ≤ bk := by unfold One at h2; dsimp only at h2 h4; omega
  dsimp only at h5 h6
  clear h1 h3
  by_cases k0 : bk = 0
  · subst k0; exact ask_p0 ak an am bn bm op nt to N last ao c hs w hN hb ha
  cases op with
  | true =>
    rcases hbk with h | h | h | h
    · exact absurd h k0
    · subst h
      by_cases q1 : to < N
      · exact ask_b1 ak an am bn bm nt to N last ao c hs w hN hb ha q1
      by_cases q2 : to = N
      · subst q2; exact ask_b2 ak an am bn bm nt to to last ao c hs w hN hb
      · exact ask_b3 ak an am bn bm nt to N last ao c hs w hN hb (by omega)
    · cases hx : hits ⟨bk, bn, bm⟩ ⟨N, last, hs⟩ with
      | true => exact ask_b6 ak an am bk bn bm nt to N last ao c hs w hN hb h (by omega) hx
      | false => exact ask_b7 ak an am bk bn bm nt to N last ao c hs w hN hb h (by omega) hx
    · by_cases q1 : to ≤ N
      · exact ask_b4 ak an am bk bn bm nt to N last ao c hs w hN hb h q1
      · exact ask_b5 ak an am bk bn bm nt to N last ao c hs w hN hb h (by omega)
  | false =>
    by_cases hak : ak = 1
    · obtain rfl := ham hak
      subst hak
      by_cases han : an = 0
      · subst han
        by_cases hN1 : N = 1
        · subst hN1
          obtain rfl : bk = 4 := h6 rfl rfl
          cases hx : hits ⟨4, bn, bm⟩ ⟨1, last, hs⟩ with
          | true => exact ask_d1 bn bm nt to last ao c hs w hb hx
          | false => exact ask_d2 bn bm nt to last ao c hs w hb hx
        · cases hx : hits ⟨1, 0, 0⟩ ⟨N, last, hs⟩ with
          | false =>
            rcases hbk with h | h | h | h
            · exact absurd h k0
            · subst h; exact ask_c1k1g bn bm nt to N last ao c hs w hN hb hN1 hx
            · exact ask_c1k2g bk bn bm nt to N last ao c hs w hN hb hN1 hx h
            · exact ask_c1k5g bk bn bm nt to N last ao c hs w hN hb hN1 hx h
          | true =>
            rcases hbk with h | h | h | h
            · exact absurd h k0
            · subst h
              by_cases hz : N < toL ⟨1, bn, bm⟩ N
              · exact ask_c2k1g bn bm nt to N last ao c hs w hN hb hN1 hx hone hz
              · exact ask_c3k1g bn bm nt to N last ao c hs w hN hb hN1 hx hone hz
            · rcases h with h | h
              · subst h
                cases last with
                | false => exact ask_c5g bn bm nt to N ao c hs w hN hb hN1 hx
                | true => exact ask_c6g bn bm nt to N ao c hs w hN hb hN1 hx
              · subst h; exact ask_c4g bn bm nt to N last ao c hs w hN hb hN1 hx
            · by_cases hz : N < toL ⟨bk, bn, bm⟩ N
              · exact ask_c2k5g bk bn bm nt to N last ao c hs w hN hb hN1 hx hone h hz
              · exact ask_c3k5g bk bn bm nt to N last ao c hs w hN hb hN1 hx hone h hz
      · cases hx : hits ⟨1, an, 0⟩ ⟨N, last, hs⟩ with
        | false =>
          rcases hbk with h | h | h | h
          · exact absurd h k0
          · subst h; exact ask_c1k1h an 0 bn bm nt to N last ao c hs w hN hb han hx
          · exact ask_c1k2h an 0 bk bn bm nt to N last ao c hs w hN hb han hx h
          · exact ask_c1k5h an 0 bk bn bm nt to N last ao c hs w hN hb han hx h
        | true =>
          rcases hbk with h | h | h | h
          · exact absurd h k0
          · subst h
            by_cases hz : N < toL ⟨1, bn, bm⟩ N
            · exact ask_c2k1h an 0 bn bm nt to N last ao c hs w hN hb han hx hone hz
            · exact ask_c3k1h an 0 bn bm nt to N last ao c hs w hN hb han hx hone hz
          · rcases h with h | h
            · subst h
              cases last with
              | false => exact ask_c5h an 0 bn bm nt to N ao c hs w hN hb han hx
              | true => exact ask_c6h an 0 bn bm nt to N ao c hs w hN hb han hx
            · subst h; exact ask_c4h an 0 bn bm nt to N last ao c hs w hN hb han hx
          · by_cases hz : N < toL ⟨bk, bn, bm⟩ N
            · exact ask_c2k5h an 0 bk bn bm nt to N last ao c hs w hN hb han hx hone h hz
            · exact ask_c3k5h an 0 bk bn bm nt to N last ao c hs w hN hb han hx hone h hz
    · cases hx : hits ⟨ak, an, am⟩ ⟨N, last, hs⟩ with
      | false =>
        rcases hbk with h | h | h | h
        · exact absurd h k0
        · subst h; exact ask_c1k1f ak an am bn bm nt to N last ao c hs w hN hb ha hak hx
        · exact ask_c1k2f ak an am bk bn bm nt to N last ao c hs w hN hb ha hak hx h
        · exact ask_c1k5f ak an am bk bn bm nt to N last ao c hs w hN hb ha hak hx h
      | true =>
        rcases hbk with h | h | h | h
        · exact absurd h k0
        · subst h
          by_cases hz : N < toL ⟨1, bn, bm⟩ N
          · exact ask_c2k1f ak an am bn bm nt to N last ao c hs w hN hb ha hak hx hone hz
          · exact ask_c3k1f ak an am bn bm nt to N last ao c hs w hN hb ha hak hx hone hz
        · rcases h with h | h
          · subst h
            cases last with
            | false => exact ask_c5f ak an am bn bm nt to N ao c hs w hN hb ha hak hx
            | true => exact ask_c6f ak an am bn bm nt to N ao c hs w hN hb ha hak hx
          · subst h; exact ask_c4f ak an am bn bm nt to N last ao c hs w hN hb ha hak hx
        · by_cases hz : N < toL ⟨bk, bn, bm⟩ N
          · exact ask_c2k5f ak an am bk bn bm nt to N last ao c hs w hN hb ha hak hx hone h hz
          · exact ask_c3k5f ak an am bk bn bm nt to N last ao c hs w hN hb ha hak hx hone h hz
theorem sc_cells {w : World} {g : Nat} {x : Bool} {y : Int} {t : TypeId} (h : w.heap[g]? = some (.cells #[.bool x, E y] t (0, 0))) : w.cell? ⟨g, 0, none⟩ = some (.bool x) ∧ w.cell? ⟨g, 1, none⟩ = some (E y) :=
  ⟨(Lib.cell_of_heap h 0).trans rfl, (Lib.cell_of_heap h 1).trans rfl⟩
theorem Fr.ansA {w0 : World} {a b : A3} {nt : Bool} {s r : S2} {N : Int} {last : Bool} {v : Value} {w : World} (h : Fr w0 a b nt s r N last v w) (x : Bool) {tmps : Array Value}
    (hx : tmps.getD 6 undef = .bool x) (hp : tmps.getD 7 undef = .pointer (some ⟨w0.heap.size + 1 + 1 + 1, 0, none⟩)) : (results Tryd.f24 tmps).run Tryd.prog w = .ok (.tuple #[.bool x, SV2 r]) w :=
  ansT Tryd.underlying52 2 infoS rfl hx hp h.2.2.2.1 rfl
theorem keepK {w0 : World} {a b : A3} {nt : Bool} {s r : S2} {N : Int} {last : Bool} {v : Value} {w : World} (h : Fr w0 a b nt s r N last v w) {g : Nat} {o : Obj} (hg : w.heap[g]? = some o) (hne : w0.heap.size + 1 + 1 + 1 ≠ g) (x y : Value) :
    ((w.setCell ⟨w0.heap.size + 1 + 1 + 1, 0, none⟩ x).setCell ⟨w0.heap.size + 1 + 1 + 1, 1, none⟩ y).heap[g]? = some o := by
  rw [Below.heap_setCell _ _ _ _ (by simp; omega), Below.heap_setCell _ _ _ _ (by simp; omega), hg]
set_option maxRecDepth 100000 in
set_option maxHeartbeats 1600000 in
theorem Ask_any (a b : A3) (nt : Bool) (s : S2) (N : Int) (last : Bool) (ao : Option Addr) (c : Nat) (hs : List Bool) (w : World) (hm : May a b) (hN : 0 ≤ N ∧ N ≤ 999999999) (hb : Bs w (.slice ao hs.length c) hs) :
    Calls Tryd.prog 24 #[RV a b nt, SV2 s, LV N last (.slice ao hs.length c)] w fun e w' => e = .returned (.tuple #[.bool (askN a b nt s ⟨N, last, hs⟩).1, SV2 (askN a b nt s ⟨N, last, hs⟩).2]) ∧ Below w.heap.size w w' := by
  have HA : Hid (∀ w', Below w.heap.size w w' → Calls Tryd.prog 39 #[RV a b nt, SV2 s, LV N last (.slice ao hs.length c)] w' fun e w2 => e = .returned (.tuple #[.bool (askL a b s ⟨N, last, hs⟩).1, SV2 (askL a b s ⟨N, last, hs⟩).2]) ∧ Below w'.heap.size w' w2) := Lib.hid (fun w' h => ask_any a b nt s N last ao c hs w' hm hN (hb.below h))
  have HF := Lib.hid (fr0 w a b nt s N last (.slice ao hs.length c))
  unfold askN
  clear hb
  generalize Value.slice ao hs.length c = v at *
  generalize askL a b s ⟨N, last, hs⟩ = p at *
  obtain ⟨x, rop, rto⟩ := p
  dsimp only at HA ⊢
  go_enter Tryd.func24, Tryd.ntmps24
  go_wp2_with (go_at_call 39; refine (HA.out _ HF.out.2.2.2.2).mono ?_; rintro e w1 ⟨rfl, hb1⟩; have HF1 := Lib.hid (HF.out.below hb1); clear hb1)
  have HF2 := Lib.hid (HF1.out.below ((Below.refl w1.heap.size w1).alloc (Nat.le_refl _) (.cells #[.bool rop, E rto] 52)))
  have HK := Lib.hid (heap_alloc_new w1 (.cells #[.bool rop, E rto] 52))
  have hne : w.heap.size + 1 + 1 + 1 ≠ w1.heap.size := by have := lt_heap HF1.out.2.2.2.1; omega
  generalize w1.alloc (.cells #[.bool rop, E rto] 52) = w2 at *
  obtain ⟨⟨q0, q1, q2, q3, q4, q5, q6⟩, ⟨q7, q8⟩, ⟨q9, qa, qb⟩, qc, qd⟩ := HF2.out.cells; obtain ⟨u0, u1, u2, u3⟩ := HF2.out.unfrozen
  obtain ⟨k0, k1⟩ := sc_cells HK.out
  refine wp_region_noPanic ?_
  refine wp_region_held_drew (S := fun w' => (∃ r, Fr w a b nt s r N last v w') ∧ w'.heap[w1.heap.size]? = some (.cells #[.bool rop, E rto] 52 (0, 0))) (by kernel_rfl) ?_ (fun hHeld => ?_)
  · (try dsimp only); exact ⟨⟨_, HF2.out.below (Below.refl _ _).drew⟩, HK.out⟩
  refine wpAnyH_take (i := 0) (oi := ?o0) (v := ?v0) ?hi0 (by kernel_rfl) (by kernel_rfl) (by kernel_rfl) (fun _ _ _ h => h) ?hy0 (by assumption) ?r0
  case hi0 => simp only [List.getElem?_toArray, List.getElem?_cons_succ, List.getElem?_cons_zero]; rfl
  case hy0 => exact Or.inl ⟨by rfl, by (intro w hSw; (try dsimp only at hSw); obtain ⟨⟨r0, hSw⟩, hW⟩ := hSw; obtain ⟨⟨q0, q1, q2, q3, q4, q5, q6⟩, ⟨q7, q8⟩, ⟨q9, qa, qb⟩, qc, qd⟩ := hSw.cells; obtain ⟨u0, u1, u2, u3⟩ := hSw.unfrozen; obtain ⟨k0, k1⟩ := sc_cells hW; go_simp) <;> with_reducible rfl⟩
  try simp only [Act.put, List.setIfInBounds_toArray, List.set_cons_zero, List.set_cons_succ]
  refine wpAnyH_take (i := 1) (oi := ?o1) (v := ?v1) ?hi1 (by kernel_rfl) (by kernel_rfl) (by kernel_rfl) (fun _ _ _ h => h) ?hy1 (by assumption) ?r1
  case hi1 => simp only [List.getElem?_toArray, List.getElem?_cons_succ, List.getElem?_cons_zero]; rfl
  case hy1 => exact Or.inl ⟨by rfl, by (intro w hSw; (try dsimp only at hSw); obtain ⟨⟨r0, hSw⟩, hW⟩ := hSw; obtain ⟨⟨q0, q1, q2, q3, q4, q5, q6⟩, ⟨q7, q8⟩, ⟨q9, qa, qb⟩, qc, qd⟩ := hSw.cells; obtain ⟨u0, u1, u2, u3⟩ := hSw.unfrozen; obtain ⟨k0, k1⟩ := sc_cells hW; go_simp) <;> with_reducible rfl⟩
  try simp only [Act.put, List.setIfInBounds_toArray, List.set_cons_zero, List.set_cons_succ]
  refine wpAnyH_take (i := 2) (oi := ?o2) (v := ?v2) ?hi2 (by kernel_rfl) (by kernel_rfl) (by kernel_rfl) (fun _ _ _ h => h) ?hy2 (by assumption) ?r2
  case hi2 => simp only [List.getElem?_toArray, List.getElem?_cons_succ, List.getElem?_cons_zero]; rfl
  case hy2 => exact Or.inl ⟨by rfl, by (intro w hSw; (try dsimp only at hSw); obtain ⟨⟨r0, hSw⟩, hW⟩ := hSw; obtain ⟨⟨q0, q1, q2, q3, q4, q5, q6⟩, ⟨q7, q8⟩, ⟨q9, qa, qb⟩, qc, qd⟩ := hSw.cells; obtain ⟨u0, u1, u2, u3⟩ := hSw.unfrozen; obtain ⟨k0, k1⟩ := sc_cells hW; go_simp) <;> with_reducible rfl⟩
  try simp only [Act.put, List.setIfInBounds_toArray, List.set_cons_zero, List.set_cons_succ]
  refine wpAnyH_take (i := 3) (oi := ?o3) (v := ?v3) ?hi3 (by kernel_rfl) (by kernel_rfl) (by kernel_rfl) (fun _ _ _ h => h) ?hy3 (by assumption) ?r3
  case hi3 => simp only [List.getElem?_toArray, List.getElem?_cons_succ, List.getElem?_cons_zero]; rfl
  case hy3 => exact Or.inl ⟨by rfl, by (intro w hSw; (try dsimp only at hSw); obtain ⟨⟨r0, hSw⟩, hW⟩ := hSw; obtain ⟨⟨q0, q1, q2, q3, q4, q5, q6⟩, ⟨q7, q8⟩, ⟨q9, qa, qb⟩, qc, qd⟩ := hSw.cells; obtain ⟨u0, u1, u2, u3⟩ := hSw.unfrozen; obtain ⟨k0, k1⟩ := sc_cells hW; go_simp) <;> with_reducible rfl⟩
  try simp only [Act.put, List.setIfInBounds_toArray, List.set_cons_zero, List.set_cons_succ]
  refine wpAnyH_take (i := 4) (oi := ?o4) (v := ?v4) ?hi4 (by kernel_rfl) (by kernel_rfl) (by kernel_rfl) (fun _ _ _ h => h) ?hy4 (by assumption) ?r4
  case hi4 => simp only [List.getElem?_toArray, List.getElem?_cons_succ, List.getElem?_cons_zero]; rfl
  case hy4 => exact Or.inl ⟨by rfl, by (intro w hSw; (try dsimp only at hSw); obtain ⟨⟨r0, hSw⟩, hW⟩ := hSw; obtain ⟨⟨q0, q1, q2, q3, q4, q5, q6⟩, ⟨q7, q8⟩, ⟨q9, qa, qb⟩, qc, qd⟩ := hSw.cells; obtain ⟨u0, u1, u2, u3⟩ := hSw.unfrozen; obtain ⟨k0, k1⟩ := sc_cells hW; go_simp) <;> with_reducible rfl⟩
  try simp only [Act.put, List.setIfInBounds_toArray, List.set_cons_zero, List.set_cons_succ]
  refine wpAnyH_take (i := 5) (oi := ?o5) (v := ?v5) ?hi5 (by kernel_rfl) (by kernel_rfl) (by kernel_rfl) (fun _ _ _ h => h) ?hy5 (by assumption) ?r5
  case hi5 => simp only [List.getElem?_toArray, List.getElem?_cons_succ, List.getElem?_cons_zero]; rfl
  case hy5 => exact Or.inl ⟨by rfl, by (intro w hSw; (try dsimp only at hSw); obtain ⟨⟨r0, hSw⟩, hW⟩ := hSw; obtain ⟨⟨q0, q1, q2, q3, q4, q5, q6⟩, ⟨q7, q8⟩, ⟨q9, qa, qb⟩, qc, qd⟩ := hSw.cells; obtain ⟨u0, u1, u2, u3⟩ := hSw.unfrozen; obtain ⟨k0, k1⟩ := sc_cells hW; go_simp) <;> with_reducible rfl⟩
  try simp only [Act.put, List.setIfInBounds_toArray, List.set_cons_zero, List.set_cons_succ]
  refine wpAnyH_ready (rs := [6]) (by kernel_rfl) (by simp) ?_
  refine AllReadyH.cons (o := ?o6) ?hi6 (fun K hK => ?st6) AllReadyH.nil
  case hi6 => simp only [List.getElem?_toArray, List.getElem?_cons_succ, List.getElem?_cons_zero]; rfl
  (try dsimp only at hHeld); obtain ⟨⟨r0, hF⟩, hW⟩ := hHeld; obtain ⟨⟨q0, q1, q2, q3, q4, q5, q6⟩, ⟨q7, q8⟩, ⟨q9, qa, qb⟩, qc, qd⟩ := hF.cells; obtain ⟨u0, u1, u2, u3⟩ := hF.unfrozen; obtain ⟨k0, k1⟩ := sc_cells hW
  go_simp
  refine hK.out _ _ ?_ (fun hHeld => ?_)
  · (try dsimp only); (exact ⟨⟨_, hF.set ⟨rop, rto⟩⟩, keepK hF hW hne _ _⟩)
  clear hK K
  try simp only [Act.put, List.setIfInBounds_toArray, List.set_cons_zero, List.set_cons_succ]
  refine wpAnyH_done (by kernel_rfl) ?_ _
  refine NoPanic.normal ?_
  clear hHeld
  go_wp2
  refine bodyPost_ret (v := .tuple #[.bool (x != nt), SV2 ⟨rop, rto⟩]) ?_ ?_ ?_
  · exact (hF.set ⟨rop, rto⟩).ansA _ rfl rfl
  · rfl
  · exact ⟨rfl, (hF.set ⟨rop, rto⟩).2.2.2.2⟩
end Go.Proofs.YtcijhfdccbgcpaaDoor.Ad
