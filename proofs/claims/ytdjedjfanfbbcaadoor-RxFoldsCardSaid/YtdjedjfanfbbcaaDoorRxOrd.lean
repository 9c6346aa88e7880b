/- Patterns: whether nodes stand in order: the walk. -/
import Derived.Test.YtdjedjfanfbbcaaDoorRxW3
import Derived.Laws.OwnMore
import Derived.OwnWalk
import Derived.Lib.SmallJoins
namespace Go.Proofs.YtdjedjfanfbbcaaDoor.Rx
open Go.RowKit Go.Shelf
open Go.Proofs.YtdjedjfanfbbcaaDoor.St (Wf word zeroW ext_word wf_zero)
set_option linter.unusedVariables false
set_option linter.unusedSimpArgs false
theorem infoInt : (Tryd.prog.info? 3).map (fun i => (i.zero, i.size, i.bytes)) = some (some (.int .i64 0), 1, 8) := by kernel_rfl
/-- A stack of places. -/
abbrev ns (st : List Nat) : List Value := st.map fun x : Nat => E (x : Int)
theorem own_ge {w : World} {B e n : Nat} {v : Value} {xs : List Value} {z : Nat} (h : w.ownsRow B e z v n xs) : ∀ k, v.ownBlock = some k → B ≤ k := by
  intro k hk
  rcases h.2 with ⟨hv, _⟩ | ⟨g, cap, cur, hv, hb, _⟩
  · subst hv; cases hk
  · subst hv
    have : g = k := by simpa [Value.ownBlock] using hk
    omega
theorem lt_heap {w : World} {g : Nat} {o : Obj} (h : w.heap[g]? = some o) : g < w.heap.size := (Array.getElem?_eq_some_iff.1 h).1
theorem own_below {w w' : World} {B e n z : Nat} {v : Value} {xs : List Value} (h : w.ownsRow B e z v n xs) (hb : Below w.heap.size w w') : w'.ownsRow B e z v n xs := by
  refine ⟨h.1, ?_⟩
  rcases h.2 with hv | ⟨g, cap, cur, hv, h1, h2, h3⟩
  · exact Or.inl hv
  · exact Or.inr ⟨g, cap, cur, hv, h1, (hb.block g (lt_heap h2)).trans h2, h3⟩
/-- The head of a slice owns the head of its cells. -/
theorem own_take {w : World} {B e n z g cap : Nat} {xs : List Value} (h : w.ownsRow B e z (.slice (some ⟨g, 0, none⟩) n cap) n xs) {m : Nat} (hm : m ≤ n) : w.ownsRow B e z (.slice (some ⟨g, 0, none⟩) m cap) m (xs.take (m * z)) := by
  obtain ⟨hl, h⟩ := h
  rcases h with ⟨hv, _⟩ | ⟨g', cap', cur, hv, h1, h2, h3, h4, h5, h6⟩
  · cases hv
  simp only [Value.slice.injEq, true_and, Option.some.injEq, Addr.mk.injEq, and_true] at hv
  obtain ⟨rfl, rfl⟩ := hv
  refine ⟨?_, Or.inr ⟨g, cap, cur, rfl, h1, h2, by omega, h4, h5, ?_⟩⟩
  · rw [List.length_take, hl]; exact Nat.min_eq_left (Nat.mul_le_mul_right z hm)
  · rw [← h6, List.take_take]; congr 1; exact (Nat.min_eq_left (Nat.mul_le_mul_right z hm)).symm
theorem own_forms {w : World} {B e n z : Nat} {v : Value} {xs : List Value} (h : w.ownsRow B e z v n xs) : (v = .slice none 0 0 ∧ n = 0) ∨ ∃ g cap, v = .slice (some ⟨g, 0, none⟩) n cap ∧ n ≤ cap := by
  rcases h.2 with ⟨hv, h0⟩ | ⟨g, cap, cur, hv, _, _, h3, _⟩
  · exact Or.inl ⟨hv, h0⟩
  · exact Or.inr ⟨g, cap, hv, h3⟩
theorem one_cell {w : World} {g : Nat} {x : Value} {t : TypeId} {fz : Nat × Nat} (h : w.heap[g]? = some (.cells #[x] t fz)) : ∀ j u, [x][j]? = some u → w.cell? ((⟨g, 0, none⟩ : Addr).add j) = some u := by
  intro j u hj
  match j, hj with
  | 0, hj =>
    rw [Addr.add_lit, Lib.cell_of_heap h]
    simpa using hj
theorem one_one (n : Int) : ∀ u ∈ [E n], u.oneCell' = true := by simp [Value.oneCell']
/-- Two more cells, above a world. -/
abbrev NH2 (w0 w : World) (b : Nat) (n : Nd) (g m : Nat) (x y : Int) : Prop := (w.cell? ⟨g, m, none⟩ = some (E x) ∧ w.cell? ⟨g, m + 1, none⟩ = some (E y)) ∧ NH w0 w b n
abbrev NH1 (w0 w : World) (b : Nat) (n : Nd) (g m : Nat) (x : Int) : Prop := w.cell? ⟨g, m, none⟩ = some (E x) ∧ NH w0 w b n
theorem NH1.below {w0 w w' : World} {b : Nat} {n : Nd} {g m : Nat} {x : Int} (h : NH1 w0 w b n g m x) (hb : Below w.heap.size w w') : NH1 w0 w' b n g m x := ⟨(hb.cell (lt_cell h.1)).trans h.1, NH.below h.2 hb⟩
theorem NH2.below {w0 w w' : World} {b : Nat} {n : Nd} {g m : Nat} {x y : Int} (h : NH2 w0 w b n g m x y) (hb : Below w.heap.size w w') : NH2 w0 w' b n g m x y := ⟨⟨(hb.cell (lt_cell h.1.1)).trans h.1.1, (hb.cell (lt_cell h.1.2)).trans h.1.2⟩, NH.below h.2 hb⟩
theorem NH.bel {w0 w : World} {b : Nat} {n : Nd} (h : NH w0 w b n) : Below w0.heap.size w0 w := h.2.2.2.2.2.2.2.2.2.2
theorem NH1.bel {w0 w : World} {b : Nat} {n : Nd} {g m : Nat} {x : Int} (h : NH1 w0 w b n g m x) : Below w0.heap.size w0 w := NH.bel h.2
theorem NH2.bel {w0 w : World} {b : Nat} {n : Nd} {g m : Nat} {x y : Int} (h : NH2 w0 w b n g m x y) : Below w0.heap.size w0 w := NH.bel h.2
theorem NH1.drew {w0 w : World} {b : Nat} {n : Nd} {g m : Nat} {x : Int} (h : NH1 w0 w b n g m x) : NH1 w0 w.drew b n g m x := ⟨h.1, NH.drew h.2⟩
theorem NH2.drew {w0 w : World} {b : Nat} {n : Nd} {g m : Nat} {x y : Int} (h : NH2 w0 w b n g m x y) : NH2 w0 w.drew b n g m x y := ⟨h.1, NH.drew h.2⟩
/-- The place that stands in an own stack. -/
theorem own_cell {w : World} {B e n g cap m : Nat} {st : List Nat} (h : w.ownsRow B e 1 (.slice (some ⟨g, 0, none⟩) n cap) n (ns st)) (hm : m < st.length) : w.cell? ⟨g, m, none⟩ = some (E ((st[m] : Nat) : Int)) := by
  obtain ⟨hl, h⟩ := h
  rcases h with ⟨hv, _⟩ | ⟨g', cap', cur, hv, h1, h2, h3, h4, h5, h6⟩
  · cases hv
  simp only [Value.slice.injEq, true_and, Option.some.injEq, Addr.mk.injEq, and_true] at hv
  obtain ⟨rfl, rfl⟩ := hv
  rw [Lib.cell_of_heap h2]
  have e1 : (ns st)[m]? = some (E ((st[m] : Nat) : Int)) := by simp [ns, hm]
  rw [← h6] at e1
  have hmn : m < n * 1 := by rw [← hl]; simpa [ns] using hm
  rw [List.getElem?_take_of_lt hmn] at e1
  simpa using e1
theorem parts_none {n : Nd} (h : parts n = 0) : n.k ≠ 4 ∧ n.k ≠ 5 ∧ n.k ≠ 6 := by
  refine ⟨?_, ?_, ?_⟩ <;> intro q <;> unfold parts at h <;> simp [q] at h
theorem ok_none {l : List Nd} {n : Nd} {st : List Nat} (h1 : OneN n) (h2 : parts n = 0) (h3 : ¬ (n.k = 0 ∧ 1 < l.length)) (h4 : n.k ≠ 4 ∧ n.k ≠ 5 ∧ n.k ≠ 6) : StepOk l n st := by
  refine ⟨h1, by omega, h3, ?_, ?_⟩
  · rw [h2, Nat.sub_zero, List.drop_length]; trivial
  · unfold Fits; rw [if_neg h4.1, if_neg h4.2.1, if_neg h4.2.2]; trivial
theorem ordRun_succ {l : List Nd} {k : Nat} {st : List Nat} (h : ordRun l k = some st) (hk : k < l.length) : ordRun l (k + 1) = if StepOk l l[k] st then some (push l[k] k st) else none := by
  show (ordRun l k).bind _ = _
  rw [h]
  show (match l[k]? with | none => none | some n => if StepOk l n st then some (push n k st) else none) = _
  rw [List.getElem?_eq_getElem hk]
theorem ordRun_none {l : List Nd} {k : Nat} (h : ordRun l k = none) : ∀ j, k ≤ j → ordRun l j = none := by
  intro j hj
  induction j with
  | zero => obtain rfl : k = 0 := by omega
            exact h
  | succ j ih =>
    by_cases e : k = j + 1
    · subst e; exact h
    · show (ordRun l j).bind _ = none
      rw [ih (by omega)]; rfl
theorem not_ordered {l : List Nd} {k : Nat} (h : ordRun l (k + 1) = none) (hk : k < l.length) : ¬ Ordered l := by
  rintro ⟨i, hi⟩
  rw [ordRun_none h _ (by omega)] at hi
  cases hi
theorem bad_step {l : List Nd} {k : Nat} {st : List Nat} (h : ordRun l k = some st) (hk : k < l.length) (hn : ¬ StepOk l l[k] st) : ¬ Ordered l := by
  apply not_ordered _ hk
  rw [ordRun_succ h hk, if_neg hn]
theorem ordRun_le {l : List Nd} : ∀ {k : Nat} {st : List Nat}, ordRun l k = some st → st.length ≤ k ∧ ∀ x ∈ st, x < k
  | 0, st, h => by
    obtain rfl : [] = st := Option.some.inj h
    simp
  | k + 1, st, h => by
    cases e : ordRun l k with
    | none => rw [ordRun_none e (k + 1) (by omega)] at h; cases h
    | some s0 =>
      have ih := ordRun_le e
      have h' : (ordRun l k).bind _ = some st := h
      rw [e] at h'
      cases hl : l[k]? with
      | none => rw [show (some s0).bind _ = (match l[k]? with | none => none | some n => if StepOk l n s0 then some (push n k s0) else none) from rfl, hl] at h'; cases h'
      | some n =>
        rw [show (some s0).bind _ = (match l[k]? with | none => none | some n => if StepOk l n s0 then some (push n k s0) else none) from rfl, hl] at h'
        dsimp only at h'
        split at h'
        · obtain rfl := Option.some.inj h'
          unfold push
          refine ⟨?_, ?_⟩
          · simp; omega
          · intro x hx
            rw [List.mem_append, List.mem_singleton] at hx
            rcases hx with hx | rfl
            · have := ih.2 x (List.mem_of_mem_take hx); omega
            · omega
        · cases h'
instance (l : List Nd) : Decidable (Ordered l) :=
  match h : ordRun l l.length with
  | some [i] => isTrue ⟨i, h⟩
  | none => isFalse (by rintro ⟨i, e⟩; rw [h] at e; cases e)
  | some [] => isFalse (by rintro ⟨i, e⟩; rw [h] at e; cases e)
  | some (_ :: _ :: _) => isFalse (by rintro ⟨i, e⟩; rw [h] at e; cases e)
set_option maxRecDepth 100000 in
set_option maxHeartbeats 6400000 in
theorem ordered_any (ao : Option Addr) (c : Nat) (l : List Nd) (w : World) (h : Ns w (.slice ao l.length c) l) (hw : ∀ n ∈ l, Wf n.s) (hl : l.length ≤ 120) :
    Calls Tryd.prog 39 #[.slice ao l.length c] w fun e w' => e = .returned (.bool (decide (Ordered l))) ∧ Below w.heap.size w w' := by
  obtain ⟨i0, hi, hz0, hz1, hz2⟩ := info_parts infoInt
  have HNS := Lib.hid h
  clear h
  go_enter Tryd.func39, Tryd.ntmps39
  go_wp2
  go_loopw [3, 10] (fun v i wr => ∃ (k : Nat) (st : List Nat), k ≤ l.length ∧ i = .int .i64 (k : Nat) ∧ Hid (ordRun l k = some st) ∧ Hid (wr.ownsRow w.heap.size 3 1 v st.length (ns st)) ∧ Hid (Below w.heap.size w wr)) (fun _ i _ => l.length - (intOf i).toNat)
  case atStart => exact ⟨0, [], Nat.zero_le _, rfl, Lib.hid rfl, Lib.hid (World.ownsRow_nil _ _ _ _), Lib.hid (Below.refl _ _)⟩
  case round =>
    obtain ⟨k, st, hk, rfl, HR, HO, HB⟩ := hrel
    by_cases hlt : k < l.length
    · obtain ⟨B0, o0, rfl, q0, q1, q2, q3, q4, q5, q6, q7, q8, q9⟩ := (HNS.out.below HB.out).at hlt
      generalize hn : l[k] = n at *
      have HN := Lib.hid hn
      have hlt' : ((k : Nat) : Int) < ((l.length : Nat) : Int) := by omega
      have CPa := fun W => parts_any n W
      have COn := fun W => one_any n W (by rw [← HN.out]; exact hw _ (List.getElem_mem _))
      clear hn
      have hbad : ∀ w', (¬ StepOk l n st) → Below w.heap.size w w' → ((Ending.returned (.bool false) = .returned (.bool (decide (Ordered l)))) ∧ Below w.heap.size w w') := fun w' hx hb => ⟨by rw [decide_eq_false (bad_step HR.out hlt (by rw [HN.out]; exact hx))], hb⟩
      have HBAD := Lib.hid hbad
      have hlen := (ordRun_le HR.out).1
      have HLE := Lib.hid (ordRun_le HR.out).2
      have HFT := Lib.hid (fun W (hb : Below wr.heap.size wr W) (ha : n.k = 4 ∨ n.k = 5 ∨ n.k = 6 → ∃ j, j < l.length ∧ n.a = (j : Nat)) (hb' : n.k = 4 → ∃ j, j < l.length ∧ n.b = (j : Nat)) => fits_any (some ⟨B0, o0, none⟩) c l n W (HNS.out.below (HB.out.trans (hb.mono HB.out.size))) ha hb')
      clear hbad
      have hp2 : parts n ≤ 2 := by unfold parts; split; omega; split <;> omega
      obtain ⟨bo, cap, rfl⟩ : ∃ bo cap, u3 = .slice bo st.length cap := by
        rcases own_forms HO.out with ⟨rfl, h0⟩ | ⟨g, cap, rfl, _⟩
        · exact ⟨none, 0, by rw [h0]⟩
        · exact ⟨_, _, rfl⟩
      have HBN := ((Below.refl wr.heap.size wr).alloc (Nat.le_refl _) (Obj.cells (NC n) 40))
      have HNB : NB (wr.alloc (Obj.cells (NC n) 40)) wr.heap.size n := heap_alloc_new _ _
      have HH0 := Lib.hid (NB.held (w0 := wr) HNB HBN)
      clear HNB HBN
      obtain ⟨P, hP⟩ : ∃ P, P = parts n := ⟨_, rfl⟩
      rw [← hP] at CPa hp2
      have HP := Lib.hid hP
      clear hP
      by_cases ho : OneN n
      · rw [decide_eq_true ho] at COn
        by_cases hle : P ≤ st.length
        · obtain ⟨m, hm⟩ : ∃ m, st.length = m + P := ⟨st.length - P, by omega⟩
          have hsub : IntKind.i64.wrap (((st.length : Nat) : Int) - (P : Int)) = ((m : Nat) : Int) := by rw [IntKind.wrap_i64]; omega
          have HM := Lib.hid hm
          have hm0 : (0 : Int) ≤ ((m : Nat) : Int) := by omega
          have hm1 : ((m : Nat) : Int) ≤ ((st.length : Nat) : Int) := by omega
          have hm2 : m ≤ st.length := by omega
          have HPU := Lib.hid (show push n k st = st.take m ++ [k] from by unfold push; rw [← HP.out]; congr 2; omega)
          have HDR := Lib.hid (show st.drop (st.length - parts n) = st.drop m from by rw [← HP.out]; congr 1; omega)
          have hml : m ≤ 120 := by omega
          by_cases hk0 : n.k = 0
          · have hkB : (n.k == 0) = true := by simpa using hk0
            by_cases hL : 1 < l.length
            · have hLB : (1 : Int) < ((l.length : Nat) : Int) := by omega
              have HK0 := Lib.hid (And.intro hk0 hL)
              clear hk0
              go_wp2_with (first
                | (go_at_call 18; refine (CPa _).mono ?_; rintro e w1 ⟨rfl, hb1⟩; have HH1 := Lib.hid (HH0.out.below hb1); clear hb1; obtain ⟨r0, r1, r2, r3, r4, r5, r6, r7, r8, r9, _⟩ := HH1.out)
                | (go_at_call 56; refine (COn _).mono ?_; rintro e w2 ⟨rfl, hb2⟩; have HH2 := Lib.hid (HH1.out.below hb2); clear hb2; obtain ⟨s0, s1, s2, s3, s4, s5, s6, s7, s8, s9, _⟩ := HH2.out; clear HH1))
              go_ret
              exact HBAD.out _ (fun q => q.2.2.1 HK0.out) (HB.out.trans (HH2.out.bel.mono HB.out.size))
            · have hLB : ¬ (1 : Int) < ((l.length : Nat) : Int) := by omega
              have hP0 : P = 0 := by rw [HP.out]; unfold parts; rw [if_neg (by omega), if_neg (by omega)]
              subst hP0
              have HK := Lib.hid (show n.k ≠ 4 ∧ n.k ≠ 5 ∧ n.k ≠ 6 by omega)
              have HOK := Lib.hid (show StepOk l n st from ok_none ho (by rw [← HP.out]) (fun q => hL q.2) HK.out)
              clear hk0
              have HFI := Lib.hid (show Fits l n from HOK.out.2.2.2.2)
              have CF := Lib.hid (show ∀ W, Below wr.heap.size wr W → Calls Tryd.prog 57 #[.slice (some ⟨B0, o0, none⟩) l.length c, NV n] W fun e w' => e = .returned (.bool true) ∧ Below W.heap.size W w' from fun W hb => by
                have := HFT.out W hb (by have := HK.out; omega) (by have := HK.out; omega)
                rwa [decide_eq_true HFI.out] at this)
              have hmn : m = st.length := by have := HM.out; omega
              rcases own_forms HO.out with ⟨hv, h0⟩ | ⟨g, cap', hv, hcap⟩
              · obtain ⟨rfl, h00, rfl⟩ : bo = none ∧ st.length = 0 ∧ cap = 0 := by simpa using hv
                obtain rfl : m = 0 := by omega
                obtain rfl : st = [] := List.length_eq_zero_iff.1 h0
                clear hv h0 h00 hmn hm
                go_wp2_with (first
                  | (go_at_call 18; refine (CPa _).mono ?_; rintro e w1 ⟨rfl, hb1⟩; have HH1 := Lib.hid (HH0.out.below hb1); clear hb1; obtain ⟨r0, r1, r2, r3, r4, r5, r6, r7, r8, r9, _⟩ := HH1.out)
                  | (go_at_call 56; refine (COn _).mono ?_; rintro e w2 ⟨rfl, hb2⟩; have HH2 := Lib.hid (HH1.out.below hb2); clear hb2; obtain ⟨s0, s1, s2, s3, s4, s5, s6, s7, s8, s9, _⟩ := HH2.out; clear HH1))
                have HS0 := Lib.hid (HH2.out)
                refine wp_region_noPanic ?_
                refine wp_region_held_drew (S := fun w' => NH wr w' wr.heap.size n) (by kernel_rfl) ?_ (fun hHeld => ?_)
                · (try dsimp only); exact NH.drew HS0.out
                clear HS0
                have HBD := Lib.hid (NH.bel hHeld)
                generalize w2.drew = w3 at *
                refine wpAnyH_take (i := 0) (oi := ?o0x1) (v := ?v0x1) ?hi0x1 (by kernel_rfl) (by kernel_rfl) (by kernel_rfl) (fun _ _ _ h => h) ?hy0x1 (by assumption) ?r0x1
                case hi0x1 => simp only [List.getElem?_toArray, List.getElem?_cons_succ, List.getElem?_cons_zero]; rfl
                case hy0x1 => exact Or.inl ⟨by rfl, by (intro w hSw; (try dsimp only at hSw); go_simp) <;> with_reducible rfl⟩
                try simp only [Act.put, List.setIfInBounds_toArray, List.set_cons_zero, List.set_cons_succ]
                refine wpAnyH_take (i := 1) (oi := ?o1x1) (v := ?v1x1) ?hi1x1 (by kernel_rfl) (by kernel_rfl) (by kernel_rfl) (fun _ _ _ h => h) ?hy1x1 (by assumption) ?r1x1
                case hi1x1 => simp only [List.getElem?_toArray, List.getElem?_cons_succ, List.getElem?_cons_zero]; rfl
                case hy1x1 => exact Or.inl ⟨by rfl, by (intro w hSw; (try dsimp only at hSw); go_simp) <;> with_reducible rfl⟩
                try simp only [Act.put, List.setIfInBounds_toArray, List.set_cons_zero, List.set_cons_succ]
                refine wpAnyH_take (i := 2) (oi := ?o2x1) (v := ?v2x1) ?hi2x1 (by kernel_rfl) (by kernel_rfl) (by kernel_rfl) (fun _ _ _ h => h) ?hy2x1 (by assumption) ?r2x1
                case hi2x1 => simp only [List.getElem?_toArray, List.getElem?_cons_succ, List.getElem?_cons_zero]; rfl
                case hy2x1 => exact Or.inl ⟨by rfl, by (intro w hSw; (try dsimp only at hSw); go_simp) <;> with_reducible rfl⟩
                try simp only [Act.put, List.setIfInBounds_toArray, List.set_cons_zero, List.set_cons_succ]
                refine wpAnyH_take (i := 3) (oi := ?o3x1) (v := ?v3x1) ?hi3x1 (by kernel_rfl) (by kernel_rfl) (by kernel_rfl) (fun _ _ _ h => h) ?hy3x1 (by assumption) ?r3x1
                case hi3x1 => simp only [List.getElem?_toArray, List.getElem?_cons_succ, List.getElem?_cons_zero]; rfl
                case hy3x1 => exact Or.inl ⟨by rfl, by (intro w hSw; (try dsimp only at hSw); go_simp) <;> with_reducible rfl⟩
                try simp only [Act.put, List.setIfInBounds_toArray, List.set_cons_zero, List.set_cons_succ]
                refine wpAnyH_take (i := 4) (oi := ?o4x1) (v := undef) ?hi4x1 (by kernel_rfl) (by kernel_rfl) (by kernel_rfl) (fun _ _ _ h => h) ?hy4x1 (by assumption) ?r4x1
                case hi4x1 => simp only [List.getElem?_toArray, List.getElem?_cons_succ, List.getElem?_cons_zero]; rfl
                case hy4x1 => exact Or.inr ⟨by rfl, rfl⟩
                try simp only [Act.put, List.setIfInBounds_toArray, List.set_cons_zero, List.set_cons_succ]
                refine wpAnyH_take (i := 5) (oi := ?o5x1) (v := undef) ?hi5x1 (by kernel_rfl) (by kernel_rfl) (by kernel_rfl) (fun _ _ _ h => h) ?hy5x1 (by assumption) ?r5x1
                case hi5x1 => simp only [List.getElem?_toArray, List.getElem?_cons_succ, List.getElem?_cons_zero]; rfl
                case hy5x1 => exact Or.inr ⟨by rfl, rfl⟩
                try simp only [Act.put, List.setIfInBounds_toArray, List.set_cons_zero, List.set_cons_succ]
                refine wpAnyH_take (i := 6) (oi := ?o6x1) (v := undef) ?hi6x1 (by kernel_rfl) (by kernel_rfl) (by kernel_rfl) (fun _ _ _ h => h) ?hy6x1 (by assumption) ?r6x1
                case hi6x1 => simp only [List.getElem?_toArray, List.getElem?_cons_succ, List.getElem?_cons_zero]; rfl
                case hy6x1 => exact Or.inr ⟨by rfl, rfl⟩
                try simp only [Act.put, List.setIfInBounds_toArray, List.set_cons_zero, List.set_cons_succ]
                refine wpAnyH_take (i := 7) (oi := ?o7x1) (v := undef) ?hi7x1 (by kernel_rfl) (by kernel_rfl) (by kernel_rfl) (fun _ _ _ h => h) ?hy7x1 (by assumption) ?r7x1
                case hi7x1 => simp only [List.getElem?_toArray, List.getElem?_cons_succ, List.getElem?_cons_zero]; rfl
                case hy7x1 => exact Or.inr ⟨by rfl, rfl⟩
                try simp only [Act.put, List.setIfInBounds_toArray, List.set_cons_zero, List.set_cons_succ]
                refine wpAnyH_take (i := 8) (oi := ?o8x1) (v := undef) ?hi8x1 (by kernel_rfl) (by kernel_rfl) (by kernel_rfl) (fun _ _ _ h => h) ?hy8x1 (by assumption) ?r8x1
                case hi8x1 => simp only [List.getElem?_toArray, List.getElem?_cons_succ, List.getElem?_cons_zero]; rfl
                case hy8x1 => exact Or.inr ⟨by rfl, rfl⟩
                try simp only [Act.put, List.setIfInBounds_toArray, List.set_cons_zero, List.set_cons_succ]
                refine wpAnyH_take (i := 9) (oi := ?o9x1) (v := undef) ?hi9x1 (by kernel_rfl) (by kernel_rfl) (by kernel_rfl) (fun _ _ _ h => h) ?hy9x1 (by assumption) ?r9x1
                case hi9x1 => simp only [List.getElem?_toArray, List.getElem?_cons_succ, List.getElem?_cons_zero]; rfl
                case hy9x1 => exact Or.inr ⟨by rfl, rfl⟩
                try simp only [Act.put, List.setIfInBounds_toArray, List.set_cons_zero, List.set_cons_succ]
                refine wpAnyH_take (i := 10) (oi := ?o10x1) (v := undef) ?hi10x1 (by kernel_rfl) (by kernel_rfl) (by kernel_rfl) (fun _ _ _ h => h) ?hy10x1 (by assumption) ?r10x1
                case hi10x1 => simp only [List.getElem?_toArray, List.getElem?_cons_succ, List.getElem?_cons_zero]; rfl
                case hy10x1 => exact Or.inr ⟨by rfl, rfl⟩
                try simp only [Act.put, List.setIfInBounds_toArray, List.set_cons_zero, List.set_cons_succ]
                refine wpAnyH_take (i := 11) (oi := ?o11x1) (v := undef) ?hi11x1 (by kernel_rfl) (by kernel_rfl) (by kernel_rfl) (fun _ _ _ h => h) ?hy11x1 (by assumption) ?r11x1
                case hi11x1 => simp only [List.getElem?_toArray, List.getElem?_cons_succ, List.getElem?_cons_zero]; rfl
                case hy11x1 => exact Or.inr ⟨by rfl, rfl⟩
                try simp only [Act.put, List.setIfInBounds_toArray, List.set_cons_zero, List.set_cons_succ]
                refine wpAnyH_take (i := 12) (oi := ?o12x1) (v := undef) ?hi12x1 (by kernel_rfl) (by kernel_rfl) (by kernel_rfl) (fun _ _ _ h => h) ?hy12x1 (by assumption) ?r12x1
                case hi12x1 => simp only [List.getElem?_toArray, List.getElem?_cons_succ, List.getElem?_cons_zero]; rfl
                case hy12x1 => exact Or.inr ⟨by rfl, rfl⟩
                try simp only [Act.put, List.setIfInBounds_toArray, List.set_cons_zero, List.set_cons_succ]
                refine wpAnyH_take (i := 13) (oi := ?o13x1) (v := undef) ?hi13x1 (by kernel_rfl) (by kernel_rfl) (by kernel_rfl) (fun _ _ _ h => h) ?hy13x1 (by assumption) ?r13x1
                case hi13x1 => simp only [List.getElem?_toArray, List.getElem?_cons_succ, List.getElem?_cons_zero]; rfl
                case hy13x1 => exact Or.inr ⟨by rfl, rfl⟩
                try simp only [Act.put, List.setIfInBounds_toArray, List.set_cons_zero, List.set_cons_succ]
                refine wpAnyH_take (i := 14) (oi := ?o14x1) (v := undef) ?hi14x1 (by kernel_rfl) (by kernel_rfl) (by kernel_rfl) (fun _ _ _ h => h) ?hy14x1 (by assumption) ?r14x1
                case hi14x1 => simp only [List.getElem?_toArray, List.getElem?_cons_succ, List.getElem?_cons_zero]; rfl
                case hy14x1 => exact Or.inr ⟨by rfl, rfl⟩
                try simp only [Act.put, List.setIfInBounds_toArray, List.set_cons_zero, List.set_cons_succ]
                refine wpAnyH_take (i := 15) (oi := ?o15x1) (v := undef) ?hi15x1 (by kernel_rfl) (by kernel_rfl) (by kernel_rfl) (fun _ _ _ h => h) ?hy15x1 (by assumption) ?r15x1
                case hi15x1 => simp only [List.getElem?_toArray, List.getElem?_cons_succ, List.getElem?_cons_zero]; rfl
                case hy15x1 => exact Or.inr ⟨by rfl, rfl⟩
                try simp only [Act.put, List.setIfInBounds_toArray, List.set_cons_zero, List.set_cons_succ]
                refine wpAnyH_take (i := 16) (oi := ?o16x1) (v := undef) ?hi16x1 (by kernel_rfl) (by kernel_rfl) (by kernel_rfl) (fun _ _ _ h => h) ?hy16x1 (by assumption) ?r16x1
                case hi16x1 => simp only [List.getElem?_toArray, List.getElem?_cons_succ, List.getElem?_cons_zero]; rfl
                case hy16x1 => exact Or.inr ⟨by rfl, rfl⟩
                try simp only [Act.put, List.setIfInBounds_toArray, List.set_cons_zero, List.set_cons_succ]
                refine wpAnyH_take (i := 17) (oi := ?o17x1) (v := undef) ?hi17x1 (by kernel_rfl) (by kernel_rfl) (by kernel_rfl) (fun _ _ _ h => h) ?hy17x1 (by assumption) ?r17x1
                case hi17x1 => simp only [List.getElem?_toArray, List.getElem?_cons_succ, List.getElem?_cons_zero]; rfl
                case hy17x1 => exact Or.inr ⟨by rfl, rfl⟩
                try simp only [Act.put, List.setIfInBounds_toArray, List.set_cons_zero, List.set_cons_succ]
                refine wpAnyH_take (i := 18) (oi := ?o18x1) (v := undef) ?hi18x1 (by kernel_rfl) (by kernel_rfl) (by kernel_rfl) (fun _ _ _ h => h) ?hy18x1 (by assumption) ?r18x1
                case hi18x1 => simp only [List.getElem?_toArray, List.getElem?_cons_succ, List.getElem?_cons_zero]; rfl
                case hy18x1 => exact Or.inr ⟨by rfl, rfl⟩
                try simp only [Act.put, List.setIfInBounds_toArray, List.set_cons_zero, List.set_cons_succ]
                refine wpAnyH_take (i := 19) (oi := ?o19x1) (v := undef) ?hi19x1 (by kernel_rfl) (by kernel_rfl) (by kernel_rfl) (fun _ _ _ h => h) ?hy19x1 (by assumption) ?r19x1
                case hi19x1 => simp only [List.getElem?_toArray, List.getElem?_cons_succ, List.getElem?_cons_zero]; rfl
                case hy19x1 => exact Or.inr ⟨by rfl, rfl⟩
                try simp only [Act.put, List.setIfInBounds_toArray, List.set_cons_zero, List.set_cons_succ]
                refine wpAnyH_take (i := 20) (oi := ?o20x1) (v := undef) ?hi20x1 (by kernel_rfl) (by kernel_rfl) (by kernel_rfl) (fun _ _ _ h => h) ?hy20x1 (by assumption) ?r20x1
                case hi20x1 => simp only [List.getElem?_toArray, List.getElem?_cons_succ, List.getElem?_cons_zero]; rfl
                case hy20x1 => exact Or.inr ⟨by rfl, rfl⟩
                try simp only [Act.put, List.setIfInBounds_toArray, List.set_cons_zero, List.set_cons_succ]
                refine wpAnyH_take (i := 21) (oi := ?o21x1) (v := undef) ?hi21x1 (by kernel_rfl) (by kernel_rfl) (by kernel_rfl) (fun _ _ _ h => h) ?hy21x1 (by assumption) ?r21x1
                case hi21x1 => simp only [List.getElem?_toArray, List.getElem?_cons_succ, List.getElem?_cons_zero]; rfl
                case hy21x1 => exact Or.inr ⟨by rfl, rfl⟩
                try simp only [Act.put, List.setIfInBounds_toArray, List.set_cons_zero, List.set_cons_succ]
                refine wpAnyH_take (i := 22) (oi := ?o22x1) (v := undef) ?hi22x1 (by kernel_rfl) (by kernel_rfl) (by kernel_rfl) (fun _ _ _ h => h) ?hy22x1 (by assumption) ?r22x1
                case hi22x1 => simp only [List.getElem?_toArray, List.getElem?_cons_succ, List.getElem?_cons_zero]; rfl
                case hy22x1 => exact Or.inr ⟨by rfl, rfl⟩
                try simp only [Act.put, List.setIfInBounds_toArray, List.set_cons_zero, List.set_cons_succ]
                refine wpAnyH_take (i := 23) (oi := ?o23x1) (v := ?v23x1) ?hi23x1 (by kernel_rfl) (by kernel_rfl) (by kernel_rfl) (fun _ _ _ h => h) ?hy23x1 (by assumption) ?r23x1
                case hi23x1 => simp only [List.getElem?_toArray, List.getElem?_cons_succ, List.getElem?_cons_zero]; rfl
                case hy23x1 => exact Or.inl ⟨by rfl, by (intro w hSw; (try dsimp only at hSw); go_simp) <;> with_reducible rfl⟩
                try simp only [Act.put, List.setIfInBounds_toArray, List.set_cons_zero, List.set_cons_succ]
                refine wpAnyH_take (i := 24) (oi := ?o24x1) (v := ?v24x1) ?hi24x1 (by kernel_rfl) (by kernel_rfl) (by kernel_rfl) (fun _ _ _ h => h) ?hy24x1 (by assumption) ?r24x1
                case hi24x1 => simp only [List.getElem?_toArray, List.getElem?_cons_succ, List.getElem?_cons_zero]; rfl
                case hy24x1 => exact Or.inl ⟨by rfl, by (intro w hSw; (try dsimp only at hSw); go_simp) <;> with_reducible rfl⟩
                try simp only [Act.put, List.setIfInBounds_toArray, List.set_cons_zero, List.set_cons_succ]
                refine wpAnyH_take (i := 25) (oi := ?o25x1) (v := ?v25x1) ?hi25x1 (by kernel_rfl) (by kernel_rfl) (by kernel_rfl) (fun _ _ _ h => h) ?hy25x1 (by assumption) ?r25x1
                case hi25x1 => simp only [List.getElem?_toArray, List.getElem?_cons_succ, List.getElem?_cons_zero]; rfl
                case hy25x1 => exact Or.inl ⟨by rfl, by (intro w hSw; (try dsimp only at hSw); go_simp) <;> with_reducible rfl⟩
                try simp only [Act.put, List.setIfInBounds_toArray, List.set_cons_zero, List.set_cons_succ]
                refine wpAnyH_take (i := 26) (oi := ?o26x1) (v := ?v26x1) ?hi26x1 (by kernel_rfl) (by kernel_rfl) (by kernel_rfl) (fun _ _ _ h => h) ?hy26x1 (by assumption) ?r26x1
                case hi26x1 => simp only [List.getElem?_toArray, List.getElem?_cons_succ, List.getElem?_cons_zero]; rfl
                case hy26x1 => exact Or.inl ⟨by rfl, by (intro w hSw; (try dsimp only at hSw); go_simp) <;> with_reducible rfl⟩
                try simp only [Act.put, List.setIfInBounds_toArray, List.set_cons_zero, List.set_cons_succ]
                refine wpAnyH_ready (rs := [27]) (by kernel_rfl) (by simp) ?_
                refine AllReadyH.cons (o := ?o27x1) ?hi27x1 (fun K hK => ?st27x1) AllReadyH.nil
                case hi27x1 => simp only [List.getElem?_toArray, List.getElem?_cons_succ, List.getElem?_cons_zero]; rfl
                go_simp
                (go_at_call 57; refine (CF.out _ (NH.bel hHeld)).mono ?_; rintro e w' ⟨rfl, hbl⟩)
                refine hK.out _ _ ?_ (fun hHeld => ?_)
                · (try dsimp only); (exact NH.below hHeld hbl)
                clear hK K
                try simp only [Act.put, List.setIfInBounds_toArray, List.set_cons_zero, List.set_cons_succ]
                refine wpAnyH_take (i := 28) (oi := ?o28x1) (v := ?v28x1) ?hi28x1 (by kernel_rfl) (by kernel_rfl) (by kernel_rfl) (fun _ _ _ h => h) ?hy28x1 (by assumption) ?r28x1
                case hi28x1 => simp only [List.getElem?_toArray, List.getElem?_cons_succ, List.getElem?_cons_zero]; rfl
                case hy28x1 => exact Or.inl ⟨by rfl, by (intro w hSw; (try dsimp only at hSw); go_simp) <;> with_reducible rfl⟩
                try simp only [Act.put, List.setIfInBounds_toArray, List.set_cons_zero, List.set_cons_succ]
                refine wpAnyH_take (i := 29) (oi := ?o29x1) (v := ?v29x1) ?hi29x1 (by kernel_rfl) (by kernel_rfl) (by kernel_rfl) (fun _ _ _ h => h) ?hy29x1 (by assumption) ?r29x1
                case hi29x1 => simp only [List.getElem?_toArray, List.getElem?_cons_succ, List.getElem?_cons_zero]; rfl
                case hy29x1 => exact Or.inl ⟨by rfl, by (intro w hSw; (try dsimp only at hSw); go_simp) <;> with_reducible rfl⟩
                try simp only [Act.put, List.setIfInBounds_toArray, List.set_cons_zero, List.set_cons_succ]
                refine wpAnyH_done (by kernel_rfl) ?_ _
                refine NoPanic.normal ?_
                have HH3 := Lib.hid hHeld
                clear hHeld HBD
                have HOm := Lib.hid (own_below HO.out (HH3.out.bel))
                go_wp2_with (at_builtin; refine wpList_append_own _ rfl _ _ 89 rfl w.heap.size 3 i0 _ 1 8 Tryd.underlying89 hi hz0 hz1 hz2 rfl (by decide) _ _ _ rfl (HOm.out.alloc _) ⟨_, 0, none⟩ 1 1 [E (k : Nat)] rfl rfl (one_cell (heap_alloc_new _ _)) (one_one _) (by unfold maxLen; omega) (by omega) (by have h1 := HB.out.size; have h2 := HH3.out.bel.size; simp; omega) ?_)
                rintro v' w4 hown hgrow -
                have HB4 := Lib.hid (((HB.out.trans (HH3.out.bel.mono HB.out.size)).alloc (by have h1 := HB.out.size; have h2 := HH3.out.bel.size; omega) _).grown hgrow (by have h1 := HB.out.size; have h2 := HH3.out.bel.size; simp; omega) (own_ge HOm.out))
                have HO4 : Hid (w4.ownsRow w.heap.size 3 1 v' (push n k ([] : List Nat)).length (ns (push n k ([] : List Nat)))) := Lib.hid (by rw [HPU.out]; simpa [HM.out, ns] using hown)
                obtain ⟨bo', n', cap', rfl⟩ : ∃ bo' n' cap', v' = .slice bo' n' cap' := by
                  rcases own_forms hown with ⟨rfl, _⟩ | ⟨g, cap, rfl, _⟩
                  · exact ⟨_, _, _, rfl⟩
                  · exact ⟨_, _, _, rfl⟩
                clear hown hgrow
                go_wp2
                go_roundw
                case rel => exact ⟨k + 1, push n k ([] : List Nat), by omega, by go_num, Lib.hid (by rw [ordRun_succ HR.out hlt, HN.out, if_pos HOK.out]), HO4, HB4⟩
                case measure => simp [intOf]; omega
              · obtain ⟨rfl, rfl⟩ : bo = some ⟨g, 0, none⟩ ∧ cap = cap' := by simpa using hv
                have hcap' : ((st.length : Nat) : Int) ≤ (cap : Int) := by omega
                clear hv
                clear hm
                subst hmn
                by_cases hcs : cap = st.length
                · subst hcs
                  go_wp2_with (first
                    | (go_at_call 18; refine (CPa _).mono ?_; rintro e w1 ⟨rfl, hb1⟩; have HH1 := Lib.hid (HH0.out.below hb1); clear hb1; obtain ⟨r0, r1, r2, r3, r4, r5, r6, r7, r8, r9, _⟩ := HH1.out)
                    | (go_at_call 56; refine (COn _).mono ?_; rintro e w2 ⟨rfl, hb2⟩; have HH2 := Lib.hid (HH1.out.below hb2); clear hb2; obtain ⟨s0, s1, s2, s3, s4, s5, s6, s7, s8, s9, _⟩ := HH2.out; clear HH1))
                  have HS0 := Lib.hid (HH2.out)
                  refine wp_region_noPanic ?_
                  refine wp_region_held_drew (S := fun w' => NH wr w' wr.heap.size n) (by kernel_rfl) ?_ (fun hHeld => ?_)
                  · (try dsimp only); exact NH.drew HS0.out
                  clear HS0
                  have HBD := Lib.hid (NH.bel hHeld)
                  generalize w2.drew = w3 at *
                  refine wpAnyH_take (i := 0) (oi := ?o0x2) (v := ?v0x2) ?hi0x2 (by kernel_rfl) (by kernel_rfl) (by kernel_rfl) (fun _ _ _ h => h) ?hy0x2 (by assumption) ?r0x2
                  case hi0x2 => simp only [List.getElem?_toArray, List.getElem?_cons_succ, List.getElem?_cons_zero]; rfl
                  case hy0x2 => exact Or.inl ⟨by rfl, by (intro w hSw; (try dsimp only at hSw); go_simp) <;> with_reducible rfl⟩
                  try simp only [Act.put, List.setIfInBounds_toArray, List.set_cons_zero, List.set_cons_succ]
                  refine wpAnyH_take (i := 1) (oi := ?o1x2) (v := ?v1x2) ?hi1x2 (by kernel_rfl) (by kernel_rfl) (by kernel_rfl) (fun _ _ _ h => h) ?hy1x2 (by assumption) ?r1x2
                  case hi1x2 => simp only [List.getElem?_toArray, List.getElem?_cons_succ, List.getElem?_cons_zero]; rfl
                  case hy1x2 => exact Or.inl ⟨by rfl, by (intro w hSw; (try dsimp only at hSw); go_simp) <;> with_reducible rfl⟩
                  try simp only [Act.put, List.setIfInBounds_toArray, List.set_cons_zero, List.set_cons_succ]
                  refine wpAnyH_take (i := 2) (oi := ?o2x2) (v := ?v2x2) ?hi2x2 (by kernel_rfl) (by kernel_rfl) (by kernel_rfl) (fun _ _ _ h => h) ?hy2x2 (by assumption) ?r2x2
                  case hi2x2 => simp only [List.getElem?_toArray, List.getElem?_cons_succ, List.getElem?_cons_zero]; rfl
                  case hy2x2 => exact Or.inl ⟨by rfl, by (intro w hSw; (try dsimp only at hSw); go_simp) <;> with_reducible rfl⟩
                  try simp only [Act.put, List.setIfInBounds_toArray, List.set_cons_zero, List.set_cons_succ]
                  refine wpAnyH_take (i := 3) (oi := ?o3x2) (v := ?v3x2) ?hi3x2 (by kernel_rfl) (by kernel_rfl) (by kernel_rfl) (fun _ _ _ h => h) ?hy3x2 (by assumption) ?r3x2
                  case hi3x2 => simp only [List.getElem?_toArray, List.getElem?_cons_succ, List.getElem?_cons_zero]; rfl
                  case hy3x2 => exact Or.inl ⟨by rfl, by (intro w hSw; (try dsimp only at hSw); go_simp) <;> with_reducible rfl⟩
                  try simp only [Act.put, List.setIfInBounds_toArray, List.set_cons_zero, List.set_cons_succ]
                  refine wpAnyH_take (i := 4) (oi := ?o4x2) (v := undef) ?hi4x2 (by kernel_rfl) (by kernel_rfl) (by kernel_rfl) (fun _ _ _ h => h) ?hy4x2 (by assumption) ?r4x2
                  case hi4x2 => simp only [List.getElem?_toArray, List.getElem?_cons_succ, List.getElem?_cons_zero]; rfl
                  case hy4x2 => exact Or.inr ⟨by rfl, rfl⟩
                  try simp only [Act.put, List.setIfInBounds_toArray, List.set_cons_zero, List.set_cons_succ]
                  refine wpAnyH_take (i := 5) (oi := ?o5x2) (v := undef) ?hi5x2 (by kernel_rfl) (by kernel_rfl) (by kernel_rfl) (fun _ _ _ h => h) ?hy5x2 (by assumption) ?r5x2
                  case hi5x2 => simp only [List.getElem?_toArray, List.getElem?_cons_succ, List.getElem?_cons_zero]; rfl
                  case hy5x2 => exact Or.inr ⟨by rfl, rfl⟩
                  try simp only [Act.put, List.setIfInBounds_toArray, List.set_cons_zero, List.set_cons_succ]
                  refine wpAnyH_take (i := 6) (oi := ?o6x2) (v := undef) ?hi6x2 (by kernel_rfl) (by kernel_rfl) (by kernel_rfl) (fun _ _ _ h => h) ?hy6x2 (by assumption) ?r6x2
                  case hi6x2 => simp only [List.getElem?_toArray, List.getElem?_cons_succ, List.getElem?_cons_zero]; rfl
                  case hy6x2 => exact Or.inr ⟨by rfl, rfl⟩
                  try simp only [Act.put, List.setIfInBounds_toArray, List.set_cons_zero, List.set_cons_succ]
                  refine wpAnyH_take (i := 7) (oi := ?o7x2) (v := undef) ?hi7x2 (by kernel_rfl) (by kernel_rfl) (by kernel_rfl) (fun _ _ _ h => h) ?hy7x2 (by assumption) ?r7x2
                  case hi7x2 => simp only [List.getElem?_toArray, List.getElem?_cons_succ, List.getElem?_cons_zero]; rfl
                  case hy7x2 => exact Or.inr ⟨by rfl, rfl⟩
                  try simp only [Act.put, List.setIfInBounds_toArray, List.set_cons_zero, List.set_cons_succ]
                  refine wpAnyH_take (i := 8) (oi := ?o8x2) (v := undef) ?hi8x2 (by kernel_rfl) (by kernel_rfl) (by kernel_rfl) (fun _ _ _ h => h) ?hy8x2 (by assumption) ?r8x2
                  case hi8x2 => simp only [List.getElem?_toArray, List.getElem?_cons_succ, List.getElem?_cons_zero]; rfl
                  case hy8x2 => exact Or.inr ⟨by rfl, rfl⟩
                  try simp only [Act.put, List.setIfInBounds_toArray, List.set_cons_zero, List.set_cons_succ]
                  refine wpAnyH_take (i := 9) (oi := ?o9x2) (v := undef) ?hi9x2 (by kernel_rfl) (by kernel_rfl) (by kernel_rfl) (fun _ _ _ h => h) ?hy9x2 (by assumption) ?r9x2
                  case hi9x2 => simp only [List.getElem?_toArray, List.getElem?_cons_succ, List.getElem?_cons_zero]; rfl
                  case hy9x2 => exact Or.inr ⟨by rfl, rfl⟩
                  try simp only [Act.put, List.setIfInBounds_toArray, List.set_cons_zero, List.set_cons_succ]
                  refine wpAnyH_take (i := 10) (oi := ?o10x2) (v := undef) ?hi10x2 (by kernel_rfl) (by kernel_rfl) (by kernel_rfl) (fun _ _ _ h => h) ?hy10x2 (by assumption) ?r10x2
                  case hi10x2 => simp only [List.getElem?_toArray, List.getElem?_cons_succ, List.getElem?_cons_zero]; rfl
                  case hy10x2 => exact Or.inr ⟨by rfl, rfl⟩
                  try simp only [Act.put, List.setIfInBounds_toArray, List.set_cons_zero, List.set_cons_succ]
                  refine wpAnyH_take (i := 11) (oi := ?o11x2) (v := undef) ?hi11x2 (by kernel_rfl) (by kernel_rfl) (by kernel_rfl) (fun _ _ _ h => h) ?hy11x2 (by assumption) ?r11x2
                  case hi11x2 => simp only [List.getElem?_toArray, List.getElem?_cons_succ, List.getElem?_cons_zero]; rfl
                  case hy11x2 => exact Or.inr ⟨by rfl, rfl⟩
                  try simp only [Act.put, List.setIfInBounds_toArray, List.set_cons_zero, List.set_cons_succ]
                  refine wpAnyH_take (i := 12) (oi := ?o12x2) (v := undef) ?hi12x2 (by kernel_rfl) (by kernel_rfl) (by kernel_rfl) (fun _ _ _ h => h) ?hy12x2 (by assumption) ?r12x2
                  case hi12x2 => simp only [List.getElem?_toArray, List.getElem?_cons_succ, List.getElem?_cons_zero]; rfl
                  case hy12x2 => exact Or.inr ⟨by rfl, rfl⟩
                  try simp only [Act.put, List.setIfInBounds_toArray, List.set_cons_zero, List.set_cons_succ]
                  refine wpAnyH_take (i := 13) (oi := ?o13x2) (v := undef) ?hi13x2 (by kernel_rfl) (by kernel_rfl) (by kernel_rfl) (fun _ _ _ h => h) ?hy13x2 (by assumption) ?r13x2
                  case hi13x2 => simp only [List.getElem?_toArray, List.getElem?_cons_succ, List.getElem?_cons_zero]; rfl
                  case hy13x2 => exact Or.inr ⟨by rfl, rfl⟩
                  try simp only [Act.put, List.setIfInBounds_toArray, List.set_cons_zero, List.set_cons_succ]
                  refine wpAnyH_take (i := 14) (oi := ?o14x2) (v := undef) ?hi14x2 (by kernel_rfl) (by kernel_rfl) (by kernel_rfl) (fun _ _ _ h => h) ?hy14x2 (by assumption) ?r14x2
                  case hi14x2 => simp only [List.getElem?_toArray, List.getElem?_cons_succ, List.getElem?_cons_zero]; rfl
                  case hy14x2 => exact Or.inr ⟨by rfl, rfl⟩
                  try simp only [Act.put, List.setIfInBounds_toArray, List.set_cons_zero, List.set_cons_succ]
                  refine wpAnyH_take (i := 15) (oi := ?o15x2) (v := undef) ?hi15x2 (by kernel_rfl) (by kernel_rfl) (by kernel_rfl) (fun _ _ _ h => h) ?hy15x2 (by assumption) ?r15x2
                  case hi15x2 => simp only [List.getElem?_toArray, List.getElem?_cons_succ, List.getElem?_cons_zero]; rfl
                  case hy15x2 => exact Or.inr ⟨by rfl, rfl⟩
                  try simp only [Act.put, List.setIfInBounds_toArray, List.set_cons_zero, List.set_cons_succ]
                  refine wpAnyH_take (i := 16) (oi := ?o16x2) (v := undef) ?hi16x2 (by kernel_rfl) (by kernel_rfl) (by kernel_rfl) (fun _ _ _ h => h) ?hy16x2 (by assumption) ?r16x2
                  case hi16x2 => simp only [List.getElem?_toArray, List.getElem?_cons_succ, List.getElem?_cons_zero]; rfl
                  case hy16x2 => exact Or.inr ⟨by rfl, rfl⟩
                  try simp only [Act.put, List.setIfInBounds_toArray, List.set_cons_zero, List.set_cons_succ]
                  refine wpAnyH_take (i := 17) (oi := ?o17x2) (v := undef) ?hi17x2 (by kernel_rfl) (by kernel_rfl) (by kernel_rfl) (fun _ _ _ h => h) ?hy17x2 (by assumption) ?r17x2
                  case hi17x2 => simp only [List.getElem?_toArray, List.getElem?_cons_succ, List.getElem?_cons_zero]; rfl
                  case hy17x2 => exact Or.inr ⟨by rfl, rfl⟩
                  try simp only [Act.put, List.setIfInBounds_toArray, List.set_cons_zero, List.set_cons_succ]
                  refine wpAnyH_take (i := 18) (oi := ?o18x2) (v := undef) ?hi18x2 (by kernel_rfl) (by kernel_rfl) (by kernel_rfl) (fun _ _ _ h => h) ?hy18x2 (by assumption) ?r18x2
                  case hi18x2 => simp only [List.getElem?_toArray, List.getElem?_cons_succ, List.getElem?_cons_zero]; rfl
                  case hy18x2 => exact Or.inr ⟨by rfl, rfl⟩
                  try simp only [Act.put, List.setIfInBounds_toArray, List.set_cons_zero, List.set_cons_succ]
                  refine wpAnyH_take (i := 19) (oi := ?o19x2) (v := undef) ?hi19x2 (by kernel_rfl) (by kernel_rfl) (by kernel_rfl) (fun _ _ _ h => h) ?hy19x2 (by assumption) ?r19x2
                  case hi19x2 => simp only [List.getElem?_toArray, List.getElem?_cons_succ, List.getElem?_cons_zero]; rfl
                  case hy19x2 => exact Or.inr ⟨by rfl, rfl⟩
                  try simp only [Act.put, List.setIfInBounds_toArray, List.set_cons_zero, List.set_cons_succ]
                  refine wpAnyH_take (i := 20) (oi := ?o20x2) (v := undef) ?hi20x2 (by kernel_rfl) (by kernel_rfl) (by kernel_rfl) (fun _ _ _ h => h) ?hy20x2 (by assumption) ?r20x2
                  case hi20x2 => simp only [List.getElem?_toArray, List.getElem?_cons_succ, List.getElem?_cons_zero]; rfl
                  case hy20x2 => exact Or.inr ⟨by rfl, rfl⟩
                  try simp only [Act.put, List.setIfInBounds_toArray, List.set_cons_zero, List.set_cons_succ]
                  refine wpAnyH_take (i := 21) (oi := ?o21x2) (v := undef) ?hi21x2 (by kernel_rfl) (by kernel_rfl) (by kernel_rfl) (fun _ _ _ h => h) ?hy21x2 (by assumption) ?r21x2
                  case hi21x2 => simp only [List.getElem?_toArray, List.getElem?_cons_succ, List.getElem?_cons_zero]; rfl
                  case hy21x2 => exact Or.inr ⟨by rfl, rfl⟩
                  try simp only [Act.put, List.setIfInBounds_toArray, List.set_cons_zero, List.set_cons_succ]
                  refine wpAnyH_take (i := 22) (oi := ?o22x2) (v := undef) ?hi22x2 (by kernel_rfl) (by kernel_rfl) (by kernel_rfl) (fun _ _ _ h => h) ?hy22x2 (by assumption) ?r22x2
                  case hi22x2 => simp only [List.getElem?_toArray, List.getElem?_cons_succ, List.getElem?_cons_zero]; rfl
                  case hy22x2 => exact Or.inr ⟨by rfl, rfl⟩
                  try simp only [Act.put, List.setIfInBounds_toArray, List.set_cons_zero, List.set_cons_succ]
                  refine wpAnyH_take (i := 23) (oi := ?o23x2) (v := ?v23x2) ?hi23x2 (by kernel_rfl) (by kernel_rfl) (by kernel_rfl) (fun _ _ _ h => h) ?hy23x2 (by assumption) ?r23x2
                  case hi23x2 => simp only [List.getElem?_toArray, List.getElem?_cons_succ, List.getElem?_cons_zero]; rfl
                  case hy23x2 => exact Or.inl ⟨by rfl, by (intro w hSw; (try dsimp only at hSw); go_simp) <;> with_reducible rfl⟩
                  try simp only [Act.put, List.setIfInBounds_toArray, List.set_cons_zero, List.set_cons_succ]
                  refine wpAnyH_take (i := 24) (oi := ?o24x2) (v := ?v24x2) ?hi24x2 (by kernel_rfl) (by kernel_rfl) (by kernel_rfl) (fun _ _ _ h => h) ?hy24x2 (by assumption) ?r24x2
                  case hi24x2 => simp only [List.getElem?_toArray, List.getElem?_cons_succ, List.getElem?_cons_zero]; rfl
                  case hy24x2 => exact Or.inl ⟨by rfl, by (intro w hSw; (try dsimp only at hSw); go_simp) <;> with_reducible rfl⟩
                  try simp only [Act.put, List.setIfInBounds_toArray, List.set_cons_zero, List.set_cons_succ]
                  refine wpAnyH_take (i := 25) (oi := ?o25x2) (v := ?v25x2) ?hi25x2 (by kernel_rfl) (by kernel_rfl) (by kernel_rfl) (fun _ _ _ h => h) ?hy25x2 (by assumption) ?r25x2
                  case hi25x2 => simp only [List.getElem?_toArray, List.getElem?_cons_succ, List.getElem?_cons_zero]; rfl
                  case hy25x2 => exact Or.inl ⟨by rfl, by (intro w hSw; (try dsimp only at hSw); go_simp) <;> with_reducible rfl⟩
                  try simp only [Act.put, List.setIfInBounds_toArray, List.set_cons_zero, List.set_cons_succ]
                  refine wpAnyH_take (i := 26) (oi := ?o26x2) (v := ?v26x2) ?hi26x2 (by kernel_rfl) (by kernel_rfl) (by kernel_rfl) (fun _ _ _ h => h) ?hy26x2 (by assumption) ?r26x2
                  case hi26x2 => simp only [List.getElem?_toArray, List.getElem?_cons_succ, List.getElem?_cons_zero]; rfl
                  case hy26x2 => exact Or.inl ⟨by rfl, by (intro w hSw; (try dsimp only at hSw); go_simp) <;> with_reducible rfl⟩
                  try simp only [Act.put, List.setIfInBounds_toArray, List.set_cons_zero, List.set_cons_succ]
                  refine wpAnyH_ready (rs := [27]) (by kernel_rfl) (by simp) ?_
                  refine AllReadyH.cons (o := ?o27x2) ?hi27x2 (fun K hK => ?st27x2) AllReadyH.nil
                  case hi27x2 => simp only [List.getElem?_toArray, List.getElem?_cons_succ, List.getElem?_cons_zero]; rfl
                  go_simp
                  (go_at_call 57; refine (CF.out _ (NH.bel hHeld)).mono ?_; rintro e w' ⟨rfl, hbl⟩)
                  refine hK.out _ _ ?_ (fun hHeld => ?_)
                  · (try dsimp only); (exact NH.below hHeld hbl)
                  clear hK K
                  try simp only [Act.put, List.setIfInBounds_toArray, List.set_cons_zero, List.set_cons_succ]
                  refine wpAnyH_take (i := 28) (oi := ?o28x2) (v := ?v28x2) ?hi28x2 (by kernel_rfl) (by kernel_rfl) (by kernel_rfl) (fun _ _ _ h => h) ?hy28x2 (by assumption) ?r28x2
                  case hi28x2 => simp only [List.getElem?_toArray, List.getElem?_cons_succ, List.getElem?_cons_zero]; rfl
                  case hy28x2 => exact Or.inl ⟨by rfl, by (intro w hSw; (try dsimp only at hSw); go_simp) <;> with_reducible rfl⟩
                  try simp only [Act.put, List.setIfInBounds_toArray, List.set_cons_zero, List.set_cons_succ]
                  refine wpAnyH_take (i := 29) (oi := ?o29x2) (v := ?v29x2) ?hi29x2 (by kernel_rfl) (by kernel_rfl) (by kernel_rfl) (fun _ _ _ h => h) ?hy29x2 (by assumption) ?r29x2
                  case hi29x2 => simp only [List.getElem?_toArray, List.getElem?_cons_succ, List.getElem?_cons_zero]; rfl
                  case hy29x2 => exact Or.inl ⟨by rfl, by (intro w hSw; (try dsimp only at hSw); go_simp) <;> with_reducible rfl⟩
                  try simp only [Act.put, List.setIfInBounds_toArray, List.set_cons_zero, List.set_cons_succ]
                  refine wpAnyH_done (by kernel_rfl) ?_ _
                  refine NoPanic.normal ?_
                  have HH3 := Lib.hid hHeld
                  clear hHeld HBD
                  have HOm := Lib.hid (own_below (own_take HO.out hm2) (HH3.out.bel))
                  go_wp2_with (at_builtin; refine wpList_append_own _ rfl _ _ 89 rfl w.heap.size 3 i0 _ 1 8 Tryd.underlying89 hi hz0 hz1 hz2 rfl (by decide) _ _ _ rfl (HOm.out.alloc _) ⟨_, 0, none⟩ 1 1 [E (k : Nat)] rfl rfl (one_cell (heap_alloc_new _ _)) (one_one _) (by unfold maxLen; omega) (by omega) (by have h1 := HB.out.size; have h2 := HH3.out.bel.size; simp; omega) ?_)
                  rintro v' w4 hown hgrow -
                  have HB4 := Lib.hid (((HB.out.trans (HH3.out.bel.mono HB.out.size)).alloc (by have h1 := HB.out.size; have h2 := HH3.out.bel.size; omega) _).grown hgrow (by have h1 := HB.out.size; have h2 := HH3.out.bel.size; simp; omega) (own_ge HOm.out))
                  have HO4 : Hid (w4.ownsRow w.heap.size 3 1 v' (push n k st).length (ns (push n k st))) := Lib.hid (by rw [HPU.out]; have hh := hown; rw [List.take_of_length_le (by simp [ns])] at hh; simpa [ns] using hh)
                  obtain ⟨bo', n', cap', rfl⟩ : ∃ bo' n' cap', v' = .slice bo' n' cap' := by
                    rcases own_forms hown with ⟨rfl, _⟩ | ⟨g, cap, rfl, _⟩
                    · exact ⟨_, _, _, rfl⟩
                    · exact ⟨_, _, _, rfl⟩
                  clear hown hgrow
                  go_wp2
                  go_roundw
                  case rel => exact ⟨k + 1, push n k st, by omega, by go_num, Lib.hid (by rw [ordRun_succ HR.out hlt, HN.out, if_pos HOK.out]), HO4, HB4⟩
                  case measure => simp [intOf]; omega
                · skip
                  go_wp2_with (first
                    | (go_at_call 18; refine (CPa _).mono ?_; rintro e w1 ⟨rfl, hb1⟩; have HH1 := Lib.hid (HH0.out.below hb1); clear hb1; obtain ⟨r0, r1, r2, r3, r4, r5, r6, r7, r8, r9, _⟩ := HH1.out)
                    | (go_at_call 56; refine (COn _).mono ?_; rintro e w2 ⟨rfl, hb2⟩; have HH2 := Lib.hid (HH1.out.below hb2); clear hb2; obtain ⟨s0, s1, s2, s3, s4, s5, s6, s7, s8, s9, _⟩ := HH2.out; clear HH1))
                  have HS0 := Lib.hid (HH2.out)
                  refine wp_region_noPanic ?_
                  refine wp_region_held_drew (S := fun w' => NH wr w' wr.heap.size n) (by kernel_rfl) ?_ (fun hHeld => ?_)
                  · (try dsimp only); exact NH.drew HS0.out
                  clear HS0
                  have HBD := Lib.hid (NH.bel hHeld)
                  generalize w2.drew = w3 at *
                  refine wpAnyH_take (i := 0) (oi := ?o0x3) (v := ?v0x3) ?hi0x3 (by kernel_rfl) (by kernel_rfl) (by kernel_rfl) (fun _ _ _ h => h) ?hy0x3 (by assumption) ?r0x3
                  case hi0x3 => simp only [List.getElem?_toArray, List.getElem?_cons_succ, List.getElem?_cons_zero]; rfl
                  case hy0x3 => exact Or.inl ⟨by rfl, by (intro w hSw; (try dsimp only at hSw); go_simp) <;> with_reducible rfl⟩
                  try simp only [Act.put, List.setIfInBounds_toArray, List.set_cons_zero, List.set_cons_succ]
                  refine wpAnyH_take (i := 1) (oi := ?o1x3) (v := ?v1x3) ?hi1x3 (by kernel_rfl) (by kernel_rfl) (by kernel_rfl) (fun _ _ _ h => h) ?hy1x3 (by assumption) ?r1x3
                  case hi1x3 => simp only [List.getElem?_toArray, List.getElem?_cons_succ, List.getElem?_cons_zero]; rfl
                  case hy1x3 => exact Or.inl ⟨by rfl, by (intro w hSw; (try dsimp only at hSw); go_simp) <;> with_reducible rfl⟩
                  try simp only [Act.put, List.setIfInBounds_toArray, List.set_cons_zero, List.set_cons_succ]
                  refine wpAnyH_take (i := 2) (oi := ?o2x3) (v := ?v2x3) ?hi2x3 (by kernel_rfl) (by kernel_rfl) (by kernel_rfl) (fun _ _ _ h => h) ?hy2x3 (by assumption) ?r2x3
                  case hi2x3 => simp only [List.getElem?_toArray, List.getElem?_cons_succ, List.getElem?_cons_zero]; rfl
                  case hy2x3 => exact Or.inl ⟨by rfl, by (intro w hSw; (try dsimp only at hSw); go_simp) <;> with_reducible rfl⟩
                  try simp only [Act.put, List.setIfInBounds_toArray, List.set_cons_zero, List.set_cons_succ]
                  refine wpAnyH_take (i := 3) (oi := ?o3x3) (v := ?v3x3) ?hi3x3 (by kernel_rfl) (by kernel_rfl) (by kernel_rfl) (fun _ _ _ h => h) ?hy3x3 (by assumption) ?r3x3
                  case hi3x3 => simp only [List.getElem?_toArray, List.getElem?_cons_succ, List.getElem?_cons_zero]; rfl
                  case hy3x3 => exact Or.inl ⟨by rfl, by (intro w hSw; (try dsimp only at hSw); go_simp) <;> with_reducible rfl⟩
                  try simp only [Act.put, List.setIfInBounds_toArray, List.set_cons_zero, List.set_cons_succ]
                  refine wpAnyH_take (i := 4) (oi := ?o4x3) (v := undef) ?hi4x3 (by kernel_rfl) (by kernel_rfl) (by kernel_rfl) (fun _ _ _ h => h) ?hy4x3 (by assumption) ?r4x3
                  case hi4x3 => simp only [List.getElem?_toArray, List.getElem?_cons_succ, List.getElem?_cons_zero]; rfl
                  case hy4x3 => exact Or.inr ⟨by rfl, rfl⟩
                  try simp only [Act.put, List.setIfInBounds_toArray, List.set_cons_zero, List.set_cons_succ]
                  refine wpAnyH_take (i := 5) (oi := ?o5x3) (v := undef) ?hi5x3 (by kernel_rfl) (by kernel_rfl) (by kernel_rfl) (fun _ _ _ h => h) ?hy5x3 (by assumption) ?r5x3
                  case hi5x3 => simp only [List.getElem?_toArray, List.getElem?_cons_succ, List.getElem?_cons_zero]; rfl
                  case hy5x3 => exact Or.inr ⟨by rfl, rfl⟩
                  try simp only [Act.put, List.setIfInBounds_toArray, List.set_cons_zero, List.set_cons_succ]
                  refine wpAnyH_take (i := 6) (oi := ?o6x3) (v := undef) ?hi6x3 (by kernel_rfl) (by kernel_rfl) (by kernel_rfl) (fun _ _ _ h => h) ?hy6x3 (by assumption) ?r6x3
                  case hi6x3 => simp only [List.getElem?_toArray, List.getElem?_cons_succ, List.getElem?_cons_zero]; rfl
                  case hy6x3 => exact Or.inr ⟨by rfl, rfl⟩
                  try simp only [Act.put, List.setIfInBounds_toArray, List.set_cons_zero, List.set_cons_succ]
                  refine wpAnyH_take (i := 7) (oi := ?o7x3) (v := undef) ?hi7x3 (by kernel_rfl) (by kernel_rfl) (by kernel_rfl) (fun _ _ _ h => h) ?hy7x3 (by assumption) ?r7x3
                  case hi7x3 => simp only [List.getElem?_toArray, List.getElem?_cons_succ, List.getElem?_cons_zero]; rfl
                  case hy7x3 => exact Or.inr ⟨by rfl, rfl⟩
                  try simp only [Act.put, List.setIfInBounds_toArray, List.set_cons_zero, List.set_cons_succ]
                  refine wpAnyH_take (i := 8) (oi := ?o8x3) (v := undef) ?hi8x3 (by kernel_rfl) (by kernel_rfl) (by kernel_rfl) (fun _ _ _ h => h) ?hy8x3 (by assumption) ?r8x3
                  case hi8x3 => simp only [List.getElem?_toArray, List.getElem?_cons_succ, List.getElem?_cons_zero]; rfl
                  case hy8x3 => exact Or.inr ⟨by rfl, rfl⟩
                  try simp only [Act.put, List.setIfInBounds_toArray, List.set_cons_zero, List.set_cons_succ]
                  refine wpAnyH_take (i := 9) (oi := ?o9x3) (v := undef) ?hi9x3 (by kernel_rfl) (by kernel_rfl) (by kernel_rfl) (fun _ _ _ h => h) ?hy9x3 (by assumption) ?r9x3
                  case hi9x3 => simp only [List.getElem?_toArray, List.getElem?_cons_succ, List.getElem?_cons_zero]; rfl
                  case hy9x3 => exact Or.inr ⟨by rfl, rfl⟩
                  try simp only [Act.put, List.setIfInBounds_toArray, List.set_cons_zero, List.set_cons_succ]
                  refine wpAnyH_take (i := 10) (oi := ?o10x3) (v := undef) ?hi10x3 (by kernel_rfl) (by kernel_rfl) (by kernel_rfl) (fun _ _ _ h => h) ?hy10x3 (by assumption) ?r10x3
                  case hi10x3 => simp only [List.getElem?_toArray, List.getElem?_cons_succ, List.getElem?_cons_zero]; rfl
                  case hy10x3 => exact Or.inr ⟨by rfl, rfl⟩
                  try simp only [Act.put, List.setIfInBounds_toArray, List.set_cons_zero, List.set_cons_succ]
                  refine wpAnyH_take (i := 11) (oi := ?o11x3) (v := undef) ?hi11x3 (by kernel_rfl) (by kernel_rfl) (by kernel_rfl) (fun _ _ _ h => h) ?hy11x3 (by assumption) ?r11x3
                  case hi11x3 => simp only [List.getElem?_toArray, List.getElem?_cons_succ, List.getElem?_cons_zero]; rfl
                  case hy11x3 => exact Or.inr ⟨by rfl, rfl⟩
                  try simp only [Act.put, List.setIfInBounds_toArray, List.set_cons_zero, List.set_cons_succ]
                  refine wpAnyH_take (i := 12) (oi := ?o12x3) (v := undef) ?hi12x3 (by kernel_rfl) (by kernel_rfl) (by kernel_rfl) (fun _ _ _ h => h) ?hy12x3 (by assumption) ?r12x3
                  case hi12x3 => simp only [List.getElem?_toArray, List.getElem?_cons_succ, List.getElem?_cons_zero]; rfl
                  case hy12x3 => exact Or.inr ⟨by rfl, rfl⟩
                  try simp only [Act.put, List.setIfInBounds_toArray, List.set_cons_zero, List.set_cons_succ]
                  refine wpAnyH_take (i := 13) (oi := ?o13x3) (v := undef) ?hi13x3 (by kernel_rfl) (by kernel_rfl) (by kernel_rfl) (fun _ _ _ h => h) ?hy13x3 (by assumption) ?r13x3
                  case hi13x3 => simp only [List.getElem?_toArray, List.getElem?_cons_succ, List.getElem?_cons_zero]; rfl
                  case hy13x3 => exact Or.inr ⟨by rfl, rfl⟩
                  try simp only [Act.put, List.setIfInBounds_toArray, List.set_cons_zero, List.set_cons_succ]
                  refine wpAnyH_take (i := 14) (oi := ?o14x3) (v := undef) ?hi14x3 (by kernel_rfl) (by kernel_rfl) (by kernel_rfl) (fun _ _ _ h => h) ?hy14x3 (by assumption) ?r14x3
                  case hi14x3 => simp only [List.getElem?_toArray, List.getElem?_cons_succ, List.getElem?_cons_zero]; rfl
                  case hy14x3 => exact Or.inr ⟨by rfl, rfl⟩
                  try simp only [Act.put, List.setIfInBounds_toArray, List.set_cons_zero, List.set_cons_succ]
                  refine wpAnyH_take (i := 15) (oi := ?o15x3) (v := undef) ?hi15x3 (by kernel_rfl) (by kernel_rfl) (by kernel_rfl) (fun _ _ _ h => h) ?hy15x3 (by assumption) ?r15x3
                  case hi15x3 => simp only [List.getElem?_toArray, List.getElem?_cons_succ, List.getElem?_cons_zero]; rfl
                  case hy15x3 => exact Or.inr ⟨by rfl, rfl⟩
                  try simp only [Act.put, List.setIfInBounds_toArray, List.set_cons_zero, List.set_cons_succ]
                  refine wpAnyH_take (i := 16) (oi := ?o16x3) (v := undef) ?hi16x3 (by kernel_rfl) (by kernel_rfl) (by kernel_rfl) (fun _ _ _ h => h) ?hy16x3 (by assumption) ?r16x3
                  case hi16x3 => simp only [List.getElem?_toArray, List.getElem?_cons_succ, List.getElem?_cons_zero]; rfl
                  case hy16x3 => exact Or.inr ⟨by rfl, rfl⟩
                  try simp only [Act.put, List.setIfInBounds_toArray, List.set_cons_zero, List.set_cons_succ]
                  refine wpAnyH_take (i := 17) (oi := ?o17x3) (v := undef) ?hi17x3 (by kernel_rfl) (by kernel_rfl) (by kernel_rfl) (fun _ _ _ h => h) ?hy17x3 (by assumption) ?r17x3
                  case hi17x3 => simp only [List.getElem?_toArray, List.getElem?_cons_succ, List.getElem?_cons_zero]; rfl
                  case hy17x3 => exact Or.inr ⟨by rfl, rfl⟩
                  try simp only [Act.put, List.setIfInBounds_toArray, List.set_cons_zero, List.set_cons_succ]
                  refine wpAnyH_take (i := 18) (oi := ?o18x3) (v := undef) ?hi18x3 (by kernel_rfl) (by kernel_rfl) (by kernel_rfl) (fun _ _ _ h => h) ?hy18x3 (by assumption) ?r18x3
                  case hi18x3 => simp only [List.getElem?_toArray, List.getElem?_cons_succ, List.getElem?_cons_zero]; rfl
                  case hy18x3 => exact Or.inr ⟨by rfl, rfl⟩
                  try simp only [Act.put, List.setIfInBounds_toArray, List.set_cons_zero, List.set_cons_succ]
                  refine wpAnyH_take (i := 19) (oi := ?o19x3) (v := undef) ?hi19x3 (by kernel_rfl) (by kernel_rfl) (by kernel_rfl) (fun _ _ _ h => h) ?hy19x3 (by assumption) ?r19x3
                  case hi19x3 => simp only [List.getElem?_toArray, List.getElem?_cons_succ, List.getElem?_cons_zero]; rfl
                  case hy19x3 => exact Or.inr ⟨by rfl, rfl⟩
                  try simp only [Act.put, List.setIfInBounds_toArray, List.set_cons_zero, List.set_cons_succ]
                  refine wpAnyH_take (i := 20) (oi := ?o20x3) (v := undef) ?hi20x3 (by kernel_rfl) (by kernel_rfl) (by kernel_rfl) (fun _ _ _ h => h) ?hy20x3 (by assumption) ?r20x3
                  case hi20x3 => simp only [List.getElem?_toArray, List.getElem?_cons_succ, List.getElem?_cons_zero]; rfl
                  case hy20x3 => exact Or.inr ⟨by rfl, rfl⟩
                  try simp only [Act.put, List.setIfInBounds_toArray, List.set_cons_zero, List.set_cons_succ]
                  refine wpAnyH_take (i := 21) (oi := ?o21x3) (v := undef) ?hi21x3 (by kernel_rfl) (by kernel_rfl) (by kernel_rfl) (fun _ _ _ h => h) ?hy21x3 (by assumption) ?r21x3
                  case hi21x3 => simp only [List.getElem?_toArray, List.getElem?_cons_succ, List.getElem?_cons_zero]; rfl
                  case hy21x3 => exact Or.inr ⟨by rfl, rfl⟩
                  try simp only [Act.put, List.setIfInBounds_toArray, List.set_cons_zero, List.set_cons_succ]
                  refine wpAnyH_take (i := 22) (oi := ?o22x3) (v := undef) ?hi22x3 (by kernel_rfl) (by kernel_rfl) (by kernel_rfl) (fun _ _ _ h => h) ?hy22x3 (by assumption) ?r22x3
                  case hi22x3 => simp only [List.getElem?_toArray, List.getElem?_cons_succ, List.getElem?_cons_zero]; rfl
                  case hy22x3 => exact Or.inr ⟨by rfl, rfl⟩
                  try simp only [Act.put, List.setIfInBounds_toArray, List.set_cons_zero, List.set_cons_succ]
                  refine wpAnyH_take (i := 23) (oi := ?o23x3) (v := ?v23x3) ?hi23x3 (by kernel_rfl) (by kernel_rfl) (by kernel_rfl) (fun _ _ _ h => h) ?hy23x3 (by assumption) ?r23x3
                  case hi23x3 => simp only [List.getElem?_toArray, List.getElem?_cons_succ, List.getElem?_cons_zero]; rfl
                  case hy23x3 => exact Or.inl ⟨by rfl, by (intro w hSw; (try dsimp only at hSw); go_simp) <;> with_reducible rfl⟩
                  try simp only [Act.put, List.setIfInBounds_toArray, List.set_cons_zero, List.set_cons_succ]
                  refine wpAnyH_take (i := 24) (oi := ?o24x3) (v := ?v24x3) ?hi24x3 (by kernel_rfl) (by kernel_rfl) (by kernel_rfl) (fun _ _ _ h => h) ?hy24x3 (by assumption) ?r24x3
                  case hi24x3 => simp only [List.getElem?_toArray, List.getElem?_cons_succ, List.getElem?_cons_zero]; rfl
                  case hy24x3 => exact Or.inl ⟨by rfl, by (intro w hSw; (try dsimp only at hSw); go_simp) <;> with_reducible rfl⟩
                  try simp only [Act.put, List.setIfInBounds_toArray, List.set_cons_zero, List.set_cons_succ]
                  refine wpAnyH_take (i := 25) (oi := ?o25x3) (v := ?v25x3) ?hi25x3 (by kernel_rfl) (by kernel_rfl) (by kernel_rfl) (fun _ _ _ h => h) ?hy25x3 (by assumption) ?r25x3
                  case hi25x3 => simp only [List.getElem?_toArray, List.getElem?_cons_succ, List.getElem?_cons_zero]; rfl
                  case hy25x3 => exact Or.inl ⟨by rfl, by (intro w hSw; (try dsimp only at hSw); go_simp) <;> with_reducible rfl⟩
                  try simp only [Act.put, List.setIfInBounds_toArray, List.set_cons_zero, List.set_cons_succ]
                  refine wpAnyH_take (i := 26) (oi := ?o26x3) (v := ?v26x3) ?hi26x3 (by kernel_rfl) (by kernel_rfl) (by kernel_rfl) (fun _ _ _ h => h) ?hy26x3 (by assumption) ?r26x3
                  case hi26x3 => simp only [List.getElem?_toArray, List.getElem?_cons_succ, List.getElem?_cons_zero]; rfl
                  case hy26x3 => exact Or.inl ⟨by rfl, by (intro w hSw; (try dsimp only at hSw); go_simp) <;> with_reducible rfl⟩
                  try simp only [Act.put, List.setIfInBounds_toArray, List.set_cons_zero, List.set_cons_succ]
                  refine wpAnyH_ready (rs := [27]) (by kernel_rfl) (by simp) ?_
                  refine AllReadyH.cons (o := ?o27x3) ?hi27x3 (fun K hK => ?st27x3) AllReadyH.nil
                  case hi27x3 => simp only [List.getElem?_toArray, List.getElem?_cons_succ, List.getElem?_cons_zero]; rfl
                  go_simp
                  (go_at_call 57; refine (CF.out _ (NH.bel hHeld)).mono ?_; rintro e w' ⟨rfl, hbl⟩)
                  refine hK.out _ _ ?_ (fun hHeld => ?_)
                  · (try dsimp only); (exact NH.below hHeld hbl)
                  clear hK K
                  try simp only [Act.put, List.setIfInBounds_toArray, List.set_cons_zero, List.set_cons_succ]
                  refine wpAnyH_take (i := 28) (oi := ?o28x3) (v := ?v28x3) ?hi28x3 (by kernel_rfl) (by kernel_rfl) (by kernel_rfl) (fun _ _ _ h => h) ?hy28x3 (by assumption) ?r28x3
                  case hi28x3 => simp only [List.getElem?_toArray, List.getElem?_cons_succ, List.getElem?_cons_zero]; rfl
                  case hy28x3 => exact Or.inl ⟨by rfl, by (intro w hSw; (try dsimp only at hSw); go_simp) <;> with_reducible rfl⟩
                  try simp only [Act.put, List.setIfInBounds_toArray, List.set_cons_zero, List.set_cons_succ]
                  refine wpAnyH_take (i := 29) (oi := ?o29x3) (v := ?v29x3) ?hi29x3 (by kernel_rfl) (by kernel_rfl) (by kernel_rfl) (fun _ _ _ h => h) ?hy29x3 (by assumption) ?r29x3
                  case hi29x3 => simp only [List.getElem?_toArray, List.getElem?_cons_succ, List.getElem?_cons_zero]; rfl
                  case hy29x3 => exact Or.inl ⟨by rfl, by (intro w hSw; (try dsimp only at hSw); go_simp) <;> with_reducible rfl⟩
                  try simp only [Act.put, List.setIfInBounds_toArray, List.set_cons_zero, List.set_cons_succ]
                  refine wpAnyH_done (by kernel_rfl) ?_ _
                  refine NoPanic.normal ?_
                  have HH3 := Lib.hid hHeld
                  clear hHeld HBD
                  have HOm := Lib.hid (own_below (own_take HO.out hm2) (HH3.out.bel))
                  go_wp2_with (at_builtin; refine wpList_append_own _ rfl _ _ 89 rfl w.heap.size 3 i0 _ 1 8 Tryd.underlying89 hi hz0 hz1 hz2 rfl (by decide) _ _ _ rfl (HOm.out.alloc _) ⟨_, 0, none⟩ 1 1 [E (k : Nat)] rfl rfl (one_cell (heap_alloc_new _ _)) (one_one _) (by unfold maxLen; omega) (by omega) (by have h1 := HB.out.size; have h2 := HH3.out.bel.size; simp; omega) ?_)
                  rintro v' w4 hown hgrow -
                  have HB4 := Lib.hid (((HB.out.trans (HH3.out.bel.mono HB.out.size)).alloc (by have h1 := HB.out.size; have h2 := HH3.out.bel.size; omega) _).grown hgrow (by have h1 := HB.out.size; have h2 := HH3.out.bel.size; simp; omega) (own_ge HOm.out))
                  have HO4 : Hid (w4.ownsRow w.heap.size 3 1 v' (push n k st).length (ns (push n k st))) := Lib.hid (by rw [HPU.out]; have hh := hown; rw [List.take_of_length_le (by simp [ns])] at hh; simpa [ns] using hh)
                  obtain ⟨bo', n', cap', rfl⟩ : ∃ bo' n' cap', v' = .slice bo' n' cap' := by
                    rcases own_forms hown with ⟨rfl, _⟩ | ⟨g, cap, rfl, _⟩
                    · exact ⟨_, _, _, rfl⟩
                    · exact ⟨_, _, _, rfl⟩
                  clear hown hgrow
                  go_wp2
                  go_roundw
                  case rel => exact ⟨k + 1, push n k st, by omega, by go_num, Lib.hid (by rw [ordRun_succ HR.out hlt, HN.out, if_pos HOK.out]), HO4, HB4⟩
                  case measure => simp [intOf]; omega
          · have hkB : (n.k == 0) = false := by simpa using hk0
            have HK0 := Lib.hid hk0
            clear hk0
            by_cases hP0 : P = 0
            · subst hP0
              have HK := Lib.hid (parts_none HP.out.symm)
              have HOK := Lib.hid (show StepOk l n st from ok_none ho (by rw [← HP.out]) (fun q => HK0.out q.1) HK.out)
              have HFI := Lib.hid (show Fits l n from HOK.out.2.2.2.2)
              have CF := Lib.hid (show ∀ W, Below wr.heap.size wr W → Calls Tryd.prog 57 #[.slice (some ⟨B0, o0, none⟩) l.length c, NV n] W fun e w' => e = .returned (.bool true) ∧ Below W.heap.size W w' from fun W hb => by
                have := HFT.out W hb (by have := HK.out; omega) (by have := HK.out; omega)
                rwa [decide_eq_true HFI.out] at this)
              have hmn : m = st.length := by have := HM.out; omega
              rcases own_forms HO.out with ⟨hv, h0⟩ | ⟨g, cap', hv, hcap⟩
              · obtain ⟨rfl, h00, rfl⟩ : bo = none ∧ st.length = 0 ∧ cap = 0 := by simpa using hv
                obtain rfl : m = 0 := by omega
                obtain rfl : st = [] := List.length_eq_zero_iff.1 h0
                clear hv h0 h00 hmn hm
                go_wp2_with (first
                  | (go_at_call 18; refine (CPa _).mono ?_; rintro e w1 ⟨rfl, hb1⟩; have HH1 := Lib.hid (HH0.out.below hb1); clear hb1; obtain ⟨r0, r1, r2, r3, r4, r5, r6, r7, r8, r9, _⟩ := HH1.out)
                  | (go_at_call 56; refine (COn _).mono ?_; rintro e w2 ⟨rfl, hb2⟩; have HH2 := Lib.hid (HH1.out.below hb2); clear hb2; obtain ⟨s0, s1, s2, s3, s4, s5, s6, s7, s8, s9, _⟩ := HH2.out; clear HH1))
                have HS0 := Lib.hid (HH2.out)
                refine wp_region_noPanic ?_
                refine wp_region_held_drew (S := fun w' => NH wr w' wr.heap.size n) (by kernel_rfl) ?_ (fun hHeld => ?_)
                · (try dsimp only); exact NH.drew HS0.out
                clear HS0
                have HBD := Lib.hid (NH.bel hHeld)
                generalize w2.drew = w3 at *
                refine wpAnyH_take (i := 0) (oi := ?o0x4) (v := ?v0x4) ?hi0x4 (by kernel_rfl) (by kernel_rfl) (by kernel_rfl) (fun _ _ _ h => h) ?hy0x4 (by assumption) ?r0x4
                case hi0x4 => simp only [List.getElem?_toArray, List.getElem?_cons_succ, List.getElem?_cons_zero]; rfl
                case hy0x4 => exact Or.inl ⟨by rfl, by (intro w hSw; (try dsimp only at hSw); go_simp) <;> with_reducible rfl⟩
                try simp only [Act.put, List.setIfInBounds_toArray, List.set_cons_zero, List.set_cons_succ]
                refine wpAnyH_take (i := 1) (oi := ?o1x4) (v := ?v1x4) ?hi1x4 (by kernel_rfl) (by kernel_rfl) (by kernel_rfl) (fun _ _ _ h => h) ?hy1x4 (by assumption) ?r1x4
                case hi1x4 => simp only [List.getElem?_toArray, List.getElem?_cons_succ, List.getElem?_cons_zero]; rfl
                case hy1x4 => exact Or.inl ⟨by rfl, by (intro w hSw; (try dsimp only at hSw); go_simp) <;> with_reducible rfl⟩
                try simp only [Act.put, List.setIfInBounds_toArray, List.set_cons_zero, List.set_cons_succ]
                refine wpAnyH_take (i := 2) (oi := ?o2x4) (v := ?v2x4) ?hi2x4 (by kernel_rfl) (by kernel_rfl) (by kernel_rfl) (fun _ _ _ h => h) ?hy2x4 (by assumption) ?r2x4
                case hi2x4 => simp only [List.getElem?_toArray, List.getElem?_cons_succ, List.getElem?_cons_zero]; rfl
                case hy2x4 => exact Or.inl ⟨by rfl, by (intro w hSw; (try dsimp only at hSw); go_simp) <;> with_reducible rfl⟩
                try simp only [Act.put, List.setIfInBounds_toArray, List.set_cons_zero, List.set_cons_succ]
                refine wpAnyH_take (i := 3) (oi := ?o3x4) (v := ?v3x4) ?hi3x4 (by kernel_rfl) (by kernel_rfl) (by kernel_rfl) (fun _ _ _ h => h) ?hy3x4 (by assumption) ?r3x4
                case hi3x4 => simp only [List.getElem?_toArray, List.getElem?_cons_succ, List.getElem?_cons_zero]; rfl
                case hy3x4 => exact Or.inl ⟨by rfl, by (intro w hSw; (try dsimp only at hSw); go_simp) <;> with_reducible rfl⟩
                try simp only [Act.put, List.setIfInBounds_toArray, List.set_cons_zero, List.set_cons_succ]
                refine wpAnyH_take (i := 4) (oi := ?o4x4) (v := undef) ?hi4x4 (by kernel_rfl) (by kernel_rfl) (by kernel_rfl) (fun _ _ _ h => h) ?hy4x4 (by assumption) ?r4x4
                case hi4x4 => simp only [List.getElem?_toArray, List.getElem?_cons_succ, List.getElem?_cons_zero]; rfl
                case hy4x4 => exact Or.inr ⟨by rfl, rfl⟩
                try simp only [Act.put, List.setIfInBounds_toArray, List.set_cons_zero, List.set_cons_succ]
                refine wpAnyH_take (i := 5) (oi := ?o5x4) (v := undef) ?hi5x4 (by kernel_rfl) (by kernel_rfl) (by kernel_rfl) (fun _ _ _ h => h) ?hy5x4 (by assumption) ?r5x4
                case hi5x4 => simp only [List.getElem?_toArray, List.getElem?_cons_succ, List.getElem?_cons_zero]; rfl
                case hy5x4 => exact Or.inr ⟨by rfl, rfl⟩
                try simp only [Act.put, List.setIfInBounds_toArray, List.set_cons_zero, List.set_cons_succ]
                refine wpAnyH_take (i := 6) (oi := ?o6x4) (v := undef) ?hi6x4 (by kernel_rfl) (by kernel_rfl) (by kernel_rfl) (fun _ _ _ h => h) ?hy6x4 (by assumption) ?r6x4
                case hi6x4 => simp only [List.getElem?_toArray, List.getElem?_cons_succ, List.getElem?_cons_zero]; rfl
                case hy6x4 => exact Or.inr ⟨by rfl, rfl⟩
                try simp only [Act.put, List.setIfInBounds_toArray, List.set_cons_zero, List.set_cons_succ]
                refine wpAnyH_take (i := 7) (oi := ?o7x4) (v := undef) ?hi7x4 (by kernel_rfl) (by kernel_rfl) (by kernel_rfl) (fun _ _ _ h => h) ?hy7x4 (by assumption) ?r7x4
                case hi7x4 => simp only [List.getElem?_toArray, List.getElem?_cons_succ, List.getElem?_cons_zero]; rfl
                case hy7x4 => exact Or.inr ⟨by rfl, rfl⟩
                try simp only [Act.put, List.setIfInBounds_toArray, List.set_cons_zero, List.set_cons_succ]
                refine wpAnyH_take (i := 8) (oi := ?o8x4) (v := undef) ?hi8x4 (by kernel_rfl) (by kernel_rfl) (by kernel_rfl) (fun _ _ _ h => h) ?hy8x4 (by assumption) ?r8x4
                case hi8x4 => simp only [List.getElem?_toArray, List.getElem?_cons_succ, List.getElem?_cons_zero]; rfl
                case hy8x4 => exact Or.inr ⟨by rfl, rfl⟩
                try simp only [Act.put, List.setIfInBounds_toArray, List.set_cons_zero, List.set_cons_succ]
                refine wpAnyH_take (i := 9) (oi := ?o9x4) (v := undef) ?hi9x4 (by kernel_rfl) (by kernel_rfl) (by kernel_rfl) (fun _ _ _ h => h) ?hy9x4 (by assumption) ?r9x4
                case hi9x4 => simp only [List.getElem?_toArray, List.getElem?_cons_succ, List.getElem?_cons_zero]; rfl
                case hy9x4 => exact Or.inr ⟨by rfl, rfl⟩
                try simp only [Act.put, List.setIfInBounds_toArray, List.set_cons_zero, List.set_cons_succ]
                refine wpAnyH_take (i := 10) (oi := ?o10x4) (v := undef) ?hi10x4 (by kernel_rfl) (by kernel_rfl) (by kernel_rfl) (fun _ _ _ h => h) ?hy10x4 (by assumption) ?r10x4
                case hi10x4 => simp only [List.getElem?_toArray, List.getElem?_cons_succ, List.getElem?_cons_zero]; rfl
                case hy10x4 => exact Or.inr ⟨by rfl, rfl⟩
                try simp only [Act.put, List.setIfInBounds_toArray, List.set_cons_zero, List.set_cons_succ]
                refine wpAnyH_take (i := 11) (oi := ?o11x4) (v := undef) ?hi11x4 (by kernel_rfl) (by kernel_rfl) (by kernel_rfl) (fun _ _ _ h => h) ?hy11x4 (by assumption) ?r11x4
                case hi11x4 => simp only [List.getElem?_toArray, List.getElem?_cons_succ, List.getElem?_cons_zero]; rfl
                case hy11x4 => exact Or.inr ⟨by rfl, rfl⟩
                try simp only [Act.put, List.setIfInBounds_toArray, List.set_cons_zero, List.set_cons_succ]
                refine wpAnyH_take (i := 12) (oi := ?o12x4) (v := undef) ?hi12x4 (by kernel_rfl) (by kernel_rfl) (by kernel_rfl) (fun _ _ _ h => h) ?hy12x4 (by assumption) ?r12x4
                case hi12x4 => simp only [List.getElem?_toArray, List.getElem?_cons_succ, List.getElem?_cons_zero]; rfl
                case hy12x4 => exact Or.inr ⟨by rfl, rfl⟩
                try simp only [Act.put, List.setIfInBounds_toArray, List.set_cons_zero, List.set_cons_succ]
                refine wpAnyH_take (i := 13) (oi := ?o13x4) (v := undef) ?hi13x4 (by kernel_rfl) (by kernel_rfl) (by kernel_rfl) (fun _ _ _ h => h) ?hy13x4 (by assumption) ?r13x4
                case hi13x4 => simp only [List.getElem?_toArray, List.getElem?_cons_succ, List.getElem?_cons_zero]; rfl
                case hy13x4 => exact Or.inr ⟨by rfl, rfl⟩
                try simp only [Act.put, List.setIfInBounds_toArray, List.set_cons_zero, List.set_cons_succ]
                refine wpAnyH_take (i := 14) (oi := ?o14x4) (v := undef) ?hi14x4 (by kernel_rfl) (by kernel_rfl) (by kernel_rfl) (fun _ _ _ h => h) ?hy14x4 (by assumption) ?r14x4
                case hi14x4 => simp only [List.getElem?_toArray, List.getElem?_cons_succ, List.getElem?_cons_zero]; rfl
                case hy14x4 => exact Or.inr ⟨by rfl, rfl⟩
                try simp only [Act.put, List.setIfInBounds_toArray, List.set_cons_zero, List.set_cons_succ]
                refine wpAnyH_take (i := 15) (oi := ?o15x4) (v := undef) ?hi15x4 (by kernel_rfl) (by kernel_rfl) (by kernel_rfl) (fun _ _ _ h => h) ?hy15x4 (by assumption) ?r15x4
                case hi15x4 => simp only [List.getElem?_toArray, List.getElem?_cons_succ, List.getElem?_cons_zero]; rfl
                case hy15x4 => exact Or.inr ⟨by rfl, rfl⟩
                try simp only [Act.put, List.setIfInBounds_toArray, List.set_cons_zero, List.set_cons_succ]
                refine wpAnyH_take (i := 16) (oi := ?o16x4) (v := undef) ?hi16x4 (by kernel_rfl) (by kernel_rfl) (by kernel_rfl) (fun _ _ _ h => h) ?hy16x4 (by assumption) ?r16x4
                case hi16x4 => simp only [List.getElem?_toArray, List.getElem?_cons_succ, List.getElem?_cons_zero]; rfl
                case hy16x4 => exact Or.inr ⟨by rfl, rfl⟩
                try simp only [Act.put, List.setIfInBounds_toArray, List.set_cons_zero, List.set_cons_succ]
                refine wpAnyH_take (i := 17) (oi := ?o17x4) (v := undef) ?hi17x4 (by kernel_rfl) (by kernel_rfl) (by kernel_rfl) (fun _ _ _ h => h) ?hy17x4 (by assumption) ?r17x4
                case hi17x4 => simp only [List.getElem?_toArray, List.getElem?_cons_succ, List.getElem?_cons_zero]; rfl
                case hy17x4 => exact Or.inr ⟨by rfl, rfl⟩
                try simp only [Act.put, List.setIfInBounds_toArray, List.set_cons_zero, List.set_cons_succ]
                refine wpAnyH_take (i := 18) (oi := ?o18x4) (v := undef) ?hi18x4 (by kernel_rfl) (by kernel_rfl) (by kernel_rfl) (fun _ _ _ h => h) ?hy18x4 (by assumption) ?r18x4
                case hi18x4 => simp only [List.getElem?_toArray, List.getElem?_cons_succ, List.getElem?_cons_zero]; rfl
                case hy18x4 => exact Or.inr ⟨by rfl, rfl⟩
                try simp only [Act.put, List.setIfInBounds_toArray, List.set_cons_zero, List.set_cons_succ]
                refine wpAnyH_take (i := 19) (oi := ?o19x4) (v := undef) ?hi19x4 (by kernel_rfl) (by kernel_rfl) (by kernel_rfl) (fun _ _ _ h => h) ?hy19x4 (by assumption) ?r19x4
                case hi19x4 => simp only [List.getElem?_toArray, List.getElem?_cons_succ, List.getElem?_cons_zero]; rfl
                case hy19x4 => exact Or.inr ⟨by rfl, rfl⟩
                try simp only [Act.put, List.setIfInBounds_toArray, List.set_cons_zero, List.set_cons_succ]
                refine wpAnyH_take (i := 20) (oi := ?o20x4) (v := undef) ?hi20x4 (by kernel_rfl) (by kernel_rfl) (by kernel_rfl) (fun _ _ _ h => h) ?hy20x4 (by assumption) ?r20x4
                case hi20x4 => simp only [List.getElem?_toArray, List.getElem?_cons_succ, List.getElem?_cons_zero]; rfl
                case hy20x4 => exact Or.inr ⟨by rfl, rfl⟩
                try simp only [Act.put, List.setIfInBounds_toArray, List.set_cons_zero, List.set_cons_succ]
                refine wpAnyH_take (i := 21) (oi := ?o21x4) (v := undef) ?hi21x4 (by kernel_rfl) (by kernel_rfl) (by kernel_rfl) (fun _ _ _ h => h) ?hy21x4 (by assumption) ?r21x4
                case hi21x4 => simp only [List.getElem?_toArray, List.getElem?_cons_succ, List.getElem?_cons_zero]; rfl
                case hy21x4 => exact Or.inr ⟨by rfl, rfl⟩
                try simp only [Act.put, List.setIfInBounds_toArray, List.set_cons_zero, List.set_cons_succ]
                refine wpAnyH_take (i := 22) (oi := ?o22x4) (v := undef) ?hi22x4 (by kernel_rfl) (by kernel_rfl) (by kernel_rfl) (fun _ _ _ h => h) ?hy22x4 (by assumption) ?r22x4
                case hi22x4 => simp only [List.getElem?_toArray, List.getElem?_cons_succ, List.getElem?_cons_zero]; rfl
                case hy22x4 => exact Or.inr ⟨by rfl, rfl⟩
                try simp only [Act.put, List.setIfInBounds_toArray, List.set_cons_zero, List.set_cons_succ]
                refine wpAnyH_take (i := 23) (oi := ?o23x4) (v := ?v23x4) ?hi23x4 (by kernel_rfl) (by kernel_rfl) (by kernel_rfl) (fun _ _ _ h => h) ?hy23x4 (by assumption) ?r23x4
                case hi23x4 => simp only [List.getElem?_toArray, List.getElem?_cons_succ, List.getElem?_cons_zero]; rfl
                case hy23x4 => exact Or.inl ⟨by rfl, by (intro w hSw; (try dsimp only at hSw); go_simp) <;> with_reducible rfl⟩
                try simp only [Act.put, List.setIfInBounds_toArray, List.set_cons_zero, List.set_cons_succ]
                refine wpAnyH_take (i := 24) (oi := ?o24x4) (v := ?v24x4) ?hi24x4 (by kernel_rfl) (by kernel_rfl) (by kernel_rfl) (fun _ _ _ h => h) ?hy24x4 (by assumption) ?r24x4
                case hi24x4 => simp only [List.getElem?_toArray, List.getElem?_cons_succ, List.getElem?_cons_zero]; rfl
                case hy24x4 => exact Or.inl ⟨by rfl, by (intro w hSw; (try dsimp only at hSw); go_simp) <;> with_reducible rfl⟩
                try simp only [Act.put, List.setIfInBounds_toArray, List.set_cons_zero, List.set_cons_succ]
                refine wpAnyH_take (i := 25) (oi := ?o25x4) (v := ?v25x4) ?hi25x4 (by kernel_rfl) (by kernel_rfl) (by kernel_rfl) (fun _ _ _ h => h) ?hy25x4 (by assumption) ?r25x4
                case hi25x4 => simp only [List.getElem?_toArray, List.getElem?_cons_succ, List.getElem?_cons_zero]; rfl
                case hy25x4 => exact Or.inl ⟨by rfl, by (intro w hSw; (try dsimp only at hSw); go_simp) <;> with_reducible rfl⟩
                try simp only [Act.put, List.setIfInBounds_toArray, List.set_cons_zero, List.set_cons_succ]
                refine wpAnyH_take (i := 26) (oi := ?o26x4) (v := ?v26x4) ?hi26x4 (by kernel_rfl) (by kernel_rfl) (by kernel_rfl) (fun _ _ _ h => h) ?hy26x4 (by assumption) ?r26x4
                case hi26x4 => simp only [List.getElem?_toArray, List.getElem?_cons_succ, List.getElem?_cons_zero]; rfl
                case hy26x4 => exact Or.inl ⟨by rfl, by (intro w hSw; (try dsimp only at hSw); go_simp) <;> with_reducible rfl⟩
                try simp only [Act.put, List.setIfInBounds_toArray, List.set_cons_zero, List.set_cons_succ]
                refine wpAnyH_ready (rs := [27]) (by kernel_rfl) (by simp) ?_
                refine AllReadyH.cons (o := ?o27x4) ?hi27x4 (fun K hK => ?st27x4) AllReadyH.nil
                case hi27x4 => simp only [List.getElem?_toArray, List.getElem?_cons_succ, List.getElem?_cons_zero]; rfl
                go_simp
                (go_at_call 57; refine (CF.out _ (NH.bel hHeld)).mono ?_; rintro e w' ⟨rfl, hbl⟩)
                refine hK.out _ _ ?_ (fun hHeld => ?_)
                · (try dsimp only); (exact NH.below hHeld hbl)
                clear hK K
                try simp only [Act.put, List.setIfInBounds_toArray, List.set_cons_zero, List.set_cons_succ]
                refine wpAnyH_take (i := 28) (oi := ?o28x4) (v := ?v28x4) ?hi28x4 (by kernel_rfl) (by kernel_rfl) (by kernel_rfl) (fun _ _ _ h => h) ?hy28x4 (by assumption) ?r28x4
                case hi28x4 => simp only [List.getElem?_toArray, List.getElem?_cons_succ, List.getElem?_cons_zero]; rfl
                case hy28x4 => exact Or.inl ⟨by rfl, by (intro w hSw; (try dsimp only at hSw); go_simp) <;> with_reducible rfl⟩
                try simp only [Act.put, List.setIfInBounds_toArray, List.set_cons_zero, List.set_cons_succ]
                refine wpAnyH_take (i := 29) (oi := ?o29x4) (v := ?v29x4) ?hi29x4 (by kernel_rfl) (by kernel_rfl) (by kernel_rfl) (fun _ _ _ h => h) ?hy29x4 (by assumption) ?r29x4
                case hi29x4 => simp only [List.getElem?_toArray, List.getElem?_cons_succ, List.getElem?_cons_zero]; rfl
                case hy29x4 => exact Or.inl ⟨by rfl, by (intro w hSw; (try dsimp only at hSw); go_simp) <;> with_reducible rfl⟩
                try simp only [Act.put, List.setIfInBounds_toArray, List.set_cons_zero, List.set_cons_succ]
                refine wpAnyH_done (by kernel_rfl) ?_ _
                refine NoPanic.normal ?_
                have HH3 := Lib.hid hHeld
                clear hHeld HBD
                have HOm := Lib.hid (own_below HO.out (HH3.out.bel))
                go_wp2_with (at_builtin; refine wpList_append_own _ rfl _ _ 89 rfl w.heap.size 3 i0 _ 1 8 Tryd.underlying89 hi hz0 hz1 hz2 rfl (by decide) _ _ _ rfl (HOm.out.alloc _) ⟨_, 0, none⟩ 1 1 [E (k : Nat)] rfl rfl (one_cell (heap_alloc_new _ _)) (one_one _) (by unfold maxLen; omega) (by omega) (by have h1 := HB.out.size; have h2 := HH3.out.bel.size; simp; omega) ?_)
                rintro v' w4 hown hgrow -
                have HB4 := Lib.hid (((HB.out.trans (HH3.out.bel.mono HB.out.size)).alloc (by have h1 := HB.out.size; have h2 := HH3.out.bel.size; omega) _).grown hgrow (by have h1 := HB.out.size; have h2 := HH3.out.bel.size; simp; omega) (own_ge HOm.out))
                have HO4 : Hid (w4.ownsRow w.heap.size 3 1 v' (push n k ([] : List Nat)).length (ns (push n k ([] : List Nat)))) := Lib.hid (by rw [HPU.out]; simpa [HM.out, ns] using hown)
                obtain ⟨bo', n', cap', rfl⟩ : ∃ bo' n' cap', v' = .slice bo' n' cap' := by
                  rcases own_forms hown with ⟨rfl, _⟩ | ⟨g, cap, rfl, _⟩
                  · exact ⟨_, _, _, rfl⟩
                  · exact ⟨_, _, _, rfl⟩
                clear hown hgrow
                go_wp2
                go_roundw
                case rel => exact ⟨k + 1, push n k ([] : List Nat), by omega, by go_num, Lib.hid (by rw [ordRun_succ HR.out hlt, HN.out, if_pos HOK.out]), HO4, HB4⟩
                case measure => simp [intOf]; omega
              · obtain ⟨rfl, rfl⟩ : bo = some ⟨g, 0, none⟩ ∧ cap = cap' := by simpa using hv
                have hcap' : ((st.length : Nat) : Int) ≤ (cap : Int) := by omega
                clear hv
                clear hm
                subst hmn
                by_cases hcs : cap = st.length
                · subst hcs
                  go_wp2_with (first
                    | (go_at_call 18; refine (CPa _).mono ?_; rintro e w1 ⟨rfl, hb1⟩; have HH1 := Lib.hid (HH0.out.below hb1); clear hb1; obtain ⟨r0, r1, r2, r3, r4, r5, r6, r7, r8, r9, _⟩ := HH1.out)
                    | (go_at_call 56; refine (COn _).mono ?_; rintro e w2 ⟨rfl, hb2⟩; have HH2 := Lib.hid (HH1.out.below hb2); clear hb2; obtain ⟨s0, s1, s2, s3, s4, s5, s6, s7, s8, s9, _⟩ := HH2.out; clear HH1))
                  have HS0 := Lib.hid (HH2.out)
                  refine wp_region_noPanic ?_
                  refine wp_region_held_drew (S := fun w' => NH wr w' wr.heap.size n) (by kernel_rfl) ?_ (fun hHeld => ?_)
                  · (try dsimp only); exact NH.drew HS0.out
                  clear HS0
                  have HBD := Lib.hid (NH.bel hHeld)
                  generalize w2.drew = w3 at *
                  refine wpAnyH_take (i := 0) (oi := ?o0x5) (v := ?v0x5) ?hi0x5 (by kernel_rfl) (by kernel_rfl) (by kernel_rfl) (fun _ _ _ h => h) ?hy0x5 (by assumption) ?r0x5
                  case hi0x5 => simp only [List.getElem?_toArray, List.getElem?_cons_succ, List.getElem?_cons_zero]; rfl
                  case hy0x5 => exact Or.inl ⟨by rfl, by (intro w hSw; (try dsimp only at hSw); go_simp) <;> with_reducible rfl⟩
                  try simp only [Act.put, List.setIfInBounds_toArray, List.set_cons_zero, List.set_cons_succ]
                  refine wpAnyH_take (i := 1) (oi := ?o1x5) (v := ?v1x5) ?hi1x5 (by kernel_rfl) (by kernel_rfl) (by kernel_rfl) (fun _ _ _ h => h) ?hy1x5 (by assumption) ?r1x5
                  case hi1x5 => simp only [List.getElem?_toArray, List.getElem?_cons_succ, List.getElem?_cons_zero]; rfl
                  case hy1x5 => exact Or.inl ⟨by rfl, by (intro w hSw; (try dsimp only at hSw); go_simp) <;> with_reducible rfl⟩
                  try simp only [Act.put, List.setIfInBounds_toArray, List.set_cons_zero, List.set_cons_succ]
                  refine wpAnyH_take (i := 2) (oi := ?o2x5) (v := ?v2x5) ?hi2x5 (by kernel_rfl) (by kernel_rfl) (by kernel_rfl) (fun _ _ _ h => h) ?hy2x5 (by assumption) ?r2x5
                  case hi2x5 => simp only [List.getElem?_toArray, List.getElem?_cons_succ, List.getElem?_cons_zero]; rfl
                  case hy2x5 => exact Or.inl ⟨by rfl, by (intro w hSw; (try dsimp only at hSw); go_simp) <;> with_reducible rfl⟩
                  try simp only [Act.put, List.setIfInBounds_toArray, List.set_cons_zero, List.set_cons_succ]
                  refine wpAnyH_take (i := 3) (oi := ?o3x5) (v := ?v3x5) ?hi3x5 (by kernel_rfl) (by kernel_rfl) (by kernel_rfl) (fun _ _ _ h => h) ?hy3x5 (by assumption) ?r3x5
                  case hi3x5 => simp only [List.getElem?_toArray, List.getElem?_cons_succ, List.getElem?_cons_zero]; rfl
                  case hy3x5 => exact Or.inl ⟨by rfl, by (intro w hSw; (try dsimp only at hSw); go_simp) <;> with_reducible rfl⟩
                  try simp only [Act.put, List.setIfInBounds_toArray, List.set_cons_zero, List.set_cons_succ]
                  refine wpAnyH_take (i := 4) (oi := ?o4x5) (v := undef) ?hi4x5 (by kernel_rfl) (by kernel_rfl) (by kernel_rfl) (fun _ _ _ h => h) ?hy4x5 (by assumption) ?r4x5
                  case hi4x5 => simp only [List.getElem?_toArray, List.getElem?_cons_succ, List.getElem?_cons_zero]; rfl
                  case hy4x5 => exact Or.inr ⟨by rfl, rfl⟩
                  try simp only [Act.put, List.setIfInBounds_toArray, List.set_cons_zero, List.set_cons_succ]
                  refine wpAnyH_take (i := 5) (oi := ?o5x5) (v := undef) ?hi5x5 (by kernel_rfl) (by kernel_rfl) (by kernel_rfl) (fun _ _ _ h => h) ?hy5x5 (by assumption) ?r5x5
                  case hi5x5 => simp only [List.getElem?_toArray, List.getElem?_cons_succ, List.getElem?_cons_zero]; rfl
                  case hy5x5 => exact Or.inr ⟨by rfl, rfl⟩
                  try simp only [Act.put, List.setIfInBounds_toArray, List.set_cons_zero, List.set_cons_succ]
                  refine wpAnyH_take (i := 6) (oi := ?o6x5) (v := undef) ?hi6x5 (by kernel_rfl) (by kernel_rfl) (by kernel_rfl) (fun _ _ _ h => h) ?hy6x5 (by assumption) ?r6x5
                  case hi6x5 => simp only [List.getElem?_toArray, List.getElem?_cons_succ, List.getElem?_cons_zero]; rfl
                  case hy6x5 => exact Or.inr ⟨by rfl, rfl⟩
                  try simp only [Act.put, List.setIfInBounds_toArray, List.set_cons_zero, List.set_cons_succ]
                  refine wpAnyH_take (i := 7) (oi := ?o7x5) (v := undef) ?hi7x5 (by kernel_rfl) (by kernel_rfl) (by kernel_rfl) (fun _ _ _ h => h) ?hy7x5 (by assumption) ?r7x5
                  case hi7x5 => simp only [List.getElem?_toArray, List.getElem?_cons_succ, List.getElem?_cons_zero]; rfl
                  case hy7x5 => exact Or.inr ⟨by rfl, rfl⟩
                  try simp only [Act.put, List.setIfInBounds_toArray, List.set_cons_zero, List.set_cons_succ]
                  refine wpAnyH_take (i := 8) (oi := ?o8x5) (v := undef) ?hi8x5 (by kernel_rfl) (by kernel_rfl) (by kernel_rfl) (fun _ _ _ h => h) ?hy8x5 (by assumption) ?r8x5
                  case hi8x5 => simp only [List.getElem?_toArray, List.getElem?_cons_succ, List.getElem?_cons_zero]; rfl
                  case hy8x5 => exact Or.inr ⟨by rfl, rfl⟩
                  try simp only [Act.put, List.setIfInBounds_toArray, List.set_cons_zero, List.set_cons_succ]
                  refine wpAnyH_take (i := 9) (oi := ?o9x5) (v := undef) ?hi9x5 (by kernel_rfl) (by kernel_rfl) (by kernel_rfl) (fun _ _ _ h => h) ?hy9x5 (by assumption) ?r9x5
                  case hi9x5 => simp only [List.getElem?_toArray, List.getElem?_cons_succ, List.getElem?_cons_zero]; rfl
                  case hy9x5 => exact Or.inr ⟨by rfl, rfl⟩
                  try simp only [Act.put, List.setIfInBounds_toArray, List.set_cons_zero, List.set_cons_succ]
                  refine wpAnyH_take (i := 10) (oi := ?o10x5) (v := undef) ?hi10x5 (by kernel_rfl) (by kernel_rfl) (by kernel_rfl) (fun _ _ _ h => h) ?hy10x5 (by assumption) ?r10x5
                  case hi10x5 => simp only [List.getElem?_toArray, List.getElem?_cons_succ, List.getElem?_cons_zero]; rfl
                  case hy10x5 => exact Or.inr ⟨by rfl, rfl⟩
                  try simp only [Act.put, List.setIfInBounds_toArray, List.set_cons_zero, List.set_cons_succ]
                  refine wpAnyH_take (i := 11) (oi := ?o11x5) (v := undef) ?hi11x5 (by kernel_rfl) (by kernel_rfl) (by kernel_rfl) (fun _ _ _ h => h) ?hy11x5 (by assumption) ?r11x5
                  case hi11x5 => simp only [List.getElem?_toArray, List.getElem?_cons_succ, List.getElem?_cons_zero]; rfl
                  case hy11x5 => exact Or.inr ⟨by rfl, rfl⟩
                  try simp only [Act.put, List.setIfInBounds_toArray, List.set_cons_zero, List.set_cons_succ]
                  refine wpAnyH_take (i := 12) (oi := ?o12x5) (v := undef) ?hi12x5 (by kernel_rfl) (by kernel_rfl) (by kernel_rfl) (fun _ _ _ h => h) ?hy12x5 (by assumption) ?r12x5
                  case hi12x5 => simp only [List.getElem?_toArray, List.getElem?_cons_succ, List.getElem?_cons_zero]; rfl
                  case hy12x5 => exact Or.inr ⟨by rfl, rfl⟩
                  try simp only [Act.put, List.setIfInBounds_toArray, List.set_cons_zero, List.set_cons_succ]
                  refine wpAnyH_take (i := 13) (oi := ?o13x5) (v := undef) ?hi13x5 (by kernel_rfl) (by kernel_rfl) (by kernel_rfl) (fun _ _ _ h => h) ?hy13x5 (by assumption) ?r13x5
                  case hi13x5 => simp only [List.getElem?_toArray, List.getElem?_cons_succ, List.getElem?_cons_zero]; rfl
                  case hy13x5 => exact Or.inr ⟨by rfl, rfl⟩
                  try simp only [Act.put, List.setIfInBounds_toArray, List.set_cons_zero, List.set_cons_succ]
                  refine wpAnyH_take (i := 14) (oi := ?o14x5) (v := undef) ?hi14x5 (by kernel_rfl) (by kernel_rfl) (by kernel_rfl) (fun _ _ _ h => h) ?hy14x5 (by assumption) ?r14x5
                  case hi14x5 => simp only [List.getElem?_toArray, List.getElem?_cons_succ, List.getElem?_cons_zero]; rfl
                  case hy14x5 => exact Or.inr ⟨by rfl, rfl⟩
                  try simp only [Act.put, List.setIfInBounds_toArray, List.set_cons_zero, List.set_cons_succ]
                  refine wpAnyH_take (i := 15) (oi := ?o15x5) (v := undef) ?hi15x5 (by kernel_rfl) (by kernel_rfl) (by kernel_rfl) (fun _ _ _ h => h) ?hy15x5 (by assumption) ?r15x5
                  case hi15x5 => simp only [List.getElem?_toArray, List.getElem?_cons_succ, List.getElem?_cons_zero]; rfl
                  case hy15x5 => exact Or.inr ⟨by rfl, rfl⟩
                  try simp only [Act.put, List.setIfInBounds_toArray, List.set_cons_zero, List.set_cons_succ]
                  refine wpAnyH_take (i := 16) (oi := ?o16x5) (v := undef) ?hi16x5 (by kernel_rfl) (by kernel_rfl) (by kernel_rfl) (fun _ _ _ h => h) ?hy16x5 (by assumption) ?r16x5
                  case hi16x5 => simp only [List.getElem?_toArray, List.getElem?_cons_succ, List.getElem?_cons_zero]; rfl
                  case hy16x5 => exact Or.inr ⟨by rfl, rfl⟩
                  try simp only [Act.put, List.setIfInBounds_toArray, List.set_cons_zero, List.set_cons_succ]
                  refine wpAnyH_take (i := 17) (oi := ?o17x5) (v := undef) ?hi17x5 (by kernel_rfl) (by kernel_rfl) (by kernel_rfl) (fun _ _ _ h => h) ?hy17x5 (by assumption) ?r17x5
                  case hi17x5 => simp only [List.getElem?_toArray, List.getElem?_cons_succ, List.getElem?_cons_zero]; rfl
                  case hy17x5 => exact Or.inr ⟨by rfl, rfl⟩
                  try simp only [Act.put, List.setIfInBounds_toArray, List.set_cons_zero, List.set_cons_succ]
                  refine wpAnyH_take (i := 18) (oi := ?o18x5) (v := undef) ?hi18x5 (by kernel_rfl) (by kernel_rfl) (by kernel_rfl) (fun _ _ _ h => h) ?hy18x5 (by assumption) ?r18x5
                  case hi18x5 => simp only [List.getElem?_toArray, List.getElem?_cons_succ, List.getElem?_cons_zero]; rfl
                  case hy18x5 => exact Or.inr ⟨by rfl, rfl⟩
                  try simp only [Act.put, List.setIfInBounds_toArray, List.set_cons_zero, List.set_cons_succ]
                  refine wpAnyH_take (i := 19) (oi := ?o19x5) (v := undef) ?hi19x5 (by kernel_rfl) (by kernel_rfl) (by kernel_rfl) (fun _ _ _ h => h) ?hy19x5 (by assumption) ?r19x5
                  case hi19x5 => simp only [List.getElem?_toArray, List.getElem?_cons_succ, List.getElem?_cons_zero]; rfl
                  case hy19x5 => exact Or.inr ⟨by rfl, rfl⟩
                  try simp only [Act.put, List.setIfInBounds_toArray, List.set_cons_zero, List.set_cons_succ]
                  refine wpAnyH_take (i := 20) (oi := ?o20x5) (v := undef) ?hi20x5 (by kernel_rfl) (by kernel_rfl) (by kernel_rfl) (fun _ _ _ h => h) ?hy20x5 (by assumption) ?r20x5
                  case hi20x5 => simp only [List.getElem?_toArray, List.getElem?_cons_succ, List.getElem?_cons_zero]; rfl
                  case hy20x5 => exact Or.inr ⟨by rfl, rfl⟩
                  try simp only [Act.put, List.setIfInBounds_toArray, List.set_cons_zero, List.set_cons_succ]
                  refine wpAnyH_take (i := 21) (oi := ?o21x5) (v := undef) ?hi21x5 (by kernel_rfl) (by kernel_rfl) (by kernel_rfl) (fun _ _ _ h => h) ?hy21x5 (by assumption) ?r21x5
                  case hi21x5 => simp only [List.getElem?_toArray, List.getElem?_cons_succ, List.getElem?_cons_zero]; rfl
                  case hy21x5 => exact Or.inr ⟨by rfl, rfl⟩
                  try simp only [Act.put, List.setIfInBounds_toArray, List.set_cons_zero, List.set_cons_succ]
                  refine wpAnyH_take (i := 22) (oi := ?o22x5) (v := undef) ?hi22x5 (by kernel_rfl) (by kernel_rfl) (by kernel_rfl) (fun _ _ _ h => h) ?hy22x5 (by assumption) ?r22x5
                  case hi22x5 => simp only [List.getElem?_toArray, List.getElem?_cons_succ, List.getElem?_cons_zero]; rfl
                  case hy22x5 => exact Or.inr ⟨by rfl, rfl⟩
                  try simp only [Act.put, List.setIfInBounds_toArray, List.set_cons_zero, List.set_cons_succ]
                  refine wpAnyH_take (i := 23) (oi := ?o23x5) (v := ?v23x5) ?hi23x5 (by kernel_rfl) (by kernel_rfl) (by kernel_rfl) (fun _ _ _ h => h) ?hy23x5 (by assumption) ?r23x5
                  case hi23x5 => simp only [List.getElem?_toArray, List.getElem?_cons_succ, List.getElem?_cons_zero]; rfl
                  case hy23x5 => exact Or.inl ⟨by rfl, by (intro w hSw; (try dsimp only at hSw); go_simp) <;> with_reducible rfl⟩
                  try simp only [Act.put, List.setIfInBounds_toArray, List.set_cons_zero, List.set_cons_succ]
                  refine wpAnyH_take (i := 24) (oi := ?o24x5) (v := ?v24x5) ?hi24x5 (by kernel_rfl) (by kernel_rfl) (by kernel_rfl) (fun _ _ _ h => h) ?hy24x5 (by assumption) ?r24x5
                  case hi24x5 => simp only [List.getElem?_toArray, List.getElem?_cons_succ, List.getElem?_cons_zero]; rfl
                  case hy24x5 => exact Or.inl ⟨by rfl, by (intro w hSw; (try dsimp only at hSw); go_simp) <;> with_reducible rfl⟩
                  try simp only [Act.put, List.setIfInBounds_toArray, List.set_cons_zero, List.set_cons_succ]
                  refine wpAnyH_take (i := 25) (oi := ?o25x5) (v := ?v25x5) ?hi25x5 (by kernel_rfl) (by kernel_rfl) (by kernel_rfl) (fun _ _ _ h => h) ?hy25x5 (by assumption) ?r25x5
                  case hi25x5 => simp only [List.getElem?_toArray, List.getElem?_cons_succ, List.getElem?_cons_zero]; rfl
                  case hy25x5 => exact Or.inl ⟨by rfl, by (intro w hSw; (try dsimp only at hSw); go_simp) <;> with_reducible rfl⟩
                  try simp only [Act.put, List.setIfInBounds_toArray, List.set_cons_zero, List.set_cons_succ]
                  refine wpAnyH_take (i := 26) (oi := ?o26x5) (v := ?v26x5) ?hi26x5 (by kernel_rfl) (by kernel_rfl) (by kernel_rfl) (fun _ _ _ h => h) ?hy26x5 (by assumption) ?r26x5
                  case hi26x5 => simp only [List.getElem?_toArray, List.getElem?_cons_succ, List.getElem?_cons_zero]; rfl
                  case hy26x5 => exact Or.inl ⟨by rfl, by (intro w hSw; (try dsimp only at hSw); go_simp) <;> with_reducible rfl⟩
                  try simp only [Act.put, List.setIfInBounds_toArray, List.set_cons_zero, List.set_cons_succ]
                  refine wpAnyH_ready (rs := [27]) (by kernel_rfl) (by simp) ?_
                  refine AllReadyH.cons (o := ?o27x5) ?hi27x5 (fun K hK => ?st27x5) AllReadyH.nil
                  case hi27x5 => simp only [List.getElem?_toArray, List.getElem?_cons_succ, List.getElem?_cons_zero]; rfl
                  go_simp
                  (go_at_call 57; refine (CF.out _ (NH.bel hHeld)).mono ?_; rintro e w' ⟨rfl, hbl⟩)
                  refine hK.out _ _ ?_ (fun hHeld => ?_)
                  · (try dsimp only); (exact NH.below hHeld hbl)
                  clear hK K
                  try simp only [Act.put, List.setIfInBounds_toArray, List.set_cons_zero, List.set_cons_succ]
                  refine wpAnyH_take (i := 28) (oi := ?o28x5) (v := ?v28x5) ?hi28x5 (by kernel_rfl) (by kernel_rfl) (by kernel_rfl) (fun _ _ _ h => h) ?hy28x5 (by assumption) ?r28x5
                  case hi28x5 => simp only [List.getElem?_toArray, List.getElem?_cons_succ, List.getElem?_cons_zero]; rfl
                  case hy28x5 => exact Or.inl ⟨by rfl, by (intro w hSw; (try dsimp only at hSw); go_simp) <;> with_reducible rfl⟩
                  try simp only [Act.put, List.setIfInBounds_toArray, List.set_cons_zero, List.set_cons_succ]
                  refine wpAnyH_take (i := 29) (oi := ?o29x5) (v := ?v29x5) ?hi29x5 (by kernel_rfl) (by kernel_rfl) (by kernel_rfl) (fun _ _ _ h => h) ?hy29x5 (by assumption) ?r29x5
                  case hi29x5 => simp only [List.getElem?_toArray, List.getElem?_cons_succ, List.getElem?_cons_zero]; rfl
                  case hy29x5 => exact Or.inl ⟨by rfl, by (intro w hSw; (try dsimp only at hSw); go_simp) <;> with_reducible rfl⟩
                  try simp only [Act.put, List.setIfInBounds_toArray, List.set_cons_zero, List.set_cons_succ]
                  refine wpAnyH_done (by kernel_rfl) ?_ _
                  refine NoPanic.normal ?_
                  have HH3 := Lib.hid hHeld
                  clear hHeld HBD
                  have HOm := Lib.hid (own_below (own_take HO.out hm2) (HH3.out.bel))
                  go_wp2_with (at_builtin; refine wpList_append_own _ rfl _ _ 89 rfl w.heap.size 3 i0 _ 1 8 Tryd.underlying89 hi hz0 hz1 hz2 rfl (by decide) _ _ _ rfl (HOm.out.alloc _) ⟨_, 0, none⟩ 1 1 [E (k : Nat)] rfl rfl (one_cell (heap_alloc_new _ _)) (one_one _) (by unfold maxLen; omega) (by omega) (by have h1 := HB.out.size; have h2 := HH3.out.bel.size; simp; omega) ?_)
                  rintro v' w4 hown hgrow -
                  have HB4 := Lib.hid (((HB.out.trans (HH3.out.bel.mono HB.out.size)).alloc (by have h1 := HB.out.size; have h2 := HH3.out.bel.size; omega) _).grown hgrow (by have h1 := HB.out.size; have h2 := HH3.out.bel.size; simp; omega) (own_ge HOm.out))
                  have HO4 : Hid (w4.ownsRow w.heap.size 3 1 v' (push n k st).length (ns (push n k st))) := Lib.hid (by rw [HPU.out]; have hh := hown; rw [List.take_of_length_le (by simp [ns])] at hh; simpa [ns] using hh)
                  obtain ⟨bo', n', cap', rfl⟩ : ∃ bo' n' cap', v' = .slice bo' n' cap' := by
                    rcases own_forms hown with ⟨rfl, _⟩ | ⟨g, cap, rfl, _⟩
                    · exact ⟨_, _, _, rfl⟩
                    · exact ⟨_, _, _, rfl⟩
                  clear hown hgrow
                  go_wp2
                  go_roundw
                  case rel => exact ⟨k + 1, push n k st, by omega, by go_num, Lib.hid (by rw [ordRun_succ HR.out hlt, HN.out, if_pos HOK.out]), HO4, HB4⟩
                  case measure => simp [intOf]; omega
                · skip
                  go_wp2_with (first
                    | (go_at_call 18; refine (CPa _).mono ?_; rintro e w1 ⟨rfl, hb1⟩; have HH1 := Lib.hid (HH0.out.below hb1); clear hb1; obtain ⟨r0, r1, r2, r3, r4, r5, r6, r7, r8, r9, _⟩ := HH1.out)
                    | (go_at_call 56; refine (COn _).mono ?_; rintro e w2 ⟨rfl, hb2⟩; have HH2 := Lib.hid (HH1.out.below hb2); clear hb2; obtain ⟨s0, s1, s2, s3, s4, s5, s6, s7, s8, s9, _⟩ := HH2.out; clear HH1))
                  have HS0 := Lib.hid (HH2.out)
                  refine wp_region_noPanic ?_
                  refine wp_region_held_drew (S := fun w' => NH wr w' wr.heap.size n) (by kernel_rfl) ?_ (fun hHeld => ?_)
                  · (try dsimp only); exact NH.drew HS0.out
                  clear HS0
                  have HBD := Lib.hid (NH.bel hHeld)
                  generalize w2.drew = w3 at *
                  refine wpAnyH_take (i := 0) (oi := ?o0x6) (v := ?v0x6) ?hi0x6 (by kernel_rfl) (by kernel_rfl) (by kernel_rfl) (fun _ _ _ h => h) ?hy0x6 (by assumption) ?r0x6
                  case hi0x6 => simp only [List.getElem?_toArray, List.getElem?_cons_succ, List.getElem?_cons_zero]; rfl
                  case hy0x6 => exact Or.inl ⟨by rfl, by (intro w hSw; (try dsimp only at hSw); go_simp) <;> with_reducible rfl⟩
                  try simp only [Act.put, List.setIfInBounds_toArray, List.set_cons_zero, List.set_cons_succ]
                  refine wpAnyH_take (i := 1) (oi := ?o1x6) (v := ?v1x6) ?hi1x6 (by kernel_rfl) (by kernel_rfl) (by kernel_rfl) (fun _ _ _ h => h) ?hy1x6 (by assumption) ?r1x6
                  case hi1x6 => simp only [List.getElem?_toArray, List.getElem?_cons_succ, List.getElem?_cons_zero]; rfl
                  case hy1x6 => exact Or.inl ⟨by rfl, by (intro w hSw; (try dsimp only at hSw); go_simp) <;> with_reducible rfl⟩
                  try simp only [Act.put, List.setIfInBounds_toArray, List.set_cons_zero, List.set_cons_succ]
                  refine wpAnyH_take (i := 2) (oi := ?o2x6) (v := ?v2x6) ?hi2x6 (by kernel_rfl) (by kernel_rfl) (by kernel_rfl) (fun _ _ _ h => h) ?hy2x6 (by assumption) ?r2x6
                  case hi2x6 => simp only [List.getElem?_toArray, List.getElem?_cons_succ, List.getElem?_cons_zero]; rfl
                  case hy2x6 => exact Or.inl ⟨by rfl, by (intro w hSw; (try dsimp only at hSw); go_simp) <;> with_reducible rfl⟩
                  try simp only [Act.put, List.setIfInBounds_toArray, List.set_cons_zero, List.set_cons_succ]
                  refine wpAnyH_take (i := 3) (oi := ?o3x6) (v := ?v3x6) ?hi3x6 (by kernel_rfl) (by kernel_rfl) (by kernel_rfl) (fun _ _ _ h => h) ?hy3x6 (by assumption) ?r3x6
                  case hi3x6 => simp only [List.getElem?_toArray, List.getElem?_cons_succ, List.getElem?_cons_zero]; rfl
                  case hy3x6 => exact Or.inl ⟨by rfl, by (intro w hSw; (try dsimp only at hSw); go_simp) <;> with_reducible rfl⟩
                  try simp only [Act.put, List.setIfInBounds_toArray, List.set_cons_zero, List.set_cons_succ]
                  refine wpAnyH_take (i := 4) (oi := ?o4x6) (v := undef) ?hi4x6 (by kernel_rfl) (by kernel_rfl) (by kernel_rfl) (fun _ _ _ h => h) ?hy4x6 (by assumption) ?r4x6
                  case hi4x6 => simp only [List.getElem?_toArray, List.getElem?_cons_succ, List.getElem?_cons_zero]; rfl
                  case hy4x6 => exact Or.inr ⟨by rfl, rfl⟩
                  try simp only [Act.put, List.setIfInBounds_toArray, List.set_cons_zero, List.set_cons_succ]
                  refine wpAnyH_take (i := 5) (oi := ?o5x6) (v := undef) ?hi5x6 (by kernel_rfl) (by kernel_rfl) (by kernel_rfl) (fun _ _ _ h => h) ?hy5x6 (by assumption) ?r5x6
                  case hi5x6 => simp only [List.getElem?_toArray, List.getElem?_cons_succ, List.getElem?_cons_zero]; rfl
                  case hy5x6 => exact Or.inr ⟨by rfl, rfl⟩
                  try simp only [Act.put, List.setIfInBounds_toArray, List.set_cons_zero, List.set_cons_succ]
                  refine wpAnyH_take (i := 6) (oi := ?o6x6) (v := undef) ?hi6x6 (by kernel_rfl) (by kernel_rfl) (by kernel_rfl) (fun _ _ _ h => h) ?hy6x6 (by assumption) ?r6x6
                  case hi6x6 => simp only [List.getElem?_toArray, List.getElem?_cons_succ, List.getElem?_cons_zero]; rfl
                  case hy6x6 => exact Or.inr ⟨by rfl, rfl⟩
                  try simp only [Act.put, List.setIfInBounds_toArray, List.set_cons_zero, List.set_cons_succ]
                  refine wpAnyH_take (i := 7) (oi := ?o7x6) (v := undef) ?hi7x6 (by kernel_rfl) (by kernel_rfl) (by kernel_rfl) (fun _ _ _ h => h) ?hy7x6 (by assumption) ?r7x6
                  case hi7x6 => simp only [List.getElem?_toArray, List.getElem?_cons_succ, List.getElem?_cons_zero]; rfl
                  case hy7x6 => exact Or.inr ⟨by rfl, rfl⟩
                  try simp only [Act.put, List.setIfInBounds_toArray, List.set_cons_zero, List.set_cons_succ]
                  refine wpAnyH_take (i := 8) (oi := ?o8x6) (v := undef) ?hi8x6 (by kernel_rfl) (by kernel_rfl) (by kernel_rfl) (fun _ _ _ h => h) ?hy8x6 (by assumption) ?r8x6
                  case hi8x6 => simp only [List.getElem?_toArray, List.getElem?_cons_succ, List.getElem?_cons_zero]; rfl
                  case hy8x6 => exact Or.inr ⟨by rfl, rfl⟩
                  try simp only [Act.put, List.setIfInBounds_toArray, List.set_cons_zero, List.set_cons_succ]
                  refine wpAnyH_take (i := 9) (oi := ?o9x6) (v := undef) ?hi9x6 (by kernel_rfl) (by kernel_rfl) (by kernel_rfl) (fun _ _ _ h => h) ?hy9x6 (by assumption) ?r9x6
                  case hi9x6 => simp only [List.getElem?_toArray, List.getElem?_cons_succ, List.getElem?_cons_zero]; rfl
                  case hy9x6 => exact Or.inr ⟨by rfl, rfl⟩
                  try simp only [Act.put, List.setIfInBounds_toArray, List.set_cons_zero, List.set_cons_succ]
                  refine wpAnyH_take (i := 10) (oi := ?o10x6) (v := undef) ?hi10x6 (by kernel_rfl) (by kernel_rfl) (by kernel_rfl) (fun _ _ _ h => h) ?hy10x6 (by assumption) ?r10x6
                  case hi10x6 => simp only [List.getElem?_toArray, List.getElem?_cons_succ, List.getElem?_cons_zero]; rfl
                  case hy10x6 => exact Or.inr ⟨by rfl, rfl⟩
                  try simp only [Act.put, List.setIfInBounds_toArray, List.set_cons_zero, List.set_cons_succ]
                  refine wpAnyH_take (i := 11) (oi := ?o11x6) (v := undef) ?hi11x6 (by kernel_rfl) (by kernel_rfl) (by kernel_rfl) (fun _ _ _ h => h) ?hy11x6 (by assumption) ?r11x6
                  case hi11x6 => simp only [List.getElem?_toArray, List.getElem?_cons_succ, List.getElem?_cons_zero]; rfl
                  case hy11x6 => exact Or.inr ⟨by rfl, rfl⟩
                  try simp only [Act.put, List.setIfInBounds_toArray, List.set_cons_zero, List.set_cons_succ]
                  refine wpAnyH_take (i := 12) (oi := ?o12x6) (v := undef) ?hi12x6 (by kernel_rfl) (by kernel_rfl) (by kernel_rfl) (fun _ _ _ h => h) ?hy12x6 (by assumption) ?r12x6
                  case hi12x6 => simp only [List.getElem?_toArray, List.getElem?_cons_succ, List.getElem?_cons_zero]; rfl
                  case hy12x6 => exact Or.inr ⟨by rfl, rfl⟩
                  try simp only [Act.put, List.setIfInBounds_toArray, List.set_cons_zero, List.set_cons_succ]
                  refine wpAnyH_take (i := 13) (oi := ?o13x6) (v := undef) ?hi13x6 (by kernel_rfl) (by kernel_rfl) (by kernel_rfl) (fun _ _ _ h => h) ?hy13x6 (by assumption) ?r13x6
                  case hi13x6 => simp only [List.getElem?_toArray, List.getElem?_cons_succ, List.getElem?_cons_zero]; rfl
                  case hy13x6 => exact Or.inr ⟨by rfl, rfl⟩
                  try simp only [Act.put, List.setIfInBounds_toArray, List.set_cons_zero, List.set_cons_succ]
                  refine wpAnyH_take (i := 14) (oi := ?o14x6) (v := undef) ?hi14x6 (by kernel_rfl) (by kernel_rfl) (by kernel_rfl) (fun _ _ _ h => h) ?hy14x6 (by assumption) ?r14x6
                  case hi14x6 => simp only [List.getElem?_toArray, List.getElem?_cons_succ, List.getElem?_cons_zero]; rfl
                  case hy14x6 => exact Or.inr ⟨by rfl, rfl⟩
                  try simp only [Act.put, List.setIfInBounds_toArray, List.set_cons_zero, List.set_cons_succ]
                  refine wpAnyH_take (i := 15) (oi := ?o15x6) (v := undef) ?hi15x6 (by kernel_rfl) (by kernel_rfl) (by kernel_rfl) (fun _ _ _ h => h) ?hy15x6 (by assumption) ?r15x6
                  case hi15x6 => simp only [List.getElem?_toArray, List.getElem?_cons_succ, List.getElem?_cons_zero]; rfl
                  case hy15x6 => exact Or.inr ⟨by rfl, rfl⟩
                  try simp only [Act.put, List.setIfInBounds_toArray, List.set_cons_zero, List.set_cons_succ]
                  refine wpAnyH_take (i := 16) (oi := ?o16x6) (v := undef) ?hi16x6 (by kernel_rfl) (by kernel_rfl) (by kernel_rfl) (fun _ _ _ h => h) ?hy16x6 (by assumption) ?r16x6
                  case hi16x6 => simp only [List.getElem?_toArray, List.getElem?_cons_succ, List.getElem?_cons_zero]; rfl
                  case hy16x6 => exact Or.inr ⟨by rfl, rfl⟩
                  try simp only [Act.put, List.setIfInBounds_toArray, List.set_cons_zero, List.set_cons_succ]
                  refine wpAnyH_take (i := 17) (oi := ?o17x6) (v := undef) ?hi17x6 (by kernel_rfl) (by kernel_rfl) (by kernel_rfl) (fun _ _ _ h => h) ?hy17x6 (by assumption) ?r17x6
                  case hi17x6 => simp only [List.getElem?_toArray, List.getElem?_cons_succ, List.getElem?_cons_zero]; rfl
                  case hy17x6 => exact Or.inr ⟨by rfl, rfl⟩
                  try simp only [Act.put, List.setIfInBounds_toArray, List.set_cons_zero, List.set_cons_succ]
                  refine wpAnyH_take (i := 18) (oi := ?o18x6) (v := undef) ?hi18x6 (by kernel_rfl) (by kernel_rfl) (by kernel_rfl) (fun _ _ _ h => h) ?hy18x6 (by assumption) ?r18x6
                  case hi18x6 => simp only [List.getElem?_toArray, List.getElem?_cons_succ, List.getElem?_cons_zero]; rfl
                  case hy18x6 => exact Or.inr ⟨by rfl, rfl⟩
                  try simp only [Act.put, List.setIfInBounds_toArray, List.set_cons_zero, List.set_cons_succ]
                  refine wpAnyH_take (i := 19) (oi := ?o19x6) (v := undef) ?hi19x6 (by kernel_rfl) (by kernel_rfl) (by kernel_rfl) (fun _ _ _ h => h) ?hy19x6 (by assumption) ?r19x6
                  case hi19x6 => simp only [List.getElem?_toArray, List.getElem?_cons_succ, List.getElem?_cons_zero]; rfl
                  case hy19x6 => exact Or.inr ⟨by rfl, rfl⟩
                  try simp only [Act.put, List.setIfInBounds_toArray, List.set_cons_zero, List.set_cons_succ]
                  refine wpAnyH_take (i := 20) (oi := ?o20x6) (v := undef) ?hi20x6 (by kernel_rfl) (by kernel_rfl) (by kernel_rfl) (fun _ _ _ h => h) ?hy20x6 (by assumption) ?r20x6
                  case hi20x6 => simp only [List.getElem?_toArray, List.getElem?_cons_succ, List.getElem?_cons_zero]; rfl
                  case hy20x6 => exact Or.inr ⟨by rfl, rfl⟩
                  try simp only [Act.put, List.setIfInBounds_toArray, List.set_cons_zero, List.set_cons_succ]
                  refine wpAnyH_take (i := 21) (oi := ?o21x6) (v := undef) ?hi21x6 (by kernel_rfl) (by kernel_rfl) (by kernel_rfl) (fun _ _ _ h => h) ?hy21x6 (by assumption) ?r21x6
                  case hi21x6 => simp only [List.getElem?_toArray, List.getElem?_cons_succ, List.getElem?_cons_zero]; rfl
                  case hy21x6 => exact Or.inr ⟨by rfl, rfl⟩
                  try simp only [Act.put, List.setIfInBounds_toArray, List.set_cons_zero, List.set_cons_succ]
                  refine wpAnyH_take (i := 22) (oi := ?o22x6) (v := undef) ?hi22x6 (by kernel_rfl) (by kernel_rfl) (by kernel_rfl) (fun _ _ _ h => h) ?hy22x6 (by assumption) ?r22x6
                  case hi22x6 => simp only [List.getElem?_toArray, List.getElem?_cons_succ, List.getElem?_cons_zero]; rfl
                  case hy22x6 => exact Or.inr ⟨by rfl, rfl⟩
                  try simp only [Act.put, List.setIfInBounds_toArray, List.set_cons_zero, List.set_cons_succ]
                  refine wpAnyH_take (i := 23) (oi := ?o23x6) (v := ?v23x6) ?hi23x6 (by kernel_rfl) (by kernel_rfl) (by kernel_rfl) (fun _ _ _ h => h) ?hy23x6 (by assumption) ?r23x6
                  case hi23x6 => simp only [List.getElem?_toArray, List.getElem?_cons_succ, List.getElem?_cons_zero]; rfl
                  case hy23x6 => exact Or.inl ⟨by rfl, by (intro w hSw; (try dsimp only at hSw); go_simp) <;> with_reducible rfl⟩
                  try simp only [Act.put, List.setIfInBounds_toArray, List.set_cons_zero, List.set_cons_succ]
                  refine wpAnyH_take (i := 24) (oi := ?o24x6) (v := ?v24x6) ?hi24x6 (by kernel_rfl) (by kernel_rfl) (by kernel_rfl) (fun _ _ _ h => h) ?hy24x6 (by assumption) ?r24x6
                  case hi24x6 => simp only [List.getElem?_toArray, List.getElem?_cons_succ, List.getElem?_cons_zero]; rfl
                  case hy24x6 => exact Or.inl ⟨by rfl, by (intro w hSw; (try dsimp only at hSw); go_simp) <;> with_reducible rfl⟩
                  try simp only [Act.put, List.setIfInBounds_toArray, List.set_cons_zero, List.set_cons_succ]
                  refine wpAnyH_take (i := 25) (oi := ?o25x6) (v := ?v25x6) ?hi25x6 (by kernel_rfl) (by kernel_rfl) (by kernel_rfl) (fun _ _ _ h => h) ?hy25x6 (by assumption) ?r25x6
                  case hi25x6 => simp only [List.getElem?_toArray, List.getElem?_cons_succ, List.getElem?_cons_zero]; rfl
                  case hy25x6 => exact Or.inl ⟨by rfl, by (intro w hSw; (try dsimp only at hSw); go_simp) <;> with_reducible rfl⟩
                  try simp only [Act.put, List.setIfInBounds_toArray, List.set_cons_zero, List.set_cons_succ]
                  refine wpAnyH_take (i := 26) (oi := ?o26x6) (v := ?v26x6) ?hi26x6 (by kernel_rfl) (by kernel_rfl) (by kernel_rfl) (fun _ _ _ h => h) ?hy26x6 (by assumption) ?r26x6
                  case hi26x6 => simp only [List.getElem?_toArray, List.getElem?_cons_succ, List.getElem?_cons_zero]; rfl
                  case hy26x6 => exact Or.inl ⟨by rfl, by (intro w hSw; (try dsimp only at hSw); go_simp) <;> with_reducible rfl⟩
                  try simp only [Act.put, List.setIfInBounds_toArray, List.set_cons_zero, List.set_cons_succ]
                  refine wpAnyH_ready (rs := [27]) (by kernel_rfl) (by simp) ?_
                  refine AllReadyH.cons (o := ?o27x6) ?hi27x6 (fun K hK => ?st27x6) AllReadyH.nil
                  case hi27x6 => simp only [List.getElem?_toArray, List.getElem?_cons_succ, List.getElem?_cons_zero]; rfl
                  go_simp
                  (go_at_call 57; refine (CF.out _ (NH.bel hHeld)).mono ?_; rintro e w' ⟨rfl, hbl⟩)
                  refine hK.out _ _ ?_ (fun hHeld => ?_)
                  · (try dsimp only); (exact NH.below hHeld hbl)
                  clear hK K
                  try simp only [Act.put, List.setIfInBounds_toArray, List.set_cons_zero, List.set_cons_succ]
                  refine wpAnyH_take (i := 28) (oi := ?o28x6) (v := ?v28x6) ?hi28x6 (by kernel_rfl) (by kernel_rfl) (by kernel_rfl) (fun _ _ _ h => h) ?hy28x6 (by assumption) ?r28x6
                  case hi28x6 => simp only [List.getElem?_toArray, List.getElem?_cons_succ, List.getElem?_cons_zero]; rfl
                  case hy28x6 => exact Or.inl ⟨by rfl, by (intro w hSw; (try dsimp only at hSw); go_simp) <;> with_reducible rfl⟩
                  try simp only [Act.put, List.setIfInBounds_toArray, List.set_cons_zero, List.set_cons_succ]
                  refine wpAnyH_take (i := 29) (oi := ?o29x6) (v := ?v29x6) ?hi29x6 (by kernel_rfl) (by kernel_rfl) (by kernel_rfl) (fun _ _ _ h => h) ?hy29x6 (by assumption) ?r29x6
                  case hi29x6 => simp only [List.getElem?_toArray, List.getElem?_cons_succ, List.getElem?_cons_zero]; rfl
                  case hy29x6 => exact Or.inl ⟨by rfl, by (intro w hSw; (try dsimp only at hSw); go_simp) <;> with_reducible rfl⟩
                  try simp only [Act.put, List.setIfInBounds_toArray, List.set_cons_zero, List.set_cons_succ]
                  refine wpAnyH_done (by kernel_rfl) ?_ _
                  refine NoPanic.normal ?_
                  have HH3 := Lib.hid hHeld
                  clear hHeld HBD
                  have HOm := Lib.hid (own_below (own_take HO.out hm2) (HH3.out.bel))
                  go_wp2_with (at_builtin; refine wpList_append_own _ rfl _ _ 89 rfl w.heap.size 3 i0 _ 1 8 Tryd.underlying89 hi hz0 hz1 hz2 rfl (by decide) _ _ _ rfl (HOm.out.alloc _) ⟨_, 0, none⟩ 1 1 [E (k : Nat)] rfl rfl (one_cell (heap_alloc_new _ _)) (one_one _) (by unfold maxLen; omega) (by omega) (by have h1 := HB.out.size; have h2 := HH3.out.bel.size; simp; omega) ?_)
                  rintro v' w4 hown hgrow -
                  have HB4 := Lib.hid (((HB.out.trans (HH3.out.bel.mono HB.out.size)).alloc (by have h1 := HB.out.size; have h2 := HH3.out.bel.size; omega) _).grown hgrow (by have h1 := HB.out.size; have h2 := HH3.out.bel.size; simp; omega) (own_ge HOm.out))
                  have HO4 : Hid (w4.ownsRow w.heap.size 3 1 v' (push n k st).length (ns (push n k st))) := Lib.hid (by rw [HPU.out]; have hh := hown; rw [List.take_of_length_le (by simp [ns])] at hh; simpa [ns] using hh)
                  obtain ⟨bo', n', cap', rfl⟩ : ∃ bo' n' cap', v' = .slice bo' n' cap' := by
                    rcases own_forms hown with ⟨rfl, _⟩ | ⟨g, cap, rfl, _⟩
                    · exact ⟨_, _, _, rfl⟩
                    · exact ⟨_, _, _, rfl⟩
                  clear hown hgrow
                  go_wp2
                  go_roundw
                  case rel => exact ⟨k + 1, push n k st, by omega, by go_num, Lib.hid (by rw [ordRun_succ HR.out hlt, HN.out, if_pos HOK.out]), HO4, HB4⟩
                  case measure => simp [intOf]; omega
            · obtain ⟨g, cap', rfl, rfl, hcap⟩ : ∃ g cap', bo = some ⟨g, 0, none⟩ ∧ cap = cap' ∧ st.length ≤ cap' := by
                rcases own_forms HO.out with ⟨hv, h0⟩ | ⟨g, cap', hv, hcap⟩
                · exfalso; have := HM.out; omega
                · simp only [Value.slice.injEq, true_and] at hv; exact ⟨g, cap', hv.1, hv.2, hcap⟩
              have hcap' : ((st.length : Nat) : Int) ≤ (cap : Int) := by omega
              have hms : m < st.length := by have := HM.out; omega
              have Q10 := Lib.hid (own_cell HO.out hms)
              have HXL := Lib.hid (HLE.out _ (List.getElem_mem hms))
              have HX := Lib.hid (show st.drop m = st[m] :: st.drop (m + 1) from List.drop_eq_getElem_cons hms)
              generalize st[m] = x at Q10 HX HXL
              by_cases hP1 : P = 1
              · subst hP1
                have HXE := Lib.hid (show st.drop (m + 1) = [] from by rw [List.drop_eq_nil_iff]; have := HM.out; omega)
                have HNK := Lib.hid (show n.k ≠ 4 from by intro q; have h1 := HP.out; unfold parts at h1; rw [if_pos (Or.inl q)] at h1; omega)
                by_cases hxa : (x : Int) = n.a
                · have hxB : ((x : Int) != n.a) = false := by rw [bne_eq_false_iff_eq]; exact hxa
                  have HXA := Lib.hid hxa
                  clear hxa
                  by_cases hfi : Fits l n
                  · have CF := Lib.hid (show ∀ W, Below wr.heap.size wr W → Calls Tryd.prog 57 #[.slice (some ⟨B0, o0, none⟩) l.length c, NV n] W fun e w' => e = .returned (.bool true) ∧ Below W.heap.size W w' from fun W hb => by
                      have := HFT.out W hb (fun _ => ⟨x, by have := HXL.out; omega, HXA.out.symm⟩) (fun q => absurd q HNK.out)
                      rwa [decide_eq_true hfi] at this)
                    have HOK := Lib.hid (show StepOk l n st from ⟨ho, by rw [← HP.out]; omega, fun q => HK0.out q.1, by rw [HDR.out, HX.out, HXE.out]; exact HXA.out, hfi⟩)
                    clear hfi
                    go_wp2_with (first
                      | (go_at_call 18; refine (CPa _).mono ?_; rintro e w1 ⟨rfl, hb1⟩; have HH1 := Lib.hid (HH0.out.below hb1); clear hb1; obtain ⟨r0, r1, r2, r3, r4, r5, r6, r7, r8, r9, _⟩ := HH1.out)
                      | (go_at_call 56; refine (COn _).mono ?_; rintro e w2 ⟨rfl, hb2⟩; have HH2 := Lib.hid (HH1.out.below hb2); clear hb2; obtain ⟨s0, s1, s2, s3, s4, s5, s6, s7, s8, s9, _⟩ := HH2.out; clear HH1))
                    have HS0 := Lib.hid ((⟨(HH2.out.bel.cell (lt_cell Q10.out)).trans Q10.out, HH2.out⟩ : NH1 wr w2 wr.heap.size n g m x))
                    refine wp_region_noPanic ?_
                    refine wp_region_held_drew (S := fun w' => NH1 wr w' wr.heap.size n g m x) (by kernel_rfl) ?_ (fun hHeld => ?_)
                    · (try dsimp only); exact NH1.drew HS0.out
                    clear HS0
                    have HBD := Lib.hid (NH1.bel hHeld)
                    generalize w2.drew = w3 at *
                    refine wpAnyH_take (i := 0) (oi := ?o0x7) (v := ?v0x7) ?hi0x7 (by kernel_rfl) (by kernel_rfl) (by kernel_rfl) (fun _ _ _ h => h) ?hy0x7 (by assumption) ?r0x7
                    case hi0x7 => simp only [List.getElem?_toArray, List.getElem?_cons_succ, List.getElem?_cons_zero]; rfl
                    case hy0x7 => exact Or.inl ⟨by rfl, by (intro w hSw; (try dsimp only at hSw); go_simp) <;> with_reducible rfl⟩
                    try simp only [Act.put, List.setIfInBounds_toArray, List.set_cons_zero, List.set_cons_succ]
                    refine wpAnyH_take (i := 1) (oi := ?o1x7) (v := ?v1x7) ?hi1x7 (by kernel_rfl) (by kernel_rfl) (by kernel_rfl) (fun _ _ _ h => h) ?hy1x7 (by assumption) ?r1x7
                    case hi1x7 => simp only [List.getElem?_toArray, List.getElem?_cons_succ, List.getElem?_cons_zero]; rfl
                    case hy1x7 => exact Or.inl ⟨by rfl, by (intro w hSw; (try dsimp only at hSw); go_simp) <;> with_reducible rfl⟩
                    try simp only [Act.put, List.setIfInBounds_toArray, List.set_cons_zero, List.set_cons_succ]
                    refine wpAnyH_take (i := 2) (oi := ?o2x7) (v := ?v2x7) ?hi2x7 (by kernel_rfl) (by kernel_rfl) (by kernel_rfl) (fun _ _ _ h => h) ?hy2x7 (by assumption) ?r2x7
                    case hi2x7 => simp only [List.getElem?_toArray, List.getElem?_cons_succ, List.getElem?_cons_zero]; rfl
                    case hy2x7 => exact Or.inl ⟨by rfl, by (intro w hSw; (try dsimp only at hSw); go_simp) <;> with_reducible rfl⟩
                    try simp only [Act.put, List.setIfInBounds_toArray, List.set_cons_zero, List.set_cons_succ]
                    refine wpAnyH_take (i := 3) (oi := ?o3x7) (v := ?v3x7) ?hi3x7 (by kernel_rfl) (by kernel_rfl) (by kernel_rfl) (fun _ _ _ h => h) ?hy3x7 (by assumption) ?r3x7
                    case hi3x7 => simp only [List.getElem?_toArray, List.getElem?_cons_succ, List.getElem?_cons_zero]; rfl
                    case hy3x7 => exact Or.inl ⟨by rfl, by (intro w hSw; (try dsimp only at hSw); go_simp) <;> with_reducible rfl⟩
                    try simp only [Act.put, List.setIfInBounds_toArray, List.set_cons_zero, List.set_cons_succ]
                    refine wpAnyH_take (i := 4) (oi := ?o4x7) (v := ?v4x7) ?hi4x7 (by kernel_rfl) (by kernel_rfl) (by kernel_rfl) (fun _ _ _ h => h) ?hy4x7 (by assumption) ?r4x7
                    case hi4x7 => simp only [List.getElem?_toArray, List.getElem?_cons_succ, List.getElem?_cons_zero]; rfl
                    case hy4x7 => exact Or.inl ⟨by rfl, by (intro w hSw; (try dsimp only at hSw); go_simp) <;> with_reducible rfl⟩
                    try simp only [Act.put, List.setIfInBounds_toArray, List.set_cons_zero, List.set_cons_succ]
                    refine wpAnyH_take (i := 5) (oi := ?o5x7) (v := ?v5x7) ?hi5x7 (by kernel_rfl) (by kernel_rfl) (by kernel_rfl) (fun _ _ _ h => h) ?hy5x7 (by assumption) ?r5x7
                    case hi5x7 => simp only [List.getElem?_toArray, List.getElem?_cons_succ, List.getElem?_cons_zero]; rfl
                    case hy5x7 => exact Or.inl ⟨by rfl, by (intro w hSw; (try dsimp only at hSw); go_simp) <;> with_reducible rfl⟩
                    try simp only [Act.put, List.setIfInBounds_toArray, List.set_cons_zero, List.set_cons_succ]
                    refine wpAnyH_take (i := 6) (oi := ?o6x7) (v := ?v6x7) ?hi6x7 (by kernel_rfl) (by kernel_rfl) (by kernel_rfl) (fun _ _ _ h => h) ?hy6x7 (by assumption) ?r6x7
                    case hi6x7 => simp only [List.getElem?_toArray, List.getElem?_cons_succ, List.getElem?_cons_zero]; rfl
                    case hy6x7 => exact Or.inl ⟨by rfl, by (intro w hSw; (try dsimp only at hSw); go_simp) <;> with_reducible rfl⟩
                    try simp only [Act.put, List.setIfInBounds_toArray, List.set_cons_zero, List.set_cons_succ]
                    refine wpAnyH_take (i := 7) (oi := ?o7x7) (v := ?v7x7) ?hi7x7 (by kernel_rfl) (by kernel_rfl) (by kernel_rfl) (fun _ _ _ h => h) ?hy7x7 (by assumption) ?r7x7
                    case hi7x7 => simp only [List.getElem?_toArray, List.getElem?_cons_succ, List.getElem?_cons_zero]; rfl
                    case hy7x7 => exact Or.inl ⟨by rfl, by (intro w hSw; (try dsimp only at hSw); go_simp) <;> with_reducible rfl⟩
                    try simp only [Act.put, List.setIfInBounds_toArray, List.set_cons_zero, List.set_cons_succ]
                    refine wpAnyH_take (i := 8) (oi := ?o8x7) (v := ?v8x7) ?hi8x7 (by kernel_rfl) (by kernel_rfl) (by kernel_rfl) (fun _ _ _ h => h) ?hy8x7 (by assumption) ?r8x7
                    case hi8x7 => simp only [List.getElem?_toArray, List.getElem?_cons_succ, List.getElem?_cons_zero]; rfl
                    case hy8x7 => exact Or.inl ⟨by rfl, by (intro w hSw; (try dsimp only at hSw); go_simp) <;> with_reducible rfl⟩
                    try simp only [Act.put, List.setIfInBounds_toArray, List.set_cons_zero, List.set_cons_succ]
                    refine wpAnyH_take (i := 9) (oi := ?o9x7) (v := ?v9x7) ?hi9x7 (by kernel_rfl) (by kernel_rfl) (by kernel_rfl) (fun _ _ _ h => h) ?hy9x7 (by assumption) ?r9x7
                    case hi9x7 => simp only [List.getElem?_toArray, List.getElem?_cons_succ, List.getElem?_cons_zero]; rfl
                    case hy9x7 => exact Or.inl ⟨by rfl, by (intro w hSw; (try dsimp only at hSw); go_simp) <;> with_reducible rfl⟩
                    try simp only [Act.put, List.setIfInBounds_toArray, List.set_cons_zero, List.set_cons_succ]
                    refine wpAnyH_take (i := 10) (oi := ?o10x7) (v := ?v10x7) ?hi10x7 (by kernel_rfl) (by kernel_rfl) (by kernel_rfl) (fun _ _ _ h => h) ?hy10x7 (by assumption) ?r10x7
                    case hi10x7 => simp only [List.getElem?_toArray, List.getElem?_cons_succ, List.getElem?_cons_zero]; rfl
                    case hy10x7 => exact Or.inl ⟨by rfl, by (intro w hSw; (try dsimp only at hSw); go_simp) <;> with_reducible rfl⟩
                    try simp only [Act.put, List.setIfInBounds_toArray, List.set_cons_zero, List.set_cons_succ]
                    refine wpAnyH_take (i := 11) (oi := ?o11x7) (v := ?v11x7) ?hi11x7 (by kernel_rfl) (by kernel_rfl) (by kernel_rfl) (fun _ _ _ h => h) ?hy11x7 (by assumption) ?r11x7
                    case hi11x7 => simp only [List.getElem?_toArray, List.getElem?_cons_succ, List.getElem?_cons_zero]; rfl
                    case hy11x7 => exact Or.inl ⟨by rfl, by (intro w hSw; (try dsimp only at hSw); go_simp) <;> with_reducible rfl⟩
                    try simp only [Act.put, List.setIfInBounds_toArray, List.set_cons_zero, List.set_cons_succ]
                    refine wpAnyH_take (i := 12) (oi := ?o12x7) (v := ?v12x7) ?hi12x7 (by kernel_rfl) (by kernel_rfl) (by kernel_rfl) (fun _ _ _ h => h) ?hy12x7 (by assumption) ?r12x7
                    case hi12x7 => simp only [List.getElem?_toArray, List.getElem?_cons_succ, List.getElem?_cons_zero]; rfl
                    case hy12x7 => exact Or.inl ⟨by rfl, by (intro w hSw; (try dsimp only at hSw); go_simp) <;> with_reducible rfl⟩
                    try simp only [Act.put, List.setIfInBounds_toArray, List.set_cons_zero, List.set_cons_succ]
                    refine wpAnyH_take (i := 13) (oi := ?o13x7) (v := ?v13x7) ?hi13x7 (by kernel_rfl) (by kernel_rfl) (by kernel_rfl) (fun _ _ _ h => h) ?hy13x7 (by assumption) ?r13x7
                    case hi13x7 => simp only [List.getElem?_toArray, List.getElem?_cons_succ, List.getElem?_cons_zero]; rfl
                    case hy13x7 => exact Or.inl ⟨by rfl, by (intro w hSw; (try dsimp only at hSw); go_simp) <;> with_reducible rfl⟩
                    try simp only [Act.put, List.setIfInBounds_toArray, List.set_cons_zero, List.set_cons_succ]
                    refine wpAnyH_take (i := 14) (oi := ?o14x7) (v := ?v14x7) ?hi14x7 (by kernel_rfl) (by kernel_rfl) (by kernel_rfl) (fun _ _ _ h => h) ?hy14x7 (by assumption) ?r14x7
                    case hi14x7 => simp only [List.getElem?_toArray, List.getElem?_cons_succ, List.getElem?_cons_zero]; rfl
                    case hy14x7 => exact Or.inl ⟨by rfl, by (intro w hSw; (try dsimp only at hSw); go_simp) <;> with_reducible rfl⟩
                    try simp only [Act.put, List.setIfInBounds_toArray, List.set_cons_zero, List.set_cons_succ]
                    refine wpAnyH_take (i := 15) (oi := ?o15x7) (v := undef) ?hi15x7 (by kernel_rfl) (by kernel_rfl) (by kernel_rfl) (fun _ _ _ h => h) ?hy15x7 (by assumption) ?r15x7
                    case hi15x7 => simp only [List.getElem?_toArray, List.getElem?_cons_succ, List.getElem?_cons_zero]; rfl
                    case hy15x7 => exact Or.inr ⟨by rfl, rfl⟩
                    try simp only [Act.put, List.setIfInBounds_toArray, List.set_cons_zero, List.set_cons_succ]
                    refine wpAnyH_take (i := 16) (oi := ?o16x7) (v := undef) ?hi16x7 (by kernel_rfl) (by kernel_rfl) (by kernel_rfl) (fun _ _ _ h => h) ?hy16x7 (by assumption) ?r16x7
                    case hi16x7 => simp only [List.getElem?_toArray, List.getElem?_cons_succ, List.getElem?_cons_zero]; rfl
                    case hy16x7 => exact Or.inr ⟨by rfl, rfl⟩
                    try simp only [Act.put, List.setIfInBounds_toArray, List.set_cons_zero, List.set_cons_succ]
                    refine wpAnyH_take (i := 17) (oi := ?o17x7) (v := undef) ?hi17x7 (by kernel_rfl) (by kernel_rfl) (by kernel_rfl) (fun _ _ _ h => h) ?hy17x7 (by assumption) ?r17x7
                    case hi17x7 => simp only [List.getElem?_toArray, List.getElem?_cons_succ, List.getElem?_cons_zero]; rfl
                    case hy17x7 => exact Or.inr ⟨by rfl, rfl⟩
                    try simp only [Act.put, List.setIfInBounds_toArray, List.set_cons_zero, List.set_cons_succ]
                    refine wpAnyH_take (i := 18) (oi := ?o18x7) (v := undef) ?hi18x7 (by kernel_rfl) (by kernel_rfl) (by kernel_rfl) (fun _ _ _ h => h) ?hy18x7 (by assumption) ?r18x7
                    case hi18x7 => simp only [List.getElem?_toArray, List.getElem?_cons_succ, List.getElem?_cons_zero]; rfl
                    case hy18x7 => exact Or.inr ⟨by rfl, rfl⟩
                    try simp only [Act.put, List.setIfInBounds_toArray, List.set_cons_zero, List.set_cons_succ]
                    refine wpAnyH_take (i := 19) (oi := ?o19x7) (v := undef) ?hi19x7 (by kernel_rfl) (by kernel_rfl) (by kernel_rfl) (fun _ _ _ h => h) ?hy19x7 (by assumption) ?r19x7
                    case hi19x7 => simp only [List.getElem?_toArray, List.getElem?_cons_succ, List.getElem?_cons_zero]; rfl
                    case hy19x7 => exact Or.inr ⟨by rfl, rfl⟩
                    try simp only [Act.put, List.setIfInBounds_toArray, List.set_cons_zero, List.set_cons_succ]
                    refine wpAnyH_take (i := 20) (oi := ?o20x7) (v := undef) ?hi20x7 (by kernel_rfl) (by kernel_rfl) (by kernel_rfl) (fun _ _ _ h => h) ?hy20x7 (by assumption) ?r20x7
                    case hi20x7 => simp only [List.getElem?_toArray, List.getElem?_cons_succ, List.getElem?_cons_zero]; rfl
                    case hy20x7 => exact Or.inr ⟨by rfl, rfl⟩
                    try simp only [Act.put, List.setIfInBounds_toArray, List.set_cons_zero, List.set_cons_succ]
                    refine wpAnyH_take (i := 21) (oi := ?o21x7) (v := ?v21x7) ?hi21x7 (by kernel_rfl) (by kernel_rfl) (by kernel_rfl) (fun _ _ _ h => h) ?hy21x7 (by assumption) ?r21x7
                    case hi21x7 => simp only [List.getElem?_toArray, List.getElem?_cons_succ, List.getElem?_cons_zero]; rfl
                    case hy21x7 => exact Or.inl ⟨by rfl, by (intro w hSw; (try dsimp only at hSw); go_simp) <;> with_reducible rfl⟩
                    try simp only [Act.put, List.setIfInBounds_toArray, List.set_cons_zero, List.set_cons_succ]
                    refine wpAnyH_take (i := 22) (oi := ?o22x7) (v := ?v22x7) ?hi22x7 (by kernel_rfl) (by kernel_rfl) (by kernel_rfl) (fun _ _ _ h => h) ?hy22x7 (by assumption) ?r22x7
                    case hi22x7 => simp only [List.getElem?_toArray, List.getElem?_cons_succ, List.getElem?_cons_zero]; rfl
                    case hy22x7 => exact Or.inl ⟨by rfl, by (intro w hSw; (try dsimp only at hSw); go_simp) <;> with_reducible rfl⟩
                    try simp only [Act.put, List.setIfInBounds_toArray, List.set_cons_zero, List.set_cons_succ]
                    refine wpAnyH_take (i := 23) (oi := ?o23x7) (v := ?v23x7) ?hi23x7 (by kernel_rfl) (by kernel_rfl) (by kernel_rfl) (fun _ _ _ h => h) ?hy23x7 (by assumption) ?r23x7
                    case hi23x7 => simp only [List.getElem?_toArray, List.getElem?_cons_succ, List.getElem?_cons_zero]; rfl
                    case hy23x7 => exact Or.inl ⟨by rfl, by (intro w hSw; (try dsimp only at hSw); go_simp) <;> with_reducible rfl⟩
                    try simp only [Act.put, List.setIfInBounds_toArray, List.set_cons_zero, List.set_cons_succ]
                    refine wpAnyH_take (i := 24) (oi := ?o24x7) (v := ?v24x7) ?hi24x7 (by kernel_rfl) (by kernel_rfl) (by kernel_rfl) (fun _ _ _ h => h) ?hy24x7 (by assumption) ?r24x7
                    case hi24x7 => simp only [List.getElem?_toArray, List.getElem?_cons_succ, List.getElem?_cons_zero]; rfl
                    case hy24x7 => exact Or.inl ⟨by rfl, by (intro w hSw; (try dsimp only at hSw); go_simp) <;> with_reducible rfl⟩
                    try simp only [Act.put, List.setIfInBounds_toArray, List.set_cons_zero, List.set_cons_succ]
                    refine wpAnyH_take (i := 25) (oi := ?o25x7) (v := ?v25x7) ?hi25x7 (by kernel_rfl) (by kernel_rfl) (by kernel_rfl) (fun _ _ _ h => h) ?hy25x7 (by assumption) ?r25x7
                    case hi25x7 => simp only [List.getElem?_toArray, List.getElem?_cons_succ, List.getElem?_cons_zero]; rfl
                    case hy25x7 => exact Or.inl ⟨by rfl, by (intro w hSw; (try dsimp only at hSw); go_simp) <;> with_reducible rfl⟩
                    try simp only [Act.put, List.setIfInBounds_toArray, List.set_cons_zero, List.set_cons_succ]
                    refine wpAnyH_take (i := 26) (oi := ?o26x7) (v := ?v26x7) ?hi26x7 (by kernel_rfl) (by kernel_rfl) (by kernel_rfl) (fun _ _ _ h => h) ?hy26x7 (by assumption) ?r26x7
                    case hi26x7 => simp only [List.getElem?_toArray, List.getElem?_cons_succ, List.getElem?_cons_zero]; rfl
                    case hy26x7 => exact Or.inl ⟨by rfl, by (intro w hSw; (try dsimp only at hSw); go_simp) <;> with_reducible rfl⟩
                    try simp only [Act.put, List.setIfInBounds_toArray, List.set_cons_zero, List.set_cons_succ]
                    refine wpAnyH_ready (rs := [27]) (by kernel_rfl) (by simp) ?_
                    refine AllReadyH.cons (o := ?o27x7) ?hi27x7 (fun K hK => ?st27x7) AllReadyH.nil
                    case hi27x7 => simp only [List.getElem?_toArray, List.getElem?_cons_succ, List.getElem?_cons_zero]; rfl
                    go_simp
                    (go_at_call 57; refine (CF.out _ (NH1.bel hHeld)).mono ?_; rintro e w' ⟨rfl, hbl⟩)
                    refine hK.out _ _ ?_ (fun hHeld => ?_)
                    · (try dsimp only); (exact NH1.below hHeld hbl)
                    clear hK K
                    try simp only [Act.put, List.setIfInBounds_toArray, List.set_cons_zero, List.set_cons_succ]
                    refine wpAnyH_take (i := 28) (oi := ?o28x7) (v := ?v28x7) ?hi28x7 (by kernel_rfl) (by kernel_rfl) (by kernel_rfl) (fun _ _ _ h => h) ?hy28x7 (by assumption) ?r28x7
                    case hi28x7 => simp only [List.getElem?_toArray, List.getElem?_cons_succ, List.getElem?_cons_zero]; rfl
                    case hy28x7 => exact Or.inl ⟨by rfl, by (intro w hSw; (try dsimp only at hSw); go_simp) <;> with_reducible rfl⟩
                    try simp only [Act.put, List.setIfInBounds_toArray, List.set_cons_zero, List.set_cons_succ]
                    refine wpAnyH_take (i := 29) (oi := ?o29x7) (v := ?v29x7) ?hi29x7 (by kernel_rfl) (by kernel_rfl) (by kernel_rfl) (fun _ _ _ h => h) ?hy29x7 (by assumption) ?r29x7
                    case hi29x7 => simp only [List.getElem?_toArray, List.getElem?_cons_succ, List.getElem?_cons_zero]; rfl
                    case hy29x7 => exact Or.inl ⟨by rfl, by (intro w hSw; (try dsimp only at hSw); go_simp) <;> with_reducible rfl⟩
                    try simp only [Act.put, List.setIfInBounds_toArray, List.set_cons_zero, List.set_cons_succ]
                    refine wpAnyH_done (by kernel_rfl) ?_ _
                    refine NoPanic.normal ?_
                    have HH3 := Lib.hid hHeld
                    clear hHeld HBD
                    have HOm := Lib.hid (own_below (own_take HO.out hm2) (HH3.out.bel))
                    go_wp2_with (at_builtin; refine wpList_append_own _ rfl _ _ 89 rfl w.heap.size 3 i0 _ 1 8 Tryd.underlying89 hi hz0 hz1 hz2 rfl (by decide) _ _ _ rfl (HOm.out.alloc _) ⟨_, 0, none⟩ 1 1 [E (k : Nat)] rfl rfl (one_cell (heap_alloc_new _ _)) (one_one _) (by unfold maxLen; omega) (by omega) (by have h1 := HB.out.size; have h2 := HH3.out.bel.size; simp; omega) ?_)
                    rintro v' w4 hown hgrow -
                    have HB4 := Lib.hid (((HB.out.trans (HH3.out.bel.mono HB.out.size)).alloc (by have h1 := HB.out.size; have h2 := HH3.out.bel.size; omega) _).grown hgrow (by have h1 := HB.out.size; have h2 := HH3.out.bel.size; simp; omega) (own_ge HOm.out))
                    have HO4 : Hid (w4.ownsRow w.heap.size 3 1 v' (push n k st).length (ns (push n k st))) := Lib.hid (by rw [HPU.out]; simpa [HM.out, ns] using hown)
                    obtain ⟨bo', n', cap', rfl⟩ : ∃ bo' n' cap', v' = .slice bo' n' cap' := by
                      rcases own_forms hown with ⟨rfl, _⟩ | ⟨g, cap, rfl, _⟩
                      · exact ⟨_, _, _, rfl⟩
                      · exact ⟨_, _, _, rfl⟩
                    clear hown hgrow
                    go_wp2
                    go_roundw
                    case rel => exact ⟨k + 1, push n k st, by omega, by go_num, Lib.hid (by rw [ordRun_succ HR.out hlt, HN.out, if_pos HOK.out]), HO4, HB4⟩
                    case measure => simp [intOf]; omega
                  · have CF := Lib.hid (show ∀ W, Below wr.heap.size wr W → Calls Tryd.prog 57 #[.slice (some ⟨B0, o0, none⟩) l.length c, NV n] W fun e w' => e = .returned (.bool false) ∧ Below W.heap.size W w' from fun W hb => by
                      have := HFT.out W hb (fun _ => ⟨x, by have := HXL.out; omega, HXA.out.symm⟩) (fun q => absurd q HNK.out)
                      rwa [decide_eq_false hfi] at this)
                    have HFI := Lib.hid hfi
                    clear hfi
                    go_wp2_with (first
                      | (go_at_call 18; refine (CPa _).mono ?_; rintro e w1 ⟨rfl, hb1⟩; have HH1 := Lib.hid (HH0.out.below hb1); clear hb1; obtain ⟨r0, r1, r2, r3, r4, r5, r6, r7, r8, r9, _⟩ := HH1.out)
                      | (go_at_call 56; refine (COn _).mono ?_; rintro e w2 ⟨rfl, hb2⟩; have HH2 := Lib.hid (HH1.out.below hb2); clear hb2; obtain ⟨s0, s1, s2, s3, s4, s5, s6, s7, s8, s9, _⟩ := HH2.out; clear HH1))
                    have HS0 := Lib.hid ((⟨(HH2.out.bel.cell (lt_cell Q10.out)).trans Q10.out, HH2.out⟩ : NH1 wr w2 wr.heap.size n g m x))
                    refine wp_region_noPanic ?_
                    refine wp_region_held_drew (S := fun w' => NH1 wr w' wr.heap.size n g m x) (by kernel_rfl) ?_ (fun hHeld => ?_)
                    · (try dsimp only); exact NH1.drew HS0.out
                    clear HS0
                    have HBD := Lib.hid (NH1.bel hHeld)
                    generalize w2.drew = w3 at *
                    refine wpAnyH_take (i := 0) (oi := ?o0x8) (v := ?v0x8) ?hi0x8 (by kernel_rfl) (by kernel_rfl) (by kernel_rfl) (fun _ _ _ h => h) ?hy0x8 (by assumption) ?r0x8
                    case hi0x8 => simp only [List.getElem?_toArray, List.getElem?_cons_succ, List.getElem?_cons_zero]; rfl
                    case hy0x8 => exact Or.inl ⟨by rfl, by (intro w hSw; (try dsimp only at hSw); go_simp) <;> with_reducible rfl⟩
                    try simp only [Act.put, List.setIfInBounds_toArray, List.set_cons_zero, List.set_cons_succ]
                    refine wpAnyH_take (i := 1) (oi := ?o1x8) (v := ?v1x8) ?hi1x8 (by kernel_rfl) (by kernel_rfl) (by kernel_rfl) (fun _ _ _ h => h) ?hy1x8 (by assumption) ?r1x8
                    case hi1x8 => simp only [List.getElem?_toArray, List.getElem?_cons_succ, List.getElem?_cons_zero]; rfl
                    case hy1x8 => exact Or.inl ⟨by rfl, by (intro w hSw; (try dsimp only at hSw); go_simp) <;> with_reducible rfl⟩
                    try simp only [Act.put, List.setIfInBounds_toArray, List.set_cons_zero, List.set_cons_succ]
                    refine wpAnyH_take (i := 2) (oi := ?o2x8) (v := ?v2x8) ?hi2x8 (by kernel_rfl) (by kernel_rfl) (by kernel_rfl) (fun _ _ _ h => h) ?hy2x8 (by assumption) ?r2x8
                    case hi2x8 => simp only [List.getElem?_toArray, List.getElem?_cons_succ, List.getElem?_cons_zero]; rfl
                    case hy2x8 => exact Or.inl ⟨by rfl, by (intro w hSw; (try dsimp only at hSw); go_simp) <;> with_reducible rfl⟩
                    try simp only [Act.put, List.setIfInBounds_toArray, List.set_cons_zero, List.set_cons_succ]
                    refine wpAnyH_take (i := 3) (oi := ?o3x8) (v := ?v3x8) ?hi3x8 (by kernel_rfl) (by kernel_rfl) (by kernel_rfl) (fun _ _ _ h => h) ?hy3x8 (by assumption) ?r3x8
                    case hi3x8 => simp only [List.getElem?_toArray, List.getElem?_cons_succ, List.getElem?_cons_zero]; rfl
                    case hy3x8 => exact Or.inl ⟨by rfl, by (intro w hSw; (try dsimp only at hSw); go_simp) <;> with_reducible rfl⟩
                    try simp only [Act.put, List.setIfInBounds_toArray, List.set_cons_zero, List.set_cons_succ]
                    refine wpAnyH_take (i := 4) (oi := ?o4x8) (v := ?v4x8) ?hi4x8 (by kernel_rfl) (by kernel_rfl) (by kernel_rfl) (fun _ _ _ h => h) ?hy4x8 (by assumption) ?r4x8
                    case hi4x8 => simp only [List.getElem?_toArray, List.getElem?_cons_succ, List.getElem?_cons_zero]; rfl
                    case hy4x8 => exact Or.inl ⟨by rfl, by (intro w hSw; (try dsimp only at hSw); go_simp) <;> with_reducible rfl⟩
                    try simp only [Act.put, List.setIfInBounds_toArray, List.set_cons_zero, List.set_cons_succ]
                    refine wpAnyH_take (i := 5) (oi := ?o5x8) (v := ?v5x8) ?hi5x8 (by kernel_rfl) (by kernel_rfl) (by kernel_rfl) (fun _ _ _ h => h) ?hy5x8 (by assumption) ?r5x8
                    case hi5x8 => simp only [List.getElem?_toArray, List.getElem?_cons_succ, List.getElem?_cons_zero]; rfl
                    case hy5x8 => exact Or.inl ⟨by rfl, by (intro w hSw; (try dsimp only at hSw); go_simp) <;> with_reducible rfl⟩
                    try simp only [Act.put, List.setIfInBounds_toArray, List.set_cons_zero, List.set_cons_succ]
                    refine wpAnyH_take (i := 6) (oi := ?o6x8) (v := ?v6x8) ?hi6x8 (by kernel_rfl) (by kernel_rfl) (by kernel_rfl) (fun _ _ _ h => h) ?hy6x8 (by assumption) ?r6x8
                    case hi6x8 => simp only [List.getElem?_toArray, List.getElem?_cons_succ, List.getElem?_cons_zero]; rfl
                    case hy6x8 => exact Or.inl ⟨by rfl, by (intro w hSw; (try dsimp only at hSw); go_simp) <;> with_reducible rfl⟩
                    try simp only [Act.put, List.setIfInBounds_toArray, List.set_cons_zero, List.set_cons_succ]
                    refine wpAnyH_take (i := 7) (oi := ?o7x8) (v := ?v7x8) ?hi7x8 (by kernel_rfl) (by kernel_rfl) (by kernel_rfl) (fun _ _ _ h => h) ?hy7x8 (by assumption) ?r7x8
                    case hi7x8 => simp only [List.getElem?_toArray, List.getElem?_cons_succ, List.getElem?_cons_zero]; rfl
                    case hy7x8 => exact Or.inl ⟨by rfl, by (intro w hSw; (try dsimp only at hSw); go_simp) <;> with_reducible rfl⟩
                    try simp only [Act.put, List.setIfInBounds_toArray, List.set_cons_zero, List.set_cons_succ]
                    refine wpAnyH_take (i := 8) (oi := ?o8x8) (v := ?v8x8) ?hi8x8 (by kernel_rfl) (by kernel_rfl) (by kernel_rfl) (fun _ _ _ h => h) ?hy8x8 (by assumption) ?r8x8
                    case hi8x8 => simp only [List.getElem?_toArray, List.getElem?_cons_succ, List.getElem?_cons_zero]; rfl
                    case hy8x8 => exact Or.inl ⟨by rfl, by (intro w hSw; (try dsimp only at hSw); go_simp) <;> with_reducible rfl⟩
                    try simp only [Act.put, List.setIfInBounds_toArray, List.set_cons_zero, List.set_cons_succ]
                    refine wpAnyH_take (i := 9) (oi := ?o9x8) (v := ?v9x8) ?hi9x8 (by kernel_rfl) (by kernel_rfl) (by kernel_rfl) (fun _ _ _ h => h) ?hy9x8 (by assumption) ?r9x8
                    case hi9x8 => simp only [List.getElem?_toArray, List.getElem?_cons_succ, List.getElem?_cons_zero]; rfl
                    case hy9x8 => exact Or.inl ⟨by rfl, by (intro w hSw; (try dsimp only at hSw); go_simp) <;> with_reducible rfl⟩
                    try simp only [Act.put, List.setIfInBounds_toArray, List.set_cons_zero, List.set_cons_succ]
                    refine wpAnyH_take (i := 10) (oi := ?o10x8) (v := ?v10x8) ?hi10x8 (by kernel_rfl) (by kernel_rfl) (by kernel_rfl) (fun _ _ _ h => h) ?hy10x8 (by assumption) ?r10x8
                    case hi10x8 => simp only [List.getElem?_toArray, List.getElem?_cons_succ, List.getElem?_cons_zero]; rfl
                    case hy10x8 => exact Or.inl ⟨by rfl, by (intro w hSw; (try dsimp only at hSw); go_simp) <;> with_reducible rfl⟩
                    try simp only [Act.put, List.setIfInBounds_toArray, List.set_cons_zero, List.set_cons_succ]
                    refine wpAnyH_take (i := 11) (oi := ?o11x8) (v := ?v11x8) ?hi11x8 (by kernel_rfl) (by kernel_rfl) (by kernel_rfl) (fun _ _ _ h => h) ?hy11x8 (by assumption) ?r11x8
                    case hi11x8 => simp only [List.getElem?_toArray, List.getElem?_cons_succ, List.getElem?_cons_zero]; rfl
                    case hy11x8 => exact Or.inl ⟨by rfl, by (intro w hSw; (try dsimp only at hSw); go_simp) <;> with_reducible rfl⟩
                    try simp only [Act.put, List.setIfInBounds_toArray, List.set_cons_zero, List.set_cons_succ]
                    refine wpAnyH_take (i := 12) (oi := ?o12x8) (v := ?v12x8) ?hi12x8 (by kernel_rfl) (by kernel_rfl) (by kernel_rfl) (fun _ _ _ h => h) ?hy12x8 (by assumption) ?r12x8
                    case hi12x8 => simp only [List.getElem?_toArray, List.getElem?_cons_succ, List.getElem?_cons_zero]; rfl
                    case hy12x8 => exact Or.inl ⟨by rfl, by (intro w hSw; (try dsimp only at hSw); go_simp) <;> with_reducible rfl⟩
                    try simp only [Act.put, List.setIfInBounds_toArray, List.set_cons_zero, List.set_cons_succ]
                    refine wpAnyH_take (i := 13) (oi := ?o13x8) (v := ?v13x8) ?hi13x8 (by kernel_rfl) (by kernel_rfl) (by kernel_rfl) (fun _ _ _ h => h) ?hy13x8 (by assumption) ?r13x8
                    case hi13x8 => simp only [List.getElem?_toArray, List.getElem?_cons_succ, List.getElem?_cons_zero]; rfl
                    case hy13x8 => exact Or.inl ⟨by rfl, by (intro w hSw; (try dsimp only at hSw); go_simp) <;> with_reducible rfl⟩
                    try simp only [Act.put, List.setIfInBounds_toArray, List.set_cons_zero, List.set_cons_succ]
                    refine wpAnyH_take (i := 14) (oi := ?o14x8) (v := ?v14x8) ?hi14x8 (by kernel_rfl) (by kernel_rfl) (by kernel_rfl) (fun _ _ _ h => h) ?hy14x8 (by assumption) ?r14x8
                    case hi14x8 => simp only [List.getElem?_toArray, List.getElem?_cons_succ, List.getElem?_cons_zero]; rfl
                    case hy14x8 => exact Or.inl ⟨by rfl, by (intro w hSw; (try dsimp only at hSw); go_simp) <;> with_reducible rfl⟩
                    try simp only [Act.put, List.setIfInBounds_toArray, List.set_cons_zero, List.set_cons_succ]
                    refine wpAnyH_take (i := 15) (oi := ?o15x8) (v := undef) ?hi15x8 (by kernel_rfl) (by kernel_rfl) (by kernel_rfl) (fun _ _ _ h => h) ?hy15x8 (by assumption) ?r15x8
                    case hi15x8 => simp only [List.getElem?_toArray, List.getElem?_cons_succ, List.getElem?_cons_zero]; rfl
                    case hy15x8 => exact Or.inr ⟨by rfl, rfl⟩
                    try simp only [Act.put, List.setIfInBounds_toArray, List.set_cons_zero, List.set_cons_succ]
                    refine wpAnyH_take (i := 16) (oi := ?o16x8) (v := undef) ?hi16x8 (by kernel_rfl) (by kernel_rfl) (by kernel_rfl) (fun _ _ _ h => h) ?hy16x8 (by assumption) ?r16x8
                    case hi16x8 => simp only [List.getElem?_toArray, List.getElem?_cons_succ, List.getElem?_cons_zero]; rfl
                    case hy16x8 => exact Or.inr ⟨by rfl, rfl⟩
                    try simp only [Act.put, List.setIfInBounds_toArray, List.set_cons_zero, List.set_cons_succ]
                    refine wpAnyH_take (i := 17) (oi := ?o17x8) (v := undef) ?hi17x8 (by kernel_rfl) (by kernel_rfl) (by kernel_rfl) (fun _ _ _ h => h) ?hy17x8 (by assumption) ?r17x8
                    case hi17x8 => simp only [List.getElem?_toArray, List.getElem?_cons_succ, List.getElem?_cons_zero]; rfl
                    case hy17x8 => exact Or.inr ⟨by rfl, rfl⟩
                    try simp only [Act.put, List.setIfInBounds_toArray, List.set_cons_zero, List.set_cons_succ]
                    refine wpAnyH_take (i := 18) (oi := ?o18x8) (v := undef) ?hi18x8 (by kernel_rfl) (by kernel_rfl) (by kernel_rfl) (fun _ _ _ h => h) ?hy18x8 (by assumption) ?r18x8
                    case hi18x8 => simp only [List.getElem?_toArray, List.getElem?_cons_succ, List.getElem?_cons_zero]; rfl
                    case hy18x8 => exact Or.inr ⟨by rfl, rfl⟩
                    try simp only [Act.put, List.setIfInBounds_toArray, List.set_cons_zero, List.set_cons_succ]
                    refine wpAnyH_take (i := 19) (oi := ?o19x8) (v := undef) ?hi19x8 (by kernel_rfl) (by kernel_rfl) (by kernel_rfl) (fun _ _ _ h => h) ?hy19x8 (by assumption) ?r19x8
                    case hi19x8 => simp only [List.getElem?_toArray, List.getElem?_cons_succ, List.getElem?_cons_zero]; rfl
                    case hy19x8 => exact Or.inr ⟨by rfl, rfl⟩
                    try simp only [Act.put, List.setIfInBounds_toArray, List.set_cons_zero, List.set_cons_succ]
                    refine wpAnyH_take (i := 20) (oi := ?o20x8) (v := undef) ?hi20x8 (by kernel_rfl) (by kernel_rfl) (by kernel_rfl) (fun _ _ _ h => h) ?hy20x8 (by assumption) ?r20x8
                    case hi20x8 => simp only [List.getElem?_toArray, List.getElem?_cons_succ, List.getElem?_cons_zero]; rfl
                    case hy20x8 => exact Or.inr ⟨by rfl, rfl⟩
                    try simp only [Act.put, List.setIfInBounds_toArray, List.set_cons_zero, List.set_cons_succ]
                    refine wpAnyH_take (i := 21) (oi := ?o21x8) (v := ?v21x8) ?hi21x8 (by kernel_rfl) (by kernel_rfl) (by kernel_rfl) (fun _ _ _ h => h) ?hy21x8 (by assumption) ?r21x8
                    case hi21x8 => simp only [List.getElem?_toArray, List.getElem?_cons_succ, List.getElem?_cons_zero]; rfl
                    case hy21x8 => exact Or.inl ⟨by rfl, by (intro w hSw; (try dsimp only at hSw); go_simp) <;> with_reducible rfl⟩
                    try simp only [Act.put, List.setIfInBounds_toArray, List.set_cons_zero, List.set_cons_succ]
                    refine wpAnyH_take (i := 22) (oi := ?o22x8) (v := ?v22x8) ?hi22x8 (by kernel_rfl) (by kernel_rfl) (by kernel_rfl) (fun _ _ _ h => h) ?hy22x8 (by assumption) ?r22x8
                    case hi22x8 => simp only [List.getElem?_toArray, List.getElem?_cons_succ, List.getElem?_cons_zero]; rfl
                    case hy22x8 => exact Or.inl ⟨by rfl, by (intro w hSw; (try dsimp only at hSw); go_simp) <;> with_reducible rfl⟩
                    try simp only [Act.put, List.setIfInBounds_toArray, List.set_cons_zero, List.set_cons_succ]
                    refine wpAnyH_take (i := 23) (oi := ?o23x8) (v := ?v23x8) ?hi23x8 (by kernel_rfl) (by kernel_rfl) (by kernel_rfl) (fun _ _ _ h => h) ?hy23x8 (by assumption) ?r23x8
                    case hi23x8 => simp only [List.getElem?_toArray, List.getElem?_cons_succ, List.getElem?_cons_zero]; rfl
                    case hy23x8 => exact Or.inl ⟨by rfl, by (intro w hSw; (try dsimp only at hSw); go_simp) <;> with_reducible rfl⟩
                    try simp only [Act.put, List.setIfInBounds_toArray, List.set_cons_zero, List.set_cons_succ]
                    refine wpAnyH_take (i := 24) (oi := ?o24x8) (v := ?v24x8) ?hi24x8 (by kernel_rfl) (by kernel_rfl) (by kernel_rfl) (fun _ _ _ h => h) ?hy24x8 (by assumption) ?r24x8
                    case hi24x8 => simp only [List.getElem?_toArray, List.getElem?_cons_succ, List.getElem?_cons_zero]; rfl
                    case hy24x8 => exact Or.inl ⟨by rfl, by (intro w hSw; (try dsimp only at hSw); go_simp) <;> with_reducible rfl⟩
                    try simp only [Act.put, List.setIfInBounds_toArray, List.set_cons_zero, List.set_cons_succ]
                    refine wpAnyH_take (i := 25) (oi := ?o25x8) (v := ?v25x8) ?hi25x8 (by kernel_rfl) (by kernel_rfl) (by kernel_rfl) (fun _ _ _ h => h) ?hy25x8 (by assumption) ?r25x8
                    case hi25x8 => simp only [List.getElem?_toArray, List.getElem?_cons_succ, List.getElem?_cons_zero]; rfl
                    case hy25x8 => exact Or.inl ⟨by rfl, by (intro w hSw; (try dsimp only at hSw); go_simp) <;> with_reducible rfl⟩
                    try simp only [Act.put, List.setIfInBounds_toArray, List.set_cons_zero, List.set_cons_succ]
                    refine wpAnyH_take (i := 26) (oi := ?o26x8) (v := ?v26x8) ?hi26x8 (by kernel_rfl) (by kernel_rfl) (by kernel_rfl) (fun _ _ _ h => h) ?hy26x8 (by assumption) ?r26x8
                    case hi26x8 => simp only [List.getElem?_toArray, List.getElem?_cons_succ, List.getElem?_cons_zero]; rfl
                    case hy26x8 => exact Or.inl ⟨by rfl, by (intro w hSw; (try dsimp only at hSw); go_simp) <;> with_reducible rfl⟩
                    try simp only [Act.put, List.setIfInBounds_toArray, List.set_cons_zero, List.set_cons_succ]
                    refine wpAnyH_ready (rs := [27]) (by kernel_rfl) (by simp) ?_
                    refine AllReadyH.cons (o := ?o27x8) ?hi27x8 (fun K hK => ?st27x8) AllReadyH.nil
                    case hi27x8 => simp only [List.getElem?_toArray, List.getElem?_cons_succ, List.getElem?_cons_zero]; rfl
                    go_simp
                    (go_at_call 57; refine (CF.out _ (NH1.bel hHeld)).mono ?_; rintro e w' ⟨rfl, hbl⟩)
                    refine hK.out _ _ ?_ (fun hHeld => ?_)
                    · (try dsimp only); (exact NH1.below hHeld hbl)
                    clear hK K
                    try simp only [Act.put, List.setIfInBounds_toArray, List.set_cons_zero, List.set_cons_succ]
                    refine wpAnyH_take (i := 28) (oi := ?o28x8) (v := ?v28x8) ?hi28x8 (by kernel_rfl) (by kernel_rfl) (by kernel_rfl) (fun _ _ _ h => h) ?hy28x8 (by assumption) ?r28x8
                    case hi28x8 => simp only [List.getElem?_toArray, List.getElem?_cons_succ, List.getElem?_cons_zero]; rfl
                    case hy28x8 => exact Or.inl ⟨by rfl, by (intro w hSw; (try dsimp only at hSw); go_simp) <;> with_reducible rfl⟩
                    try simp only [Act.put, List.setIfInBounds_toArray, List.set_cons_zero, List.set_cons_succ]
                    refine wpAnyH_take (i := 29) (oi := ?o29x8) (v := ?v29x8) ?hi29x8 (by kernel_rfl) (by kernel_rfl) (by kernel_rfl) (fun _ _ _ h => h) ?hy29x8 (by assumption) ?r29x8
                    case hi29x8 => simp only [List.getElem?_toArray, List.getElem?_cons_succ, List.getElem?_cons_zero]; rfl
                    case hy29x8 => exact Or.inl ⟨by rfl, by (intro w hSw; (try dsimp only at hSw); go_simp) <;> with_reducible rfl⟩
                    try simp only [Act.put, List.setIfInBounds_toArray, List.set_cons_zero, List.set_cons_succ]
                    refine wpAnyH_done (by kernel_rfl) ?_ _
                    refine NoPanic.normal ?_
                    have HH3 := Lib.hid hHeld
                    clear hHeld HBD
                    go_wp2
                    go_ret
                    exact HBAD.out _ (fun q => HFI.out q.2.2.2.2) (HB.out.trans (HH3.out.bel.mono HB.out.size))
                · have hxB : ((x : Int) != n.a) = true := by rw [bne_iff_ne]; exact hxa
                  have HXA := Lib.hid hxa
                  clear hxa
                  go_wp2_with (first
                    | (go_at_call 18; refine (CPa _).mono ?_; rintro e w1 ⟨rfl, hb1⟩; have HH1 := Lib.hid (HH0.out.below hb1); clear hb1; obtain ⟨r0, r1, r2, r3, r4, r5, r6, r7, r8, r9, _⟩ := HH1.out)
                    | (go_at_call 56; refine (COn _).mono ?_; rintro e w2 ⟨rfl, hb2⟩; have HH2 := Lib.hid (HH1.out.below hb2); clear hb2; obtain ⟨s0, s1, s2, s3, s4, s5, s6, s7, s8, s9, _⟩ := HH2.out; clear HH1))
                  have HS0 := Lib.hid ((⟨(HH2.out.bel.cell (lt_cell Q10.out)).trans Q10.out, HH2.out⟩ : NH1 wr w2 wr.heap.size n g m x))
                  refine wp_region_noPanic ?_
                  refine wp_region_held_drew (S := fun w' => NH1 wr w' wr.heap.size n g m x) (by kernel_rfl) ?_ (fun hHeld => ?_)
                  · (try dsimp only); exact NH1.drew HS0.out
                  clear HS0
                  have HBD := Lib.hid (NH1.bel hHeld)
                  generalize w2.drew = w3 at *
                  refine wpAnyH_take (i := 0) (oi := ?o0x9) (v := ?v0x9) ?hi0x9 (by kernel_rfl) (by kernel_rfl) (by kernel_rfl) (fun _ _ _ h => h) ?hy0x9 (by assumption) ?r0x9
                  case hi0x9 => simp only [List.getElem?_toArray, List.getElem?_cons_succ, List.getElem?_cons_zero]; rfl
                  case hy0x9 => exact Or.inl ⟨by rfl, by (intro w hSw; (try dsimp only at hSw); go_simp) <;> with_reducible rfl⟩
                  try simp only [Act.put, List.setIfInBounds_toArray, List.set_cons_zero, List.set_cons_succ]
                  refine wpAnyH_take (i := 1) (oi := ?o1x9) (v := ?v1x9) ?hi1x9 (by kernel_rfl) (by kernel_rfl) (by kernel_rfl) (fun _ _ _ h => h) ?hy1x9 (by assumption) ?r1x9
                  case hi1x9 => simp only [List.getElem?_toArray, List.getElem?_cons_succ, List.getElem?_cons_zero]; rfl
                  case hy1x9 => exact Or.inl ⟨by rfl, by (intro w hSw; (try dsimp only at hSw); go_simp) <;> with_reducible rfl⟩
                  try simp only [Act.put, List.setIfInBounds_toArray, List.set_cons_zero, List.set_cons_succ]
                  refine wpAnyH_take (i := 2) (oi := ?o2x9) (v := ?v2x9) ?hi2x9 (by kernel_rfl) (by kernel_rfl) (by kernel_rfl) (fun _ _ _ h => h) ?hy2x9 (by assumption) ?r2x9
                  case hi2x9 => simp only [List.getElem?_toArray, List.getElem?_cons_succ, List.getElem?_cons_zero]; rfl
                  case hy2x9 => exact Or.inl ⟨by rfl, by (intro w hSw; (try dsimp only at hSw); go_simp) <;> with_reducible rfl⟩
                  try simp only [Act.put, List.setIfInBounds_toArray, List.set_cons_zero, List.set_cons_succ]
                  refine wpAnyH_take (i := 3) (oi := ?o3x9) (v := ?v3x9) ?hi3x9 (by kernel_rfl) (by kernel_rfl) (by kernel_rfl) (fun _ _ _ h => h) ?hy3x9 (by assumption) ?r3x9
                  case hi3x9 => simp only [List.getElem?_toArray, List.getElem?_cons_succ, List.getElem?_cons_zero]; rfl
                  case hy3x9 => exact Or.inl ⟨by rfl, by (intro w hSw; (try dsimp only at hSw); go_simp) <;> with_reducible rfl⟩
                  try simp only [Act.put, List.setIfInBounds_toArray, List.set_cons_zero, List.set_cons_succ]
                  refine wpAnyH_take (i := 4) (oi := ?o4x9) (v := ?v4x9) ?hi4x9 (by kernel_rfl) (by kernel_rfl) (by kernel_rfl) (fun _ _ _ h => h) ?hy4x9 (by assumption) ?r4x9
                  case hi4x9 => simp only [List.getElem?_toArray, List.getElem?_cons_succ, List.getElem?_cons_zero]; rfl
                  case hy4x9 => exact Or.inl ⟨by rfl, by (intro w hSw; (try dsimp only at hSw); go_simp) <;> with_reducible rfl⟩
                  try simp only [Act.put, List.setIfInBounds_toArray, List.set_cons_zero, List.set_cons_succ]
                  refine wpAnyH_take (i := 5) (oi := ?o5x9) (v := ?v5x9) ?hi5x9 (by kernel_rfl) (by kernel_rfl) (by kernel_rfl) (fun _ _ _ h => h) ?hy5x9 (by assumption) ?r5x9
                  case hi5x9 => simp only [List.getElem?_toArray, List.getElem?_cons_succ, List.getElem?_cons_zero]; rfl
                  case hy5x9 => exact Or.inl ⟨by rfl, by (intro w hSw; (try dsimp only at hSw); go_simp) <;> with_reducible rfl⟩
                  try simp only [Act.put, List.setIfInBounds_toArray, List.set_cons_zero, List.set_cons_succ]
                  refine wpAnyH_take (i := 6) (oi := ?o6x9) (v := ?v6x9) ?hi6x9 (by kernel_rfl) (by kernel_rfl) (by kernel_rfl) (fun _ _ _ h => h) ?hy6x9 (by assumption) ?r6x9
                  case hi6x9 => simp only [List.getElem?_toArray, List.getElem?_cons_succ, List.getElem?_cons_zero]; rfl
                  case hy6x9 => exact Or.inl ⟨by rfl, by (intro w hSw; (try dsimp only at hSw); go_simp) <;> with_reducible rfl⟩
                  try simp only [Act.put, List.setIfInBounds_toArray, List.set_cons_zero, List.set_cons_succ]
                  refine wpAnyH_take (i := 7) (oi := ?o7x9) (v := ?v7x9) ?hi7x9 (by kernel_rfl) (by kernel_rfl) (by kernel_rfl) (fun _ _ _ h => h) ?hy7x9 (by assumption) ?r7x9
                  case hi7x9 => simp only [List.getElem?_toArray, List.getElem?_cons_succ, List.getElem?_cons_zero]; rfl
                  case hy7x9 => exact Or.inl ⟨by rfl, by (intro w hSw; (try dsimp only at hSw); go_simp) <;> with_reducible rfl⟩
                  try simp only [Act.put, List.setIfInBounds_toArray, List.set_cons_zero, List.set_cons_succ]
                  refine wpAnyH_take (i := 8) (oi := ?o8x9) (v := ?v8x9) ?hi8x9 (by kernel_rfl) (by kernel_rfl) (by kernel_rfl) (fun _ _ _ h => h) ?hy8x9 (by assumption) ?r8x9
                  case hi8x9 => simp only [List.getElem?_toArray, List.getElem?_cons_succ, List.getElem?_cons_zero]; rfl
                  case hy8x9 => exact Or.inl ⟨by rfl, by (intro w hSw; (try dsimp only at hSw); go_simp) <;> with_reducible rfl⟩
                  try simp only [Act.put, List.setIfInBounds_toArray, List.set_cons_zero, List.set_cons_succ]
                  refine wpAnyH_take (i := 9) (oi := ?o9x9) (v := ?v9x9) ?hi9x9 (by kernel_rfl) (by kernel_rfl) (by kernel_rfl) (fun _ _ _ h => h) ?hy9x9 (by assumption) ?r9x9
                  case hi9x9 => simp only [List.getElem?_toArray, List.getElem?_cons_succ, List.getElem?_cons_zero]; rfl
                  case hy9x9 => exact Or.inl ⟨by rfl, by (intro w hSw; (try dsimp only at hSw); go_simp) <;> with_reducible rfl⟩
                  try simp only [Act.put, List.setIfInBounds_toArray, List.set_cons_zero, List.set_cons_succ]
                  refine wpAnyH_take (i := 10) (oi := ?o10x9) (v := ?v10x9) ?hi10x9 (by kernel_rfl) (by kernel_rfl) (by kernel_rfl) (fun _ _ _ h => h) ?hy10x9 (by assumption) ?r10x9
                  case hi10x9 => simp only [List.getElem?_toArray, List.getElem?_cons_succ, List.getElem?_cons_zero]; rfl
                  case hy10x9 => exact Or.inl ⟨by rfl, by (intro w hSw; (try dsimp only at hSw); go_simp) <;> with_reducible rfl⟩
                  try simp only [Act.put, List.setIfInBounds_toArray, List.set_cons_zero, List.set_cons_succ]
                  refine wpAnyH_take (i := 11) (oi := ?o11x9) (v := undef) ?hi11x9 (by kernel_rfl) (by kernel_rfl) (by kernel_rfl) (fun _ _ _ h => h) ?hy11x9 (by assumption) ?r11x9
                  case hi11x9 => simp only [List.getElem?_toArray, List.getElem?_cons_succ, List.getElem?_cons_zero]; rfl
                  case hy11x9 => exact Or.inr ⟨by rfl, rfl⟩
                  try simp only [Act.put, List.setIfInBounds_toArray, List.set_cons_zero, List.set_cons_succ]
                  refine wpAnyH_take (i := 12) (oi := ?o12x9) (v := undef) ?hi12x9 (by kernel_rfl) (by kernel_rfl) (by kernel_rfl) (fun _ _ _ h => h) ?hy12x9 (by assumption) ?r12x9
                  case hi12x9 => simp only [List.getElem?_toArray, List.getElem?_cons_succ, List.getElem?_cons_zero]; rfl
                  case hy12x9 => exact Or.inr ⟨by rfl, rfl⟩
                  try simp only [Act.put, List.setIfInBounds_toArray, List.set_cons_zero, List.set_cons_succ]
                  refine wpAnyH_take (i := 13) (oi := ?o13x9) (v := undef) ?hi13x9 (by kernel_rfl) (by kernel_rfl) (by kernel_rfl) (fun _ _ _ h => h) ?hy13x9 (by assumption) ?r13x9
                  case hi13x9 => simp only [List.getElem?_toArray, List.getElem?_cons_succ, List.getElem?_cons_zero]; rfl
                  case hy13x9 => exact Or.inr ⟨by rfl, rfl⟩
                  try simp only [Act.put, List.setIfInBounds_toArray, List.set_cons_zero, List.set_cons_succ]
                  refine wpAnyH_take (i := 14) (oi := ?o14x9) (v := undef) ?hi14x9 (by kernel_rfl) (by kernel_rfl) (by kernel_rfl) (fun _ _ _ h => h) ?hy14x9 (by assumption) ?r14x9
                  case hi14x9 => simp only [List.getElem?_toArray, List.getElem?_cons_succ, List.getElem?_cons_zero]; rfl
                  case hy14x9 => exact Or.inr ⟨by rfl, rfl⟩
                  try simp only [Act.put, List.setIfInBounds_toArray, List.set_cons_zero, List.set_cons_succ]
                  refine wpAnyH_take (i := 15) (oi := ?o15x9) (v := undef) ?hi15x9 (by kernel_rfl) (by kernel_rfl) (by kernel_rfl) (fun _ _ _ h => h) ?hy15x9 (by assumption) ?r15x9
                  case hi15x9 => simp only [List.getElem?_toArray, List.getElem?_cons_succ, List.getElem?_cons_zero]; rfl
                  case hy15x9 => exact Or.inr ⟨by rfl, rfl⟩
                  try simp only [Act.put, List.setIfInBounds_toArray, List.set_cons_zero, List.set_cons_succ]
                  refine wpAnyH_take (i := 16) (oi := ?o16x9) (v := undef) ?hi16x9 (by kernel_rfl) (by kernel_rfl) (by kernel_rfl) (fun _ _ _ h => h) ?hy16x9 (by assumption) ?r16x9
                  case hi16x9 => simp only [List.getElem?_toArray, List.getElem?_cons_succ, List.getElem?_cons_zero]; rfl
                  case hy16x9 => exact Or.inr ⟨by rfl, rfl⟩
                  try simp only [Act.put, List.setIfInBounds_toArray, List.set_cons_zero, List.set_cons_succ]
                  refine wpAnyH_take (i := 17) (oi := ?o17x9) (v := undef) ?hi17x9 (by kernel_rfl) (by kernel_rfl) (by kernel_rfl) (fun _ _ _ h => h) ?hy17x9 (by assumption) ?r17x9
                  case hi17x9 => simp only [List.getElem?_toArray, List.getElem?_cons_succ, List.getElem?_cons_zero]; rfl
                  case hy17x9 => exact Or.inr ⟨by rfl, rfl⟩
                  try simp only [Act.put, List.setIfInBounds_toArray, List.set_cons_zero, List.set_cons_succ]
                  refine wpAnyH_take (i := 18) (oi := ?o18x9) (v := undef) ?hi18x9 (by kernel_rfl) (by kernel_rfl) (by kernel_rfl) (fun _ _ _ h => h) ?hy18x9 (by assumption) ?r18x9
                  case hi18x9 => simp only [List.getElem?_toArray, List.getElem?_cons_succ, List.getElem?_cons_zero]; rfl
                  case hy18x9 => exact Or.inr ⟨by rfl, rfl⟩
                  try simp only [Act.put, List.setIfInBounds_toArray, List.set_cons_zero, List.set_cons_succ]
                  refine wpAnyH_take (i := 19) (oi := ?o19x9) (v := undef) ?hi19x9 (by kernel_rfl) (by kernel_rfl) (by kernel_rfl) (fun _ _ _ h => h) ?hy19x9 (by assumption) ?r19x9
                  case hi19x9 => simp only [List.getElem?_toArray, List.getElem?_cons_succ, List.getElem?_cons_zero]; rfl
                  case hy19x9 => exact Or.inr ⟨by rfl, rfl⟩
                  try simp only [Act.put, List.setIfInBounds_toArray, List.set_cons_zero, List.set_cons_succ]
                  refine wpAnyH_take (i := 20) (oi := ?o20x9) (v := undef) ?hi20x9 (by kernel_rfl) (by kernel_rfl) (by kernel_rfl) (fun _ _ _ h => h) ?hy20x9 (by assumption) ?r20x9
                  case hi20x9 => simp only [List.getElem?_toArray, List.getElem?_cons_succ, List.getElem?_cons_zero]; rfl
                  case hy20x9 => exact Or.inr ⟨by rfl, rfl⟩
                  try simp only [Act.put, List.setIfInBounds_toArray, List.set_cons_zero, List.set_cons_succ]
                  refine wpAnyH_take (i := 21) (oi := ?o21x9) (v := undef) ?hi21x9 (by kernel_rfl) (by kernel_rfl) (by kernel_rfl) (fun _ _ _ h => h) ?hy21x9 (by assumption) ?r21x9
                  case hi21x9 => simp only [List.getElem?_toArray, List.getElem?_cons_succ, List.getElem?_cons_zero]; rfl
                  case hy21x9 => exact Or.inr ⟨by rfl, rfl⟩
                  try simp only [Act.put, List.setIfInBounds_toArray, List.set_cons_zero, List.set_cons_succ]
                  refine wpAnyH_take (i := 22) (oi := ?o22x9) (v := ?v22x9) ?hi22x9 (by kernel_rfl) (by kernel_rfl) (by kernel_rfl) (fun _ _ _ h => h) ?hy22x9 (by assumption) ?r22x9
                  case hi22x9 => simp only [List.getElem?_toArray, List.getElem?_cons_succ, List.getElem?_cons_zero]; rfl
                  case hy22x9 => exact Or.inl ⟨by rfl, by (intro w hSw; (try dsimp only at hSw); go_simp) <;> with_reducible rfl⟩
                  try simp only [Act.put, List.setIfInBounds_toArray, List.set_cons_zero, List.set_cons_succ]
                  refine wpAnyH_take (i := 23) (oi := ?o23x9) (v := ?v23x9) ?hi23x9 (by kernel_rfl) (by kernel_rfl) (by kernel_rfl) (fun _ _ _ h => h) ?hy23x9 (by assumption) ?r23x9
                  case hi23x9 => simp only [List.getElem?_toArray, List.getElem?_cons_succ, List.getElem?_cons_zero]; rfl
                  case hy23x9 => exact Or.inl ⟨by rfl, by (intro w hSw; (try dsimp only at hSw); go_simp) <;> with_reducible rfl⟩
                  try simp only [Act.put, List.setIfInBounds_toArray, List.set_cons_zero, List.set_cons_succ]
                  refine wpAnyH_take (i := 24) (oi := ?o24x9) (v := ?v24x9) ?hi24x9 (by kernel_rfl) (by kernel_rfl) (by kernel_rfl) (fun _ _ _ h => h) ?hy24x9 (by assumption) ?r24x9
                  case hi24x9 => simp only [List.getElem?_toArray, List.getElem?_cons_succ, List.getElem?_cons_zero]; rfl
                  case hy24x9 => exact Or.inl ⟨by rfl, by (intro w hSw; (try dsimp only at hSw); go_simp) <;> with_reducible rfl⟩
                  try simp only [Act.put, List.setIfInBounds_toArray, List.set_cons_zero, List.set_cons_succ]
                  refine wpAnyH_take (i := 25) (oi := ?o25x9) (v := undef) ?hi25x9 (by kernel_rfl) (by kernel_rfl) (by kernel_rfl) (fun _ _ _ h => h) ?hy25x9 (by assumption) ?r25x9
                  case hi25x9 => simp only [List.getElem?_toArray, List.getElem?_cons_succ, List.getElem?_cons_zero]; rfl
                  case hy25x9 => exact Or.inr ⟨by rfl, rfl⟩
                  try simp only [Act.put, List.setIfInBounds_toArray, List.set_cons_zero, List.set_cons_succ]
                  refine wpAnyH_take (i := 26) (oi := ?o26x9) (v := undef) ?hi26x9 (by kernel_rfl) (by kernel_rfl) (by kernel_rfl) (fun _ _ _ h => h) ?hy26x9 (by assumption) ?r26x9
                  case hi26x9 => simp only [List.getElem?_toArray, List.getElem?_cons_succ, List.getElem?_cons_zero]; rfl
                  case hy26x9 => exact Or.inr ⟨by rfl, rfl⟩
                  try simp only [Act.put, List.setIfInBounds_toArray, List.set_cons_zero, List.set_cons_succ]
                  refine wpAnyH_take (i := 27) (oi := ?o27x9) (v := undef) ?hi27x9 (by kernel_rfl) (by kernel_rfl) (by kernel_rfl) (fun _ _ _ h => h) ?hy27x9 (by assumption) ?r27x9
                  case hi27x9 => simp only [List.getElem?_toArray, List.getElem?_cons_succ, List.getElem?_cons_zero]; rfl
                  case hy27x9 => exact Or.inr ⟨by rfl, rfl⟩
                  try simp only [Act.put, List.setIfInBounds_toArray, List.set_cons_zero, List.set_cons_succ]
                  refine wpAnyH_take (i := 28) (oi := ?o28x9) (v := undef) ?hi28x9 (by kernel_rfl) (by kernel_rfl) (by kernel_rfl) (fun _ _ _ h => h) ?hy28x9 (by assumption) ?r28x9
                  case hi28x9 => simp only [List.getElem?_toArray, List.getElem?_cons_succ, List.getElem?_cons_zero]; rfl
                  case hy28x9 => exact Or.inr ⟨by rfl, rfl⟩
                  try simp only [Act.put, List.setIfInBounds_toArray, List.set_cons_zero, List.set_cons_succ]
                  refine wpAnyH_take (i := 29) (oi := ?o29x9) (v := ?v29x9) ?hi29x9 (by kernel_rfl) (by kernel_rfl) (by kernel_rfl) (fun _ _ _ h => h) ?hy29x9 (by assumption) ?r29x9
                  case hi29x9 => simp only [List.getElem?_toArray, List.getElem?_cons_succ, List.getElem?_cons_zero]; rfl
                  case hy29x9 => exact Or.inl ⟨by rfl, by (intro w hSw; (try dsimp only at hSw); go_simp) <;> with_reducible rfl⟩
                  try simp only [Act.put, List.setIfInBounds_toArray, List.set_cons_zero, List.set_cons_succ]
                  refine wpAnyH_done (by kernel_rfl) ?_ _
                  refine NoPanic.normal ?_
                  have HH3 := Lib.hid hHeld
                  clear hHeld HBD
                  go_wp2
                  go_ret
                  exact HBAD.out _ (fun q => HXA.out (by have h4 := q.2.2.2.1; rw [HDR.out, HX.out, HXE.out] at h4; exact h4)) (HB.out.trans (HH3.out.bel.mono HB.out.size))
              · obtain rfl : P = 2 := by omega
                have hms2 : m + 1 < st.length := by have := HM.out; omega
                have Q11 := Lib.hid (own_cell HO.out hms2)
                have HYL := Lib.hid (HLE.out _ (List.getElem_mem hms2))
                have HY := Lib.hid (show st.drop (m + 1) = st[m + 1] :: st.drop (m + 2) from List.drop_eq_getElem_cons hms2)
                generalize st[m + 1] = y at Q11 HY HYL
                by_cases hxa : (x : Int) = n.a
                · have hxB : ((x : Int) != n.a) = false := by rw [bne_eq_false_iff_eq]; exact hxa
                  have HXA := Lib.hid hxa
                  clear hxa
                  by_cases hyb : (y : Int) = n.b
                  · have hyB : ((y : Int) != n.b) = false := by rw [bne_eq_false_iff_eq]; exact hyb
                    have HYB := Lib.hid hyb
                    clear hyb
                    by_cases hfi : Fits l n
                    · have CF := Lib.hid (show ∀ W, Below wr.heap.size wr W → Calls Tryd.prog 57 #[.slice (some ⟨B0, o0, none⟩) l.length c, NV n] W fun e w' => e = .returned (.bool true) ∧ Below W.heap.size W w' from fun W hb => by
                        have := HFT.out W hb (fun _ => ⟨x, by have := HXL.out; omega, HXA.out.symm⟩) (fun _ => ⟨y, by have := HYL.out; omega, HYB.out.symm⟩)
                        rwa [decide_eq_true hfi] at this)
                      have HOK := Lib.hid (show StepOk l n st from ⟨ho, by rw [← HP.out]; omega, fun q => HK0.out q.1, by rw [HDR.out, HX.out, HY.out]; exact ⟨HXA.out, HYB.out⟩, hfi⟩)
                      clear hfi
                      go_wp2_with (first
                        | (go_at_call 18; refine (CPa _).mono ?_; rintro e w1 ⟨rfl, hb1⟩; have HH1 := Lib.hid (HH0.out.below hb1); clear hb1; obtain ⟨r0, r1, r2, r3, r4, r5, r6, r7, r8, r9, _⟩ := HH1.out)
                        | (go_at_call 56; refine (COn _).mono ?_; rintro e w2 ⟨rfl, hb2⟩; have HH2 := Lib.hid (HH1.out.below hb2); clear hb2; obtain ⟨s0, s1, s2, s3, s4, s5, s6, s7, s8, s9, _⟩ := HH2.out; clear HH1))
                      have HS0 := Lib.hid ((⟨⟨(HH2.out.bel.cell (lt_cell Q10.out)).trans Q10.out, (HH2.out.bel.cell (lt_cell Q11.out)).trans Q11.out⟩, HH2.out⟩ : NH2 wr w2 wr.heap.size n g m x y))
                      refine wp_region_noPanic ?_
                      refine wp_region_held_drew (S := fun w' => NH2 wr w' wr.heap.size n g m x y) (by kernel_rfl) ?_ (fun hHeld => ?_)
                      · (try dsimp only); exact NH2.drew HS0.out
                      clear HS0
                      have HBD := Lib.hid (NH2.bel hHeld)
                      generalize w2.drew = w3 at *
                      refine wpAnyH_take (i := 0) (oi := ?o0x10) (v := ?v0x10) ?hi0x10 (by kernel_rfl) (by kernel_rfl) (by kernel_rfl) (fun _ _ _ h => h) ?hy0x10 (by assumption) ?r0x10
                      case hi0x10 => simp only [List.getElem?_toArray, List.getElem?_cons_succ, List.getElem?_cons_zero]; rfl
                      case hy0x10 => exact Or.inl ⟨by rfl, by (intro w hSw; (try dsimp only at hSw); go_simp) <;> with_reducible rfl⟩
                      try simp only [Act.put, List.setIfInBounds_toArray, List.set_cons_zero, List.set_cons_succ]
                      refine wpAnyH_take (i := 1) (oi := ?o1x10) (v := ?v1x10) ?hi1x10 (by kernel_rfl) (by kernel_rfl) (by kernel_rfl) (fun _ _ _ h => h) ?hy1x10 (by assumption) ?r1x10
                      case hi1x10 => simp only [List.getElem?_toArray, List.getElem?_cons_succ, List.getElem?_cons_zero]; rfl
                      case hy1x10 => exact Or.inl ⟨by rfl, by (intro w hSw; (try dsimp only at hSw); go_simp) <;> with_reducible rfl⟩
                      try simp only [Act.put, List.setIfInBounds_toArray, List.set_cons_zero, List.set_cons_succ]
                      refine wpAnyH_take (i := 2) (oi := ?o2x10) (v := ?v2x10) ?hi2x10 (by kernel_rfl) (by kernel_rfl) (by kernel_rfl) (fun _ _ _ h => h) ?hy2x10 (by assumption) ?r2x10
                      case hi2x10 => simp only [List.getElem?_toArray, List.getElem?_cons_succ, List.getElem?_cons_zero]; rfl
                      case hy2x10 => exact Or.inl ⟨by rfl, by (intro w hSw; (try dsimp only at hSw); go_simp) <;> with_reducible rfl⟩
                      try simp only [Act.put, List.setIfInBounds_toArray, List.set_cons_zero, List.set_cons_succ]
                      refine wpAnyH_take (i := 3) (oi := ?o3x10) (v := ?v3x10) ?hi3x10 (by kernel_rfl) (by kernel_rfl) (by kernel_rfl) (fun _ _ _ h => h) ?hy3x10 (by assumption) ?r3x10
                      case hi3x10 => simp only [List.getElem?_toArray, List.getElem?_cons_succ, List.getElem?_cons_zero]; rfl
                      case hy3x10 => exact Or.inl ⟨by rfl, by (intro w hSw; (try dsimp only at hSw); go_simp) <;> with_reducible rfl⟩
                      try simp only [Act.put, List.setIfInBounds_toArray, List.set_cons_zero, List.set_cons_succ]
                      refine wpAnyH_take (i := 4) (oi := ?o4x10) (v := ?v4x10) ?hi4x10 (by kernel_rfl) (by kernel_rfl) (by kernel_rfl) (fun _ _ _ h => h) ?hy4x10 (by assumption) ?r4x10
                      case hi4x10 => simp only [List.getElem?_toArray, List.getElem?_cons_succ, List.getElem?_cons_zero]; rfl
                      case hy4x10 => exact Or.inl ⟨by rfl, by (intro w hSw; (try dsimp only at hSw); go_simp) <;> with_reducible rfl⟩
                      try simp only [Act.put, List.setIfInBounds_toArray, List.set_cons_zero, List.set_cons_succ]
                      refine wpAnyH_take (i := 5) (oi := ?o5x10) (v := ?v5x10) ?hi5x10 (by kernel_rfl) (by kernel_rfl) (by kernel_rfl) (fun _ _ _ h => h) ?hy5x10 (by assumption) ?r5x10
                      case hi5x10 => simp only [List.getElem?_toArray, List.getElem?_cons_succ, List.getElem?_cons_zero]; rfl
                      case hy5x10 => exact Or.inl ⟨by rfl, by (intro w hSw; (try dsimp only at hSw); go_simp) <;> with_reducible rfl⟩
                      try simp only [Act.put, List.setIfInBounds_toArray, List.set_cons_zero, List.set_cons_succ]
                      refine wpAnyH_take (i := 6) (oi := ?o6x10) (v := ?v6x10) ?hi6x10 (by kernel_rfl) (by kernel_rfl) (by kernel_rfl) (fun _ _ _ h => h) ?hy6x10 (by assumption) ?r6x10
                      case hi6x10 => simp only [List.getElem?_toArray, List.getElem?_cons_succ, List.getElem?_cons_zero]; rfl
                      case hy6x10 => exact Or.inl ⟨by rfl, by (intro w hSw; (try dsimp only at hSw); go_simp) <;> with_reducible rfl⟩
                      try simp only [Act.put, List.setIfInBounds_toArray, List.set_cons_zero, List.set_cons_succ]
                      refine wpAnyH_take (i := 7) (oi := ?o7x10) (v := ?v7x10) ?hi7x10 (by kernel_rfl) (by kernel_rfl) (by kernel_rfl) (fun _ _ _ h => h) ?hy7x10 (by assumption) ?r7x10
                      case hi7x10 => simp only [List.getElem?_toArray, List.getElem?_cons_succ, List.getElem?_cons_zero]; rfl
                      case hy7x10 => exact Or.inl ⟨by rfl, by (intro w hSw; (try dsimp only at hSw); go_simp) <;> with_reducible rfl⟩
                      try simp only [Act.put, List.setIfInBounds_toArray, List.set_cons_zero, List.set_cons_succ]
                      refine wpAnyH_take (i := 8) (oi := ?o8x10) (v := ?v8x10) ?hi8x10 (by kernel_rfl) (by kernel_rfl) (by kernel_rfl) (fun _ _ _ h => h) ?hy8x10 (by assumption) ?r8x10
                      case hi8x10 => simp only [List.getElem?_toArray, List.getElem?_cons_succ, List.getElem?_cons_zero]; rfl
                      case hy8x10 => exact Or.inl ⟨by rfl, by (intro w hSw; (try dsimp only at hSw); go_simp) <;> with_reducible rfl⟩
                      try simp only [Act.put, List.setIfInBounds_toArray, List.set_cons_zero, List.set_cons_succ]
                      refine wpAnyH_take (i := 9) (oi := ?o9x10) (v := ?v9x10) ?hi9x10 (by kernel_rfl) (by kernel_rfl) (by kernel_rfl) (fun _ _ _ h => h) ?hy9x10 (by assumption) ?r9x10
                      case hi9x10 => simp only [List.getElem?_toArray, List.getElem?_cons_succ, List.getElem?_cons_zero]; rfl
                      case hy9x10 => exact Or.inl ⟨by rfl, by (intro w hSw; (try dsimp only at hSw); go_simp) <;> with_reducible rfl⟩
                      try simp only [Act.put, List.setIfInBounds_toArray, List.set_cons_zero, List.set_cons_succ]
                      refine wpAnyH_take (i := 10) (oi := ?o10x10) (v := ?v10x10) ?hi10x10 (by kernel_rfl) (by kernel_rfl) (by kernel_rfl) (fun _ _ _ h => h) ?hy10x10 (by assumption) ?r10x10
                      case hi10x10 => simp only [List.getElem?_toArray, List.getElem?_cons_succ, List.getElem?_cons_zero]; rfl
                      case hy10x10 => exact Or.inl ⟨by rfl, by (intro w hSw; (try dsimp only at hSw); go_simp) <;> with_reducible rfl⟩
                      try simp only [Act.put, List.setIfInBounds_toArray, List.set_cons_zero, List.set_cons_succ]
                      refine wpAnyH_take (i := 11) (oi := ?o11x10) (v := ?v11x10) ?hi11x10 (by kernel_rfl) (by kernel_rfl) (by kernel_rfl) (fun _ _ _ h => h) ?hy11x10 (by assumption) ?r11x10
                      case hi11x10 => simp only [List.getElem?_toArray, List.getElem?_cons_succ, List.getElem?_cons_zero]; rfl
                      case hy11x10 => exact Or.inl ⟨by rfl, by (intro w hSw; (try dsimp only at hSw); go_simp) <;> with_reducible rfl⟩
                      try simp only [Act.put, List.setIfInBounds_toArray, List.set_cons_zero, List.set_cons_succ]
                      refine wpAnyH_take (i := 12) (oi := ?o12x10) (v := ?v12x10) ?hi12x10 (by kernel_rfl) (by kernel_rfl) (by kernel_rfl) (fun _ _ _ h => h) ?hy12x10 (by assumption) ?r12x10
                      case hi12x10 => simp only [List.getElem?_toArray, List.getElem?_cons_succ, List.getElem?_cons_zero]; rfl
                      case hy12x10 => exact Or.inl ⟨by rfl, by (intro w hSw; (try dsimp only at hSw); go_simp) <;> with_reducible rfl⟩
                      try simp only [Act.put, List.setIfInBounds_toArray, List.set_cons_zero, List.set_cons_succ]
                      refine wpAnyH_take (i := 13) (oi := ?o13x10) (v := ?v13x10) ?hi13x10 (by kernel_rfl) (by kernel_rfl) (by kernel_rfl) (fun _ _ _ h => h) ?hy13x10 (by assumption) ?r13x10
                      case hi13x10 => simp only [List.getElem?_toArray, List.getElem?_cons_succ, List.getElem?_cons_zero]; rfl
                      case hy13x10 => exact Or.inl ⟨by rfl, by (intro w hSw; (try dsimp only at hSw); go_simp) <;> with_reducible rfl⟩
                      try simp only [Act.put, List.setIfInBounds_toArray, List.set_cons_zero, List.set_cons_succ]
                      refine wpAnyH_take (i := 14) (oi := ?o14x10) (v := ?v14x10) ?hi14x10 (by kernel_rfl) (by kernel_rfl) (by kernel_rfl) (fun _ _ _ h => h) ?hy14x10 (by assumption) ?r14x10
                      case hi14x10 => simp only [List.getElem?_toArray, List.getElem?_cons_succ, List.getElem?_cons_zero]; rfl
                      case hy14x10 => exact Or.inl ⟨by rfl, by (intro w hSw; (try dsimp only at hSw); go_simp) <;> with_reducible rfl⟩
                      try simp only [Act.put, List.setIfInBounds_toArray, List.set_cons_zero, List.set_cons_succ]
                      refine wpAnyH_take (i := 15) (oi := ?o15x10) (v := ?v15x10) ?hi15x10 (by kernel_rfl) (by kernel_rfl) (by kernel_rfl) (fun _ _ _ h => h) ?hy15x10 (by assumption) ?r15x10
                      case hi15x10 => simp only [List.getElem?_toArray, List.getElem?_cons_succ, List.getElem?_cons_zero]; rfl
                      case hy15x10 => exact Or.inl ⟨by rfl, by (intro w hSw; (try dsimp only at hSw); go_simp) <;> with_reducible rfl⟩
                      try simp only [Act.put, List.setIfInBounds_toArray, List.set_cons_zero, List.set_cons_succ]
                      refine wpAnyH_take (i := 16) (oi := ?o16x10) (v := ?v16x10) ?hi16x10 (by kernel_rfl) (by kernel_rfl) (by kernel_rfl) (fun _ _ _ h => h) ?hy16x10 (by assumption) ?r16x10
                      case hi16x10 => simp only [List.getElem?_toArray, List.getElem?_cons_succ, List.getElem?_cons_zero]; rfl
                      case hy16x10 => exact Or.inl ⟨by rfl, by (intro w hSw; (try dsimp only at hSw); go_simp) <;> with_reducible rfl⟩
                      try simp only [Act.put, List.setIfInBounds_toArray, List.set_cons_zero, List.set_cons_succ]
                      refine wpAnyH_take (i := 17) (oi := ?o17x10) (v := ?v17x10) ?hi17x10 (by kernel_rfl) (by kernel_rfl) (by kernel_rfl) (fun _ _ _ h => h) ?hy17x10 (by assumption) ?r17x10
                      case hi17x10 => simp only [List.getElem?_toArray, List.getElem?_cons_succ, List.getElem?_cons_zero]; rfl
                      case hy17x10 => exact Or.inl ⟨by rfl, by (intro w hSw; (try dsimp only at hSw); go_simp) <;> with_reducible rfl⟩
                      try simp only [Act.put, List.setIfInBounds_toArray, List.set_cons_zero, List.set_cons_succ]
                      refine wpAnyH_take (i := 18) (oi := ?o18x10) (v := ?v18x10) ?hi18x10 (by kernel_rfl) (by kernel_rfl) (by kernel_rfl) (fun _ _ _ h => h) ?hy18x10 (by assumption) ?r18x10
                      case hi18x10 => simp only [List.getElem?_toArray, List.getElem?_cons_succ, List.getElem?_cons_zero]; rfl
                      case hy18x10 => exact Or.inl ⟨by rfl, by (intro w hSw; (try dsimp only at hSw); go_simp) <;> with_reducible rfl⟩
                      try simp only [Act.put, List.setIfInBounds_toArray, List.set_cons_zero, List.set_cons_succ]
                      refine wpAnyH_take (i := 19) (oi := ?o19x10) (v := ?v19x10) ?hi19x10 (by kernel_rfl) (by kernel_rfl) (by kernel_rfl) (fun _ _ _ h => h) ?hy19x10 (by assumption) ?r19x10
                      case hi19x10 => simp only [List.getElem?_toArray, List.getElem?_cons_succ, List.getElem?_cons_zero]; rfl
                      case hy19x10 => exact Or.inl ⟨by rfl, by (intro w hSw; (try dsimp only at hSw); go_simp) <;> with_reducible rfl⟩
                      try simp only [Act.put, List.setIfInBounds_toArray, List.set_cons_zero, List.set_cons_succ]
                      refine wpAnyH_take (i := 20) (oi := ?o20x10) (v := ?v20x10) ?hi20x10 (by kernel_rfl) (by kernel_rfl) (by kernel_rfl) (fun _ _ _ h => h) ?hy20x10 (by assumption) ?r20x10
                      case hi20x10 => simp only [List.getElem?_toArray, List.getElem?_cons_succ, List.getElem?_cons_zero]; rfl
                      case hy20x10 => exact Or.inl ⟨by rfl, by (intro w hSw; (try dsimp only at hSw); go_simp) <;> with_reducible rfl⟩
                      try simp only [Act.put, List.setIfInBounds_toArray, List.set_cons_zero, List.set_cons_succ]
                      refine wpAnyH_take (i := 21) (oi := ?o21x10) (v := ?v21x10) ?hi21x10 (by kernel_rfl) (by kernel_rfl) (by kernel_rfl) (fun _ _ _ h => h) ?hy21x10 (by assumption) ?r21x10
                      case hi21x10 => simp only [List.getElem?_toArray, List.getElem?_cons_succ, List.getElem?_cons_zero]; rfl
                      case hy21x10 => exact Or.inl ⟨by rfl, by (intro w hSw; (try dsimp only at hSw); go_simp) <;> with_reducible rfl⟩
                      try simp only [Act.put, List.setIfInBounds_toArray, List.set_cons_zero, List.set_cons_succ]
                      refine wpAnyH_take (i := 22) (oi := ?o22x10) (v := ?v22x10) ?hi22x10 (by kernel_rfl) (by kernel_rfl) (by kernel_rfl) (fun _ _ _ h => h) ?hy22x10 (by assumption) ?r22x10
                      case hi22x10 => simp only [List.getElem?_toArray, List.getElem?_cons_succ, List.getElem?_cons_zero]; rfl
                      case hy22x10 => exact Or.inl ⟨by rfl, by (intro w hSw; (try dsimp only at hSw); go_simp) <;> with_reducible rfl⟩
                      try simp only [Act.put, List.setIfInBounds_toArray, List.set_cons_zero, List.set_cons_succ]
                      refine wpAnyH_take (i := 23) (oi := ?o23x10) (v := ?v23x10) ?hi23x10 (by kernel_rfl) (by kernel_rfl) (by kernel_rfl) (fun _ _ _ h => h) ?hy23x10 (by assumption) ?r23x10
                      case hi23x10 => simp only [List.getElem?_toArray, List.getElem?_cons_succ, List.getElem?_cons_zero]; rfl
                      case hy23x10 => exact Or.inl ⟨by rfl, by (intro w hSw; (try dsimp only at hSw); go_simp) <;> with_reducible rfl⟩
                      try simp only [Act.put, List.setIfInBounds_toArray, List.set_cons_zero, List.set_cons_succ]
                      refine wpAnyH_take (i := 24) (oi := ?o24x10) (v := ?v24x10) ?hi24x10 (by kernel_rfl) (by kernel_rfl) (by kernel_rfl) (fun _ _ _ h => h) ?hy24x10 (by assumption) ?r24x10
                      case hi24x10 => simp only [List.getElem?_toArray, List.getElem?_cons_succ, List.getElem?_cons_zero]; rfl
                      case hy24x10 => exact Or.inl ⟨by rfl, by (intro w hSw; (try dsimp only at hSw); go_simp) <;> with_reducible rfl⟩
                      try simp only [Act.put, List.setIfInBounds_toArray, List.set_cons_zero, List.set_cons_succ]
                      refine wpAnyH_take (i := 25) (oi := ?o25x10) (v := ?v25x10) ?hi25x10 (by kernel_rfl) (by kernel_rfl) (by kernel_rfl) (fun _ _ _ h => h) ?hy25x10 (by assumption) ?r25x10
                      case hi25x10 => simp only [List.getElem?_toArray, List.getElem?_cons_succ, List.getElem?_cons_zero]; rfl
                      case hy25x10 => exact Or.inl ⟨by rfl, by (intro w hSw; (try dsimp only at hSw); go_simp) <;> with_reducible rfl⟩
                      try simp only [Act.put, List.setIfInBounds_toArray, List.set_cons_zero, List.set_cons_succ]
                      refine wpAnyH_take (i := 26) (oi := ?o26x10) (v := ?v26x10) ?hi26x10 (by kernel_rfl) (by kernel_rfl) (by kernel_rfl) (fun _ _ _ h => h) ?hy26x10 (by assumption) ?r26x10
                      case hi26x10 => simp only [List.getElem?_toArray, List.getElem?_cons_succ, List.getElem?_cons_zero]; rfl
                      case hy26x10 => exact Or.inl ⟨by rfl, by (intro w hSw; (try dsimp only at hSw); go_simp) <;> with_reducible rfl⟩
                      try simp only [Act.put, List.setIfInBounds_toArray, List.set_cons_zero, List.set_cons_succ]
                      refine wpAnyH_ready (rs := [27]) (by kernel_rfl) (by simp) ?_
                      refine AllReadyH.cons (o := ?o27x10) ?hi27x10 (fun K hK => ?st27x10) AllReadyH.nil
                      case hi27x10 => simp only [List.getElem?_toArray, List.getElem?_cons_succ, List.getElem?_cons_zero]; rfl
                      go_simp
                      (go_at_call 57; refine (CF.out _ (NH2.bel hHeld)).mono ?_; rintro e w' ⟨rfl, hbl⟩)
                      refine hK.out _ _ ?_ (fun hHeld => ?_)
                      · (try dsimp only); (exact NH2.below hHeld hbl)
                      clear hK K
                      try simp only [Act.put, List.setIfInBounds_toArray, List.set_cons_zero, List.set_cons_succ]
                      refine wpAnyH_take (i := 28) (oi := ?o28x10) (v := ?v28x10) ?hi28x10 (by kernel_rfl) (by kernel_rfl) (by kernel_rfl) (fun _ _ _ h => h) ?hy28x10 (by assumption) ?r28x10
                      case hi28x10 => simp only [List.getElem?_toArray, List.getElem?_cons_succ, List.getElem?_cons_zero]; rfl
                      case hy28x10 => exact Or.inl ⟨by rfl, by (intro w hSw; (try dsimp only at hSw); go_simp) <;> with_reducible rfl⟩
                      try simp only [Act.put, List.setIfInBounds_toArray, List.set_cons_zero, List.set_cons_succ]
                      refine wpAnyH_take (i := 29) (oi := ?o29x10) (v := ?v29x10) ?hi29x10 (by kernel_rfl) (by kernel_rfl) (by kernel_rfl) (fun _ _ _ h => h) ?hy29x10 (by assumption) ?r29x10
                      case hi29x10 => simp only [List.getElem?_toArray, List.getElem?_cons_succ, List.getElem?_cons_zero]; rfl
                      case hy29x10 => exact Or.inl ⟨by rfl, by (intro w hSw; (try dsimp only at hSw); go_simp) <;> with_reducible rfl⟩
                      try simp only [Act.put, List.setIfInBounds_toArray, List.set_cons_zero, List.set_cons_succ]
                      refine wpAnyH_done (by kernel_rfl) ?_ _
                      refine NoPanic.normal ?_
                      have HH3 := Lib.hid hHeld
                      clear hHeld HBD
                      have HOm := Lib.hid (own_below (own_take HO.out hm2) (HH3.out.bel))
                      go_wp2_with (at_builtin; refine wpList_append_own _ rfl _ _ 89 rfl w.heap.size 3 i0 _ 1 8 Tryd.underlying89 hi hz0 hz1 hz2 rfl (by decide) _ _ _ rfl (HOm.out.alloc _) ⟨_, 0, none⟩ 1 1 [E (k : Nat)] rfl rfl (one_cell (heap_alloc_new _ _)) (one_one _) (by unfold maxLen; omega) (by omega) (by have h1 := HB.out.size; have h2 := HH3.out.bel.size; simp; omega) ?_)
                      rintro v' w4 hown hgrow -
                      have HB4 := Lib.hid (((HB.out.trans (HH3.out.bel.mono HB.out.size)).alloc (by have h1 := HB.out.size; have h2 := HH3.out.bel.size; omega) _).grown hgrow (by have h1 := HB.out.size; have h2 := HH3.out.bel.size; simp; omega) (own_ge HOm.out))
                      have HO4 : Hid (w4.ownsRow w.heap.size 3 1 v' (push n k st).length (ns (push n k st))) := Lib.hid (by rw [HPU.out]; simpa [HM.out, ns] using hown)
                      obtain ⟨bo', n', cap', rfl⟩ : ∃ bo' n' cap', v' = .slice bo' n' cap' := by
                        rcases own_forms hown with ⟨rfl, _⟩ | ⟨g, cap, rfl, _⟩
                        · exact ⟨_, _, _, rfl⟩
                        · exact ⟨_, _, _, rfl⟩
                      clear hown hgrow
                      go_wp2
                      go_roundw
                      case rel => exact ⟨k + 1, push n k st, by omega, by go_num, Lib.hid (by rw [ordRun_succ HR.out hlt, HN.out, if_pos HOK.out]), HO4, HB4⟩
                      case measure => simp [intOf]; omega
                    · have CF := Lib.hid (show ∀ W, Below wr.heap.size wr W → Calls Tryd.prog 57 #[.slice (some ⟨B0, o0, none⟩) l.length c, NV n] W fun e w' => e = .returned (.bool false) ∧ Below W.heap.size W w' from fun W hb => by
                        have := HFT.out W hb (fun _ => ⟨x, by have := HXL.out; omega, HXA.out.symm⟩) (fun _ => ⟨y, by have := HYL.out; omega, HYB.out.symm⟩)
                        rwa [decide_eq_false hfi] at this)
                      have HFI := Lib.hid hfi
                      clear hfi
                      go_wp2_with (first
                        | (go_at_call 18; refine (CPa _).mono ?_; rintro e w1 ⟨rfl, hb1⟩; have HH1 := Lib.hid (HH0.out.below hb1); clear hb1; obtain ⟨r0, r1, r2, r3, r4, r5, r6, r7, r8, r9, _⟩ := HH1.out)
                        | (go_at_call 56; refine (COn _).mono ?_; rintro e w2 ⟨rfl, hb2⟩; have HH2 := Lib.hid (HH1.out.below hb2); clear hb2; obtain ⟨s0, s1, s2, s3, s4, s5, s6, s7, s8, s9, _⟩ := HH2.out; clear HH1))
                      have HS0 := Lib.hid ((⟨⟨(HH2.out.bel.cell (lt_cell Q10.out)).trans Q10.out, (HH2.out.bel.cell (lt_cell Q11.out)).trans Q11.out⟩, HH2.out⟩ : NH2 wr w2 wr.heap.size n g m x y))
                      refine wp_region_noPanic ?_
                      refine wp_region_held_drew (S := fun w' => NH2 wr w' wr.heap.size n g m x y) (by kernel_rfl) ?_ (fun hHeld => ?_)
                      · (try dsimp only); exact NH2.drew HS0.out
                      clear HS0
                      have HBD := Lib.hid (NH2.bel hHeld)
                      generalize w2.drew = w3 at *
                      refine wpAnyH_take (i := 0) (oi := ?o0x11) (v := ?v0x11) ?hi0x11 (by kernel_rfl) (by kernel_rfl) (by kernel_rfl) (fun _ _ _ h => h) ?hy0x11 (by assumption) ?r0x11
                      case hi0x11 => simp only [List.getElem?_toArray, List.getElem?_cons_succ, List.getElem?_cons_zero]; rfl
                      case hy0x11 => exact Or.inl ⟨by rfl, by (intro w hSw; (try dsimp only at hSw); go_simp) <;> with_reducible rfl⟩
                      try simp only [Act.put, List.setIfInBounds_toArray, List.set_cons_zero, List.set_cons_succ]
                      refine wpAnyH_take (i := 1) (oi := ?o1x11) (v := ?v1x11) ?hi1x11 (by kernel_rfl) (by kernel_rfl) (by kernel_rfl) (fun _ _ _ h => h) ?hy1x11 (by assumption) ?r1x11
                      case hi1x11 => simp only [List.getElem?_toArray, List.getElem?_cons_succ, List.getElem?_cons_zero]; rfl
                      case hy1x11 => exact Or.inl ⟨by rfl, by (intro w hSw; (try dsimp only at hSw); go_simp) <;> with_reducible rfl⟩
                      try simp only [Act.put, List.setIfInBounds_toArray, List.set_cons_zero, List.set_cons_succ]
                      refine wpAnyH_take (i := 2) (oi := ?o2x11) (v := ?v2x11) ?hi2x11 (by kernel_rfl) (by kernel_rfl) (by kernel_rfl) (fun _ _ _ h => h) ?hy2x11 (by assumption) ?r2x11
                      case hi2x11 => simp only [List.getElem?_toArray, List.getElem?_cons_succ, List.getElem?_cons_zero]; rfl
                      case hy2x11 => exact Or.inl ⟨by rfl, by (intro w hSw; (try dsimp only at hSw); go_simp) <;> with_reducible rfl⟩
                      try simp only [Act.put, List.setIfInBounds_toArray, List.set_cons_zero, List.set_cons_succ]
                      refine wpAnyH_take (i := 3) (oi := ?o3x11) (v := ?v3x11) ?hi3x11 (by kernel_rfl) (by kernel_rfl) (by kernel_rfl) (fun _ _ _ h => h) ?hy3x11 (by assumption) ?r3x11
                      case hi3x11 => simp only [List.getElem?_toArray, List.getElem?_cons_succ, List.getElem?_cons_zero]; rfl
                      case hy3x11 => exact Or.inl ⟨by rfl, by (intro w hSw; (try dsimp only at hSw); go_simp) <;> with_reducible rfl⟩
                      try simp only [Act.put, List.setIfInBounds_toArray, List.set_cons_zero, List.set_cons_succ]
                      refine wpAnyH_take (i := 4) (oi := ?o4x11) (v := ?v4x11) ?hi4x11 (by kernel_rfl) (by kernel_rfl) (by kernel_rfl) (fun _ _ _ h => h) ?hy4x11 (by assumption) ?r4x11
                      case hi4x11 => simp only [List.getElem?_toArray, List.getElem?_cons_succ, List.getElem?_cons_zero]; rfl
                      case hy4x11 => exact Or.inl ⟨by rfl, by (intro w hSw; (try dsimp only at hSw); go_simp) <;> with_reducible rfl⟩
                      try simp only [Act.put, List.setIfInBounds_toArray, List.set_cons_zero, List.set_cons_succ]
                      refine wpAnyH_take (i := 5) (oi := ?o5x11) (v := ?v5x11) ?hi5x11 (by kernel_rfl) (by kernel_rfl) (by kernel_rfl) (fun _ _ _ h => h) ?hy5x11 (by assumption) ?r5x11
                      case hi5x11 => simp only [List.getElem?_toArray, List.getElem?_cons_succ, List.getElem?_cons_zero]; rfl
                      case hy5x11 => exact Or.inl ⟨by rfl, by (intro w hSw; (try dsimp only at hSw); go_simp) <;> with_reducible rfl⟩
                      try simp only [Act.put, List.setIfInBounds_toArray, List.set_cons_zero, List.set_cons_succ]
                      refine wpAnyH_take (i := 6) (oi := ?o6x11) (v := ?v6x11) ?hi6x11 (by kernel_rfl) (by kernel_rfl) (by kernel_rfl) (fun _ _ _ h => h) ?hy6x11 (by assumption) ?r6x11
                      case hi6x11 => simp only [List.getElem?_toArray, List.getElem?_cons_succ, List.getElem?_cons_zero]; rfl
                      case hy6x11 => exact Or.inl ⟨by rfl, by (intro w hSw; (try dsimp only at hSw); go_simp) <;> with_reducible rfl⟩
                      try simp only [Act.put, List.setIfInBounds_toArray, List.set_cons_zero, List.set_cons_succ]
                      refine wpAnyH_take (i := 7) (oi := ?o7x11) (v := ?v7x11) ?hi7x11 (by kernel_rfl) (by kernel_rfl) (by kernel_rfl) (fun _ _ _ h => h) ?hy7x11 (by assumption) ?r7x11
                      case hi7x11 => simp only [List.getElem?_toArray, List.getElem?_cons_succ, List.getElem?_cons_zero]; rfl
                      case hy7x11 => exact Or.inl ⟨by rfl, by (intro w hSw; (try dsimp only at hSw); go_simp) <;> with_reducible rfl⟩
                      try simp only [Act.put, List.setIfInBounds_toArray, List.set_cons_zero, List.set_cons_succ]
                      refine wpAnyH_take (i := 8) (oi := ?o8x11) (v := ?v8x11) ?hi8x11 (by kernel_rfl) (by kernel_rfl) (by kernel_rfl) (fun _ _ _ h => h) ?hy8x11 (by assumption) ?r8x11
                      case hi8x11 => simp only [List.getElem?_toArray, List.getElem?_cons_succ, List.getElem?_cons_zero]; rfl
                      case hy8x11 => exact Or.inl ⟨by rfl, by (intro w hSw; (try dsimp only at hSw); go_simp) <;> with_reducible rfl⟩
                      try simp only [Act.put, List.setIfInBounds_toArray, List.set_cons_zero, List.set_cons_succ]
                      refine wpAnyH_take (i := 9) (oi := ?o9x11) (v := ?v9x11) ?hi9x11 (by kernel_rfl) (by kernel_rfl) (by kernel_rfl) (fun _ _ _ h => h) ?hy9x11 (by assumption) ?r9x11
                      case hi9x11 => simp only [List.getElem?_toArray, List.getElem?_cons_succ, List.getElem?_cons_zero]; rfl
                      case hy9x11 => exact Or.inl ⟨by rfl, by (intro w hSw; (try dsimp only at hSw); go_simp) <;> with_reducible rfl⟩
                      try simp only [Act.put, List.setIfInBounds_toArray, List.set_cons_zero, List.set_cons_succ]
                      refine wpAnyH_take (i := 10) (oi := ?o10x11) (v := ?v10x11) ?hi10x11 (by kernel_rfl) (by kernel_rfl) (by kernel_rfl) (fun _ _ _ h => h) ?hy10x11 (by assumption) ?r10x11
                      case hi10x11 => simp only [List.getElem?_toArray, List.getElem?_cons_succ, List.getElem?_cons_zero]; rfl
                      case hy10x11 => exact Or.inl ⟨by rfl, by (intro w hSw; (try dsimp only at hSw); go_simp) <;> with_reducible rfl⟩
                      try simp only [Act.put, List.setIfInBounds_toArray, List.set_cons_zero, List.set_cons_succ]
                      refine wpAnyH_take (i := 11) (oi := ?o11x11) (v := ?v11x11) ?hi11x11 (by kernel_rfl) (by kernel_rfl) (by kernel_rfl) (fun _ _ _ h => h) ?hy11x11 (by assumption) ?r11x11
                      case hi11x11 => simp only [List.getElem?_toArray, List.getElem?_cons_succ, List.getElem?_cons_zero]; rfl
                      case hy11x11 => exact Or.inl ⟨by rfl, by (intro w hSw; (try dsimp only at hSw); go_simp) <;> with_reducible rfl⟩
                      try simp only [Act.put, List.setIfInBounds_toArray, List.set_cons_zero, List.set_cons_succ]
                      refine wpAnyH_take (i := 12) (oi := ?o12x11) (v := ?v12x11) ?hi12x11 (by kernel_rfl) (by kernel_rfl) (by kernel_rfl) (fun _ _ _ h => h) ?hy12x11 (by assumption) ?r12x11
                      case hi12x11 => simp only [List.getElem?_toArray, List.getElem?_cons_succ, List.getElem?_cons_zero]; rfl
                      case hy12x11 => exact Or.inl ⟨by rfl, by (intro w hSw; (try dsimp only at hSw); go_simp) <;> with_reducible rfl⟩
                      try simp only [Act.put, List.setIfInBounds_toArray, List.set_cons_zero, List.set_cons_succ]
                      refine wpAnyH_take (i := 13) (oi := ?o13x11) (v := ?v13x11) ?hi13x11 (by kernel_rfl) (by kernel_rfl) (by kernel_rfl) (fun _ _ _ h => h) ?hy13x11 (by assumption) ?r13x11
                      case hi13x11 => simp only [List.getElem?_toArray, List.getElem?_cons_succ, List.getElem?_cons_zero]; rfl
                      case hy13x11 => exact Or.inl ⟨by rfl, by (intro w hSw; (try dsimp only at hSw); go_simp) <;> with_reducible rfl⟩
                      try simp only [Act.put, List.setIfInBounds_toArray, List.set_cons_zero, List.set_cons_succ]
                      refine wpAnyH_take (i := 14) (oi := ?o14x11) (v := ?v14x11) ?hi14x11 (by kernel_rfl) (by kernel_rfl) (by kernel_rfl) (fun _ _ _ h => h) ?hy14x11 (by assumption) ?r14x11
                      case hi14x11 => simp only [List.getElem?_toArray, List.getElem?_cons_succ, List.getElem?_cons_zero]; rfl
                      case hy14x11 => exact Or.inl ⟨by rfl, by (intro w hSw; (try dsimp only at hSw); go_simp) <;> with_reducible rfl⟩
                      try simp only [Act.put, List.setIfInBounds_toArray, List.set_cons_zero, List.set_cons_succ]
                      refine wpAnyH_take (i := 15) (oi := ?o15x11) (v := ?v15x11) ?hi15x11 (by kernel_rfl) (by kernel_rfl) (by kernel_rfl) (fun _ _ _ h => h) ?hy15x11 (by assumption) ?r15x11
                      case hi15x11 => simp only [List.getElem?_toArray, List.getElem?_cons_succ, List.getElem?_cons_zero]; rfl
                      case hy15x11 => exact Or.inl ⟨by rfl, by (intro w hSw; (try dsimp only at hSw); go_simp) <;> with_reducible rfl⟩
                      try simp only [Act.put, List.setIfInBounds_toArray, List.set_cons_zero, List.set_cons_succ]
                      refine wpAnyH_take (i := 16) (oi := ?o16x11) (v := ?v16x11) ?hi16x11 (by kernel_rfl) (by kernel_rfl) (by kernel_rfl) (fun _ _ _ h => h) ?hy16x11 (by assumption) ?r16x11
                      case hi16x11 => simp only [List.getElem?_toArray, List.getElem?_cons_succ, List.getElem?_cons_zero]; rfl
                      case hy16x11 => exact Or.inl ⟨by rfl, by (intro w hSw; (try dsimp only at hSw); go_simp) <;> with_reducible rfl⟩
                      try simp only [Act.put, List.setIfInBounds_toArray, List.set_cons_zero, List.set_cons_succ]
                      refine wpAnyH_take (i := 17) (oi := ?o17x11) (v := ?v17x11) ?hi17x11 (by kernel_rfl) (by kernel_rfl) (by kernel_rfl) (fun _ _ _ h => h) ?hy17x11 (by assumption) ?r17x11
                      case hi17x11 => simp only [List.getElem?_toArray, List.getElem?_cons_succ, List.getElem?_cons_zero]; rfl
                      case hy17x11 => exact Or.inl ⟨by rfl, by (intro w hSw; (try dsimp only at hSw); go_simp) <;> with_reducible rfl⟩
                      try simp only [Act.put, List.setIfInBounds_toArray, List.set_cons_zero, List.set_cons_succ]
                      refine wpAnyH_take (i := 18) (oi := ?o18x11) (v := ?v18x11) ?hi18x11 (by kernel_rfl) (by kernel_rfl) (by kernel_rfl) (fun _ _ _ h => h) ?hy18x11 (by assumption) ?r18x11
                      case hi18x11 => simp only [List.getElem?_toArray, List.getElem?_cons_succ, List.getElem?_cons_zero]; rfl
                      case hy18x11 => exact Or.inl ⟨by rfl, by (intro w hSw; (try dsimp only at hSw); go_simp) <;> with_reducible rfl⟩
                      try simp only [Act.put, List.setIfInBounds_toArray, List.set_cons_zero, List.set_cons_succ]
                      refine wpAnyH_take (i := 19) (oi := ?o19x11) (v := ?v19x11) ?hi19x11 (by kernel_rfl) (by kernel_rfl) (by kernel_rfl) (fun _ _ _ h => h) ?hy19x11 (by assumption) ?r19x11
                      case hi19x11 => simp only [List.getElem?_toArray, List.getElem?_cons_succ, List.getElem?_cons_zero]; rfl
                      case hy19x11 => exact Or.inl ⟨by rfl, by (intro w hSw; (try dsimp only at hSw); go_simp) <;> with_reducible rfl⟩
                      try simp only [Act.put, List.setIfInBounds_toArray, List.set_cons_zero, List.set_cons_succ]
                      refine wpAnyH_take (i := 20) (oi := ?o20x11) (v := ?v20x11) ?hi20x11 (by kernel_rfl) (by kernel_rfl) (by kernel_rfl) (fun _ _ _ h => h) ?hy20x11 (by assumption) ?r20x11
                      case hi20x11 => simp only [List.getElem?_toArray, List.getElem?_cons_succ, List.getElem?_cons_zero]; rfl
                      case hy20x11 => exact Or.inl ⟨by rfl, by (intro w hSw; (try dsimp only at hSw); go_simp) <;> with_reducible rfl⟩
                      try simp only [Act.put, List.setIfInBounds_toArray, List.set_cons_zero, List.set_cons_succ]
                      refine wpAnyH_take (i := 21) (oi := ?o21x11) (v := ?v21x11) ?hi21x11 (by kernel_rfl) (by kernel_rfl) (by kernel_rfl) (fun _ _ _ h => h) ?hy21x11 (by assumption) ?r21x11
                      case hi21x11 => simp only [List.getElem?_toArray, List.getElem?_cons_succ, List.getElem?_cons_zero]; rfl
                      case hy21x11 => exact Or.inl ⟨by rfl, by (intro w hSw; (try dsimp only at hSw); go_simp) <;> with_reducible rfl⟩
                      try simp only [Act.put, List.setIfInBounds_toArray, List.set_cons_zero, List.set_cons_succ]
                      refine wpAnyH_take (i := 22) (oi := ?o22x11) (v := ?v22x11) ?hi22x11 (by kernel_rfl) (by kernel_rfl) (by kernel_rfl) (fun _ _ _ h => h) ?hy22x11 (by assumption) ?r22x11
                      case hi22x11 => simp only [List.getElem?_toArray, List.getElem?_cons_succ, List.getElem?_cons_zero]; rfl
                      case hy22x11 => exact Or.inl ⟨by rfl, by (intro w hSw; (try dsimp only at hSw); go_simp) <;> with_reducible rfl⟩
                      try simp only [Act.put, List.setIfInBounds_toArray, List.set_cons_zero, List.set_cons_succ]
                      refine wpAnyH_take (i := 23) (oi := ?o23x11) (v := ?v23x11) ?hi23x11 (by kernel_rfl) (by kernel_rfl) (by kernel_rfl) (fun _ _ _ h => h) ?hy23x11 (by assumption) ?r23x11
                      case hi23x11 => simp only [List.getElem?_toArray, List.getElem?_cons_succ, List.getElem?_cons_zero]; rfl
                      case hy23x11 => exact Or.inl ⟨by rfl, by (intro w hSw; (try dsimp only at hSw); go_simp) <;> with_reducible rfl⟩
                      try simp only [Act.put, List.setIfInBounds_toArray, List.set_cons_zero, List.set_cons_succ]
                      refine wpAnyH_take (i := 24) (oi := ?o24x11) (v := ?v24x11) ?hi24x11 (by kernel_rfl) (by kernel_rfl) (by kernel_rfl) (fun _ _ _ h => h) ?hy24x11 (by assumption) ?r24x11
                      case hi24x11 => simp only [List.getElem?_toArray, List.getElem?_cons_succ, List.getElem?_cons_zero]; rfl
                      case hy24x11 => exact Or.inl ⟨by rfl, by (intro w hSw; (try dsimp only at hSw); go_simp) <;> with_reducible rfl⟩
                      try simp only [Act.put, List.setIfInBounds_toArray, List.set_cons_zero, List.set_cons_succ]
                      refine wpAnyH_take (i := 25) (oi := ?o25x11) (v := ?v25x11) ?hi25x11 (by kernel_rfl) (by kernel_rfl) (by kernel_rfl) (fun _ _ _ h => h) ?hy25x11 (by assumption) ?r25x11
                      case hi25x11 => simp only [List.getElem?_toArray, List.getElem?_cons_succ, List.getElem?_cons_zero]; rfl
                      case hy25x11 => exact Or.inl ⟨by rfl, by (intro w hSw; (try dsimp only at hSw); go_simp) <;> with_reducible rfl⟩
                      try simp only [Act.put, List.setIfInBounds_toArray, List.set_cons_zero, List.set_cons_succ]
                      refine wpAnyH_take (i := 26) (oi := ?o26x11) (v := ?v26x11) ?hi26x11 (by kernel_rfl) (by kernel_rfl) (by kernel_rfl) (fun _ _ _ h => h) ?hy26x11 (by assumption) ?r26x11
                      case hi26x11 => simp only [List.getElem?_toArray, List.getElem?_cons_succ, List.getElem?_cons_zero]; rfl
                      case hy26x11 => exact Or.inl ⟨by rfl, by (intro w hSw; (try dsimp only at hSw); go_simp) <;> with_reducible rfl⟩
                      try simp only [Act.put, List.setIfInBounds_toArray, List.set_cons_zero, List.set_cons_succ]
                      refine wpAnyH_ready (rs := [27]) (by kernel_rfl) (by simp) ?_
                      refine AllReadyH.cons (o := ?o27x11) ?hi27x11 (fun K hK => ?st27x11) AllReadyH.nil
                      case hi27x11 => simp only [List.getElem?_toArray, List.getElem?_cons_succ, List.getElem?_cons_zero]; rfl
                      go_simp
                      (go_at_call 57; refine (CF.out _ (NH2.bel hHeld)).mono ?_; rintro e w' ⟨rfl, hbl⟩)
                      refine hK.out _ _ ?_ (fun hHeld => ?_)
                      · (try dsimp only); (exact NH2.below hHeld hbl)
                      clear hK K
                      try simp only [Act.put, List.setIfInBounds_toArray, List.set_cons_zero, List.set_cons_succ]
                      refine wpAnyH_take (i := 28) (oi := ?o28x11) (v := ?v28x11) ?hi28x11 (by kernel_rfl) (by kernel_rfl) (by kernel_rfl) (fun _ _ _ h => h) ?hy28x11 (by assumption) ?r28x11
                      case hi28x11 => simp only [List.getElem?_toArray, List.getElem?_cons_succ, List.getElem?_cons_zero]; rfl
                      case hy28x11 => exact Or.inl ⟨by rfl, by (intro w hSw; (try dsimp only at hSw); go_simp) <;> with_reducible rfl⟩
                      try simp only [Act.put, List.setIfInBounds_toArray, List.set_cons_zero, List.set_cons_succ]
                      refine wpAnyH_take (i := 29) (oi := ?o29x11) (v := ?v29x11) ?hi29x11 (by kernel_rfl) (by kernel_rfl) (by kernel_rfl) (fun _ _ _ h => h) ?hy29x11 (by assumption) ?r29x11
                      case hi29x11 => simp only [List.getElem?_toArray, List.getElem?_cons_succ, List.getElem?_cons_zero]; rfl
                      case hy29x11 => exact Or.inl ⟨by rfl, by (intro w hSw; (try dsimp only at hSw); go_simp) <;> with_reducible rfl⟩
                      try simp only [Act.put, List.setIfInBounds_toArray, List.set_cons_zero, List.set_cons_succ]
                      refine wpAnyH_done (by kernel_rfl) ?_ _
                      refine NoPanic.normal ?_
                      have HH3 := Lib.hid hHeld
                      clear hHeld HBD
                      go_wp2
                      go_ret
                      exact HBAD.out _ (fun q => HFI.out q.2.2.2.2) (HB.out.trans (HH3.out.bel.mono HB.out.size))
                  · have hyB : ((y : Int) != n.b) = true := by rw [bne_iff_ne]; exact hyb
                    have HYB := Lib.hid hyb
                    clear hyb
                    go_wp2_with (first
                      | (go_at_call 18; refine (CPa _).mono ?_; rintro e w1 ⟨rfl, hb1⟩; have HH1 := Lib.hid (HH0.out.below hb1); clear hb1; obtain ⟨r0, r1, r2, r3, r4, r5, r6, r7, r8, r9, _⟩ := HH1.out)
                      | (go_at_call 56; refine (COn _).mono ?_; rintro e w2 ⟨rfl, hb2⟩; have HH2 := Lib.hid (HH1.out.below hb2); clear hb2; obtain ⟨s0, s1, s2, s3, s4, s5, s6, s7, s8, s9, _⟩ := HH2.out; clear HH1))
                    have HS0 := Lib.hid ((⟨⟨(HH2.out.bel.cell (lt_cell Q10.out)).trans Q10.out, (HH2.out.bel.cell (lt_cell Q11.out)).trans Q11.out⟩, HH2.out⟩ : NH2 wr w2 wr.heap.size n g m x y))
                    refine wp_region_noPanic ?_
                    refine wp_region_held_drew (S := fun w' => NH2 wr w' wr.heap.size n g m x y) (by kernel_rfl) ?_ (fun hHeld => ?_)
                    · (try dsimp only); exact NH2.drew HS0.out
                    clear HS0
                    have HBD := Lib.hid (NH2.bel hHeld)
                    generalize w2.drew = w3 at *
                    refine wpAnyH_take (i := 0) (oi := ?o0x12) (v := ?v0x12) ?hi0x12 (by kernel_rfl) (by kernel_rfl) (by kernel_rfl) (fun _ _ _ h => h) ?hy0x12 (by assumption) ?r0x12
                    case hi0x12 => simp only [List.getElem?_toArray, List.getElem?_cons_succ, List.getElem?_cons_zero]; rfl
                    case hy0x12 => exact Or.inl ⟨by rfl, by (intro w hSw; (try dsimp only at hSw); go_simp) <;> with_reducible rfl⟩
                    try simp only [Act.put, List.setIfInBounds_toArray, List.set_cons_zero, List.set_cons_succ]
                    refine wpAnyH_take (i := 1) (oi := ?o1x12) (v := ?v1x12) ?hi1x12 (by kernel_rfl) (by kernel_rfl) (by kernel_rfl) (fun _ _ _ h => h) ?hy1x12 (by assumption) ?r1x12
                    case hi1x12 => simp only [List.getElem?_toArray, List.getElem?_cons_succ, List.getElem?_cons_zero]; rfl
                    case hy1x12 => exact Or.inl ⟨by rfl, by (intro w hSw; (try dsimp only at hSw); go_simp) <;> with_reducible rfl⟩
                    try simp only [Act.put, List.setIfInBounds_toArray, List.set_cons_zero, List.set_cons_succ]
                    refine wpAnyH_take (i := 2) (oi := ?o2x12) (v := ?v2x12) ?hi2x12 (by kernel_rfl) (by kernel_rfl) (by kernel_rfl) (fun _ _ _ h => h) ?hy2x12 (by assumption) ?r2x12
                    case hi2x12 => simp only [List.getElem?_toArray, List.getElem?_cons_succ, List.getElem?_cons_zero]; rfl
                    case hy2x12 => exact Or.inl ⟨by rfl, by (intro w hSw; (try dsimp only at hSw); go_simp) <;> with_reducible rfl⟩
                    try simp only [Act.put, List.setIfInBounds_toArray, List.set_cons_zero, List.set_cons_succ]
                    refine wpAnyH_take (i := 3) (oi := ?o3x12) (v := ?v3x12) ?hi3x12 (by kernel_rfl) (by kernel_rfl) (by kernel_rfl) (fun _ _ _ h => h) ?hy3x12 (by assumption) ?r3x12
                    case hi3x12 => simp only [List.getElem?_toArray, List.getElem?_cons_succ, List.getElem?_cons_zero]; rfl
                    case hy3x12 => exact Or.inl ⟨by rfl, by (intro w hSw; (try dsimp only at hSw); go_simp) <;> with_reducible rfl⟩
                    try simp only [Act.put, List.setIfInBounds_toArray, List.set_cons_zero, List.set_cons_succ]
                    refine wpAnyH_take (i := 4) (oi := ?o4x12) (v := ?v4x12) ?hi4x12 (by kernel_rfl) (by kernel_rfl) (by kernel_rfl) (fun _ _ _ h => h) ?hy4x12 (by assumption) ?r4x12
                    case hi4x12 => simp only [List.getElem?_toArray, List.getElem?_cons_succ, List.getElem?_cons_zero]; rfl
                    case hy4x12 => exact Or.inl ⟨by rfl, by (intro w hSw; (try dsimp only at hSw); go_simp) <;> with_reducible rfl⟩
                    try simp only [Act.put, List.setIfInBounds_toArray, List.set_cons_zero, List.set_cons_succ]
                    refine wpAnyH_take (i := 5) (oi := ?o5x12) (v := ?v5x12) ?hi5x12 (by kernel_rfl) (by kernel_rfl) (by kernel_rfl) (fun _ _ _ h => h) ?hy5x12 (by assumption) ?r5x12
                    case hi5x12 => simp only [List.getElem?_toArray, List.getElem?_cons_succ, List.getElem?_cons_zero]; rfl
                    case hy5x12 => exact Or.inl ⟨by rfl, by (intro w hSw; (try dsimp only at hSw); go_simp) <;> with_reducible rfl⟩
                    try simp only [Act.put, List.setIfInBounds_toArray, List.set_cons_zero, List.set_cons_succ]
                    refine wpAnyH_take (i := 6) (oi := ?o6x12) (v := ?v6x12) ?hi6x12 (by kernel_rfl) (by kernel_rfl) (by kernel_rfl) (fun _ _ _ h => h) ?hy6x12 (by assumption) ?r6x12
                    case hi6x12 => simp only [List.getElem?_toArray, List.getElem?_cons_succ, List.getElem?_cons_zero]; rfl
                    case hy6x12 => exact Or.inl ⟨by rfl, by (intro w hSw; (try dsimp only at hSw); go_simp) <;> with_reducible rfl⟩
                    try simp only [Act.put, List.setIfInBounds_toArray, List.set_cons_zero, List.set_cons_succ]
                    refine wpAnyH_take (i := 7) (oi := ?o7x12) (v := ?v7x12) ?hi7x12 (by kernel_rfl) (by kernel_rfl) (by kernel_rfl) (fun _ _ _ h => h) ?hy7x12 (by assumption) ?r7x12
                    case hi7x12 => simp only [List.getElem?_toArray, List.getElem?_cons_succ, List.getElem?_cons_zero]; rfl
                    case hy7x12 => exact Or.inl ⟨by rfl, by (intro w hSw; (try dsimp only at hSw); go_simp) <;> with_reducible rfl⟩
                    try simp only [Act.put, List.setIfInBounds_toArray, List.set_cons_zero, List.set_cons_succ]
                    refine wpAnyH_take (i := 8) (oi := ?o8x12) (v := ?v8x12) ?hi8x12 (by kernel_rfl) (by kernel_rfl) (by kernel_rfl) (fun _ _ _ h => h) ?hy8x12 (by assumption) ?r8x12
                    case hi8x12 => simp only [List.getElem?_toArray, List.getElem?_cons_succ, List.getElem?_cons_zero]; rfl
                    case hy8x12 => exact Or.inl ⟨by rfl, by (intro w hSw; (try dsimp only at hSw); go_simp) <;> with_reducible rfl⟩
                    try simp only [Act.put, List.setIfInBounds_toArray, List.set_cons_zero, List.set_cons_succ]
                    refine wpAnyH_take (i := 9) (oi := ?o9x12) (v := ?v9x12) ?hi9x12 (by kernel_rfl) (by kernel_rfl) (by kernel_rfl) (fun _ _ _ h => h) ?hy9x12 (by assumption) ?r9x12
                    case hi9x12 => simp only [List.getElem?_toArray, List.getElem?_cons_succ, List.getElem?_cons_zero]; rfl
                    case hy9x12 => exact Or.inl ⟨by rfl, by (intro w hSw; (try dsimp only at hSw); go_simp) <;> with_reducible rfl⟩
                    try simp only [Act.put, List.setIfInBounds_toArray, List.set_cons_zero, List.set_cons_succ]
                    refine wpAnyH_take (i := 10) (oi := ?o10x12) (v := ?v10x12) ?hi10x12 (by kernel_rfl) (by kernel_rfl) (by kernel_rfl) (fun _ _ _ h => h) ?hy10x12 (by assumption) ?r10x12
                    case hi10x12 => simp only [List.getElem?_toArray, List.getElem?_cons_succ, List.getElem?_cons_zero]; rfl
                    case hy10x12 => exact Or.inl ⟨by rfl, by (intro w hSw; (try dsimp only at hSw); go_simp) <;> with_reducible rfl⟩
                    try simp only [Act.put, List.setIfInBounds_toArray, List.set_cons_zero, List.set_cons_succ]
                    refine wpAnyH_take (i := 11) (oi := ?o11x12) (v := ?v11x12) ?hi11x12 (by kernel_rfl) (by kernel_rfl) (by kernel_rfl) (fun _ _ _ h => h) ?hy11x12 (by assumption) ?r11x12
                    case hi11x12 => simp only [List.getElem?_toArray, List.getElem?_cons_succ, List.getElem?_cons_zero]; rfl
                    case hy11x12 => exact Or.inl ⟨by rfl, by (intro w hSw; (try dsimp only at hSw); go_simp) <;> with_reducible rfl⟩
                    try simp only [Act.put, List.setIfInBounds_toArray, List.set_cons_zero, List.set_cons_succ]
                    refine wpAnyH_take (i := 12) (oi := ?o12x12) (v := ?v12x12) ?hi12x12 (by kernel_rfl) (by kernel_rfl) (by kernel_rfl) (fun _ _ _ h => h) ?hy12x12 (by assumption) ?r12x12
                    case hi12x12 => simp only [List.getElem?_toArray, List.getElem?_cons_succ, List.getElem?_cons_zero]; rfl
                    case hy12x12 => exact Or.inl ⟨by rfl, by (intro w hSw; (try dsimp only at hSw); go_simp) <;> with_reducible rfl⟩
                    try simp only [Act.put, List.setIfInBounds_toArray, List.set_cons_zero, List.set_cons_succ]
                    refine wpAnyH_take (i := 13) (oi := ?o13x12) (v := ?v13x12) ?hi13x12 (by kernel_rfl) (by kernel_rfl) (by kernel_rfl) (fun _ _ _ h => h) ?hy13x12 (by assumption) ?r13x12
                    case hi13x12 => simp only [List.getElem?_toArray, List.getElem?_cons_succ, List.getElem?_cons_zero]; rfl
                    case hy13x12 => exact Or.inl ⟨by rfl, by (intro w hSw; (try dsimp only at hSw); go_simp) <;> with_reducible rfl⟩
                    try simp only [Act.put, List.setIfInBounds_toArray, List.set_cons_zero, List.set_cons_succ]
                    refine wpAnyH_take (i := 14) (oi := ?o14x12) (v := ?v14x12) ?hi14x12 (by kernel_rfl) (by kernel_rfl) (by kernel_rfl) (fun _ _ _ h => h) ?hy14x12 (by assumption) ?r14x12
                    case hi14x12 => simp only [List.getElem?_toArray, List.getElem?_cons_succ, List.getElem?_cons_zero]; rfl
                    case hy14x12 => exact Or.inl ⟨by rfl, by (intro w hSw; (try dsimp only at hSw); go_simp) <;> with_reducible rfl⟩
                    try simp only [Act.put, List.setIfInBounds_toArray, List.set_cons_zero, List.set_cons_succ]
                    refine wpAnyH_take (i := 15) (oi := ?o15x12) (v := ?v15x12) ?hi15x12 (by kernel_rfl) (by kernel_rfl) (by kernel_rfl) (fun _ _ _ h => h) ?hy15x12 (by assumption) ?r15x12
                    case hi15x12 => simp only [List.getElem?_toArray, List.getElem?_cons_succ, List.getElem?_cons_zero]; rfl
                    case hy15x12 => exact Or.inl ⟨by rfl, by (intro w hSw; (try dsimp only at hSw); go_simp) <;> with_reducible rfl⟩
                    try simp only [Act.put, List.setIfInBounds_toArray, List.set_cons_zero, List.set_cons_succ]
                    refine wpAnyH_take (i := 16) (oi := ?o16x12) (v := ?v16x12) ?hi16x12 (by kernel_rfl) (by kernel_rfl) (by kernel_rfl) (fun _ _ _ h => h) ?hy16x12 (by assumption) ?r16x12
                    case hi16x12 => simp only [List.getElem?_toArray, List.getElem?_cons_succ, List.getElem?_cons_zero]; rfl
                    case hy16x12 => exact Or.inl ⟨by rfl, by (intro w hSw; (try dsimp only at hSw); go_simp) <;> with_reducible rfl⟩
                    try simp only [Act.put, List.setIfInBounds_toArray, List.set_cons_zero, List.set_cons_succ]
                    refine wpAnyH_take (i := 17) (oi := ?o17x12) (v := ?v17x12) ?hi17x12 (by kernel_rfl) (by kernel_rfl) (by kernel_rfl) (fun _ _ _ h => h) ?hy17x12 (by assumption) ?r17x12
                    case hi17x12 => simp only [List.getElem?_toArray, List.getElem?_cons_succ, List.getElem?_cons_zero]; rfl
                    case hy17x12 => exact Or.inl ⟨by rfl, by (intro w hSw; (try dsimp only at hSw); go_simp) <;> with_reducible rfl⟩
                    try simp only [Act.put, List.setIfInBounds_toArray, List.set_cons_zero, List.set_cons_succ]
                    refine wpAnyH_take (i := 18) (oi := ?o18x12) (v := ?v18x12) ?hi18x12 (by kernel_rfl) (by kernel_rfl) (by kernel_rfl) (fun _ _ _ h => h) ?hy18x12 (by assumption) ?r18x12
                    case hi18x12 => simp only [List.getElem?_toArray, List.getElem?_cons_succ, List.getElem?_cons_zero]; rfl
                    case hy18x12 => exact Or.inl ⟨by rfl, by (intro w hSw; (try dsimp only at hSw); go_simp) <;> with_reducible rfl⟩
                    try simp only [Act.put, List.setIfInBounds_toArray, List.set_cons_zero, List.set_cons_succ]
                    refine wpAnyH_take (i := 19) (oi := ?o19x12) (v := ?v19x12) ?hi19x12 (by kernel_rfl) (by kernel_rfl) (by kernel_rfl) (fun _ _ _ h => h) ?hy19x12 (by assumption) ?r19x12
                    case hi19x12 => simp only [List.getElem?_toArray, List.getElem?_cons_succ, List.getElem?_cons_zero]; rfl
                    case hy19x12 => exact Or.inl ⟨by rfl, by (intro w hSw; (try dsimp only at hSw); go_simp) <;> with_reducible rfl⟩
                    try simp only [Act.put, List.setIfInBounds_toArray, List.set_cons_zero, List.set_cons_succ]
                    refine wpAnyH_take (i := 20) (oi := ?o20x12) (v := ?v20x12) ?hi20x12 (by kernel_rfl) (by kernel_rfl) (by kernel_rfl) (fun _ _ _ h => h) ?hy20x12 (by assumption) ?r20x12
                    case hi20x12 => simp only [List.getElem?_toArray, List.getElem?_cons_succ, List.getElem?_cons_zero]; rfl
                    case hy20x12 => exact Or.inl ⟨by rfl, by (intro w hSw; (try dsimp only at hSw); go_simp) <;> with_reducible rfl⟩
                    try simp only [Act.put, List.setIfInBounds_toArray, List.set_cons_zero, List.set_cons_succ]
                    refine wpAnyH_take (i := 21) (oi := ?o21x12) (v := ?v21x12) ?hi21x12 (by kernel_rfl) (by kernel_rfl) (by kernel_rfl) (fun _ _ _ h => h) ?hy21x12 (by assumption) ?r21x12
                    case hi21x12 => simp only [List.getElem?_toArray, List.getElem?_cons_succ, List.getElem?_cons_zero]; rfl
                    case hy21x12 => exact Or.inl ⟨by rfl, by (intro w hSw; (try dsimp only at hSw); go_simp) <;> with_reducible rfl⟩
                    try simp only [Act.put, List.setIfInBounds_toArray, List.set_cons_zero, List.set_cons_succ]
                    refine wpAnyH_take (i := 22) (oi := ?o22x12) (v := ?v22x12) ?hi22x12 (by kernel_rfl) (by kernel_rfl) (by kernel_rfl) (fun _ _ _ h => h) ?hy22x12 (by assumption) ?r22x12
                    case hi22x12 => simp only [List.getElem?_toArray, List.getElem?_cons_succ, List.getElem?_cons_zero]; rfl
                    case hy22x12 => exact Or.inl ⟨by rfl, by (intro w hSw; (try dsimp only at hSw); go_simp) <;> with_reducible rfl⟩
                    try simp only [Act.put, List.setIfInBounds_toArray, List.set_cons_zero, List.set_cons_succ]
                    refine wpAnyH_take (i := 23) (oi := ?o23x12) (v := ?v23x12) ?hi23x12 (by kernel_rfl) (by kernel_rfl) (by kernel_rfl) (fun _ _ _ h => h) ?hy23x12 (by assumption) ?r23x12
                    case hi23x12 => simp only [List.getElem?_toArray, List.getElem?_cons_succ, List.getElem?_cons_zero]; rfl
                    case hy23x12 => exact Or.inl ⟨by rfl, by (intro w hSw; (try dsimp only at hSw); go_simp) <;> with_reducible rfl⟩
                    try simp only [Act.put, List.setIfInBounds_toArray, List.set_cons_zero, List.set_cons_succ]
                    refine wpAnyH_take (i := 24) (oi := ?o24x12) (v := ?v24x12) ?hi24x12 (by kernel_rfl) (by kernel_rfl) (by kernel_rfl) (fun _ _ _ h => h) ?hy24x12 (by assumption) ?r24x12
                    case hi24x12 => simp only [List.getElem?_toArray, List.getElem?_cons_succ, List.getElem?_cons_zero]; rfl
                    case hy24x12 => exact Or.inl ⟨by rfl, by (intro w hSw; (try dsimp only at hSw); go_simp) <;> with_reducible rfl⟩
                    try simp only [Act.put, List.setIfInBounds_toArray, List.set_cons_zero, List.set_cons_succ]
                    refine wpAnyH_take (i := 25) (oi := ?o25x12) (v := undef) ?hi25x12 (by kernel_rfl) (by kernel_rfl) (by kernel_rfl) (fun _ _ _ h => h) ?hy25x12 (by assumption) ?r25x12
                    case hi25x12 => simp only [List.getElem?_toArray, List.getElem?_cons_succ, List.getElem?_cons_zero]; rfl
                    case hy25x12 => exact Or.inr ⟨by rfl, rfl⟩
                    try simp only [Act.put, List.setIfInBounds_toArray, List.set_cons_zero, List.set_cons_succ]
                    refine wpAnyH_take (i := 26) (oi := ?o26x12) (v := undef) ?hi26x12 (by kernel_rfl) (by kernel_rfl) (by kernel_rfl) (fun _ _ _ h => h) ?hy26x12 (by assumption) ?r26x12
                    case hi26x12 => simp only [List.getElem?_toArray, List.getElem?_cons_succ, List.getElem?_cons_zero]; rfl
                    case hy26x12 => exact Or.inr ⟨by rfl, rfl⟩
                    try simp only [Act.put, List.setIfInBounds_toArray, List.set_cons_zero, List.set_cons_succ]
                    refine wpAnyH_take (i := 27) (oi := ?o27x12) (v := undef) ?hi27x12 (by kernel_rfl) (by kernel_rfl) (by kernel_rfl) (fun _ _ _ h => h) ?hy27x12 (by assumption) ?r27x12
                    case hi27x12 => simp only [List.getElem?_toArray, List.getElem?_cons_succ, List.getElem?_cons_zero]; rfl
                    case hy27x12 => exact Or.inr ⟨by rfl, rfl⟩
                    try simp only [Act.put, List.setIfInBounds_toArray, List.set_cons_zero, List.set_cons_succ]
                    refine wpAnyH_take (i := 28) (oi := ?o28x12) (v := undef) ?hi28x12 (by kernel_rfl) (by kernel_rfl) (by kernel_rfl) (fun _ _ _ h => h) ?hy28x12 (by assumption) ?r28x12
                    case hi28x12 => simp only [List.getElem?_toArray, List.getElem?_cons_succ, List.getElem?_cons_zero]; rfl
                    case hy28x12 => exact Or.inr ⟨by rfl, rfl⟩
                    try simp only [Act.put, List.setIfInBounds_toArray, List.set_cons_zero, List.set_cons_succ]
                    refine wpAnyH_take (i := 29) (oi := ?o29x12) (v := ?v29x12) ?hi29x12 (by kernel_rfl) (by kernel_rfl) (by kernel_rfl) (fun _ _ _ h => h) ?hy29x12 (by assumption) ?r29x12
                    case hi29x12 => simp only [List.getElem?_toArray, List.getElem?_cons_succ, List.getElem?_cons_zero]; rfl
                    case hy29x12 => exact Or.inl ⟨by rfl, by (intro w hSw; (try dsimp only at hSw); go_simp) <;> with_reducible rfl⟩
                    try simp only [Act.put, List.setIfInBounds_toArray, List.set_cons_zero, List.set_cons_succ]
                    refine wpAnyH_done (by kernel_rfl) ?_ _
                    refine NoPanic.normal ?_
                    have HH3 := Lib.hid hHeld
                    clear hHeld HBD
                    go_wp2
                    go_ret
                    exact HBAD.out _ (fun q => HYB.out (by have h4 := q.2.2.2.1; rw [HDR.out, HX.out, HY.out] at h4; exact h4.2)) (HB.out.trans (HH3.out.bel.mono HB.out.size))
                · have hxB : ((x : Int) != n.a) = true := by rw [bne_iff_ne]; exact hxa
                  have HXA := Lib.hid hxa
                  clear hxa
                  go_wp2_with (first
                    | (go_at_call 18; refine (CPa _).mono ?_; rintro e w1 ⟨rfl, hb1⟩; have HH1 := Lib.hid (HH0.out.below hb1); clear hb1; obtain ⟨r0, r1, r2, r3, r4, r5, r6, r7, r8, r9, _⟩ := HH1.out)
                    | (go_at_call 56; refine (COn _).mono ?_; rintro e w2 ⟨rfl, hb2⟩; have HH2 := Lib.hid (HH1.out.below hb2); clear hb2; obtain ⟨s0, s1, s2, s3, s4, s5, s6, s7, s8, s9, _⟩ := HH2.out; clear HH1))
                  have HS0 := Lib.hid ((⟨⟨(HH2.out.bel.cell (lt_cell Q10.out)).trans Q10.out, (HH2.out.bel.cell (lt_cell Q11.out)).trans Q11.out⟩, HH2.out⟩ : NH2 wr w2 wr.heap.size n g m x y))
                  refine wp_region_noPanic ?_
                  refine wp_region_held_drew (S := fun w' => NH2 wr w' wr.heap.size n g m x y) (by kernel_rfl) ?_ (fun hHeld => ?_)
                  · (try dsimp only); exact NH2.drew HS0.out
                  clear HS0
                  have HBD := Lib.hid (NH2.bel hHeld)
                  generalize w2.drew = w3 at *
                  refine wpAnyH_take (i := 0) (oi := ?o0x13) (v := ?v0x13) ?hi0x13 (by kernel_rfl) (by kernel_rfl) (by kernel_rfl) (fun _ _ _ h => h) ?hy0x13 (by assumption) ?r0x13
                  case hi0x13 => simp only [List.getElem?_toArray, List.getElem?_cons_succ, List.getElem?_cons_zero]; rfl
                  case hy0x13 => exact Or.inl ⟨by rfl, by (intro w hSw; (try dsimp only at hSw); go_simp) <;> with_reducible rfl⟩
                  try simp only [Act.put, List.setIfInBounds_toArray, List.set_cons_zero, List.set_cons_succ]
                  refine wpAnyH_take (i := 1) (oi := ?o1x13) (v := ?v1x13) ?hi1x13 (by kernel_rfl) (by kernel_rfl) (by kernel_rfl) (fun _ _ _ h => h) ?hy1x13 (by assumption) ?r1x13
                  case hi1x13 => simp only [List.getElem?_toArray, List.getElem?_cons_succ, List.getElem?_cons_zero]; rfl
                  case hy1x13 => exact Or.inl ⟨by rfl, by (intro w hSw; (try dsimp only at hSw); go_simp) <;> with_reducible rfl⟩
                  try simp only [Act.put, List.setIfInBounds_toArray, List.set_cons_zero, List.set_cons_succ]
                  refine wpAnyH_take (i := 2) (oi := ?o2x13) (v := ?v2x13) ?hi2x13 (by kernel_rfl) (by kernel_rfl) (by kernel_rfl) (fun _ _ _ h => h) ?hy2x13 (by assumption) ?r2x13
                  case hi2x13 => simp only [List.getElem?_toArray, List.getElem?_cons_succ, List.getElem?_cons_zero]; rfl
                  case hy2x13 => exact Or.inl ⟨by rfl, by (intro w hSw; (try dsimp only at hSw); go_simp) <;> with_reducible rfl⟩
                  try simp only [Act.put, List.setIfInBounds_toArray, List.set_cons_zero, List.set_cons_succ]
                  refine wpAnyH_take (i := 3) (oi := ?o3x13) (v := ?v3x13) ?hi3x13 (by kernel_rfl) (by kernel_rfl) (by kernel_rfl) (fun _ _ _ h => h) ?hy3x13 (by assumption) ?r3x13
                  case hi3x13 => simp only [List.getElem?_toArray, List.getElem?_cons_succ, List.getElem?_cons_zero]; rfl
                  case hy3x13 => exact Or.inl ⟨by rfl, by (intro w hSw; (try dsimp only at hSw); go_simp) <;> with_reducible rfl⟩
                  try simp only [Act.put, List.setIfInBounds_toArray, List.set_cons_zero, List.set_cons_succ]
                  refine wpAnyH_take (i := 4) (oi := ?o4x13) (v := ?v4x13) ?hi4x13 (by kernel_rfl) (by kernel_rfl) (by kernel_rfl) (fun _ _ _ h => h) ?hy4x13 (by assumption) ?r4x13
                  case hi4x13 => simp only [List.getElem?_toArray, List.getElem?_cons_succ, List.getElem?_cons_zero]; rfl
                  case hy4x13 => exact Or.inl ⟨by rfl, by (intro w hSw; (try dsimp only at hSw); go_simp) <;> with_reducible rfl⟩
                  try simp only [Act.put, List.setIfInBounds_toArray, List.set_cons_zero, List.set_cons_succ]
                  refine wpAnyH_take (i := 5) (oi := ?o5x13) (v := ?v5x13) ?hi5x13 (by kernel_rfl) (by kernel_rfl) (by kernel_rfl) (fun _ _ _ h => h) ?hy5x13 (by assumption) ?r5x13
                  case hi5x13 => simp only [List.getElem?_toArray, List.getElem?_cons_succ, List.getElem?_cons_zero]; rfl
                  case hy5x13 => exact Or.inl ⟨by rfl, by (intro w hSw; (try dsimp only at hSw); go_simp) <;> with_reducible rfl⟩
                  try simp only [Act.put, List.setIfInBounds_toArray, List.set_cons_zero, List.set_cons_succ]
                  refine wpAnyH_take (i := 6) (oi := ?o6x13) (v := ?v6x13) ?hi6x13 (by kernel_rfl) (by kernel_rfl) (by kernel_rfl) (fun _ _ _ h => h) ?hy6x13 (by assumption) ?r6x13
                  case hi6x13 => simp only [List.getElem?_toArray, List.getElem?_cons_succ, List.getElem?_cons_zero]; rfl
                  case hy6x13 => exact Or.inl ⟨by rfl, by (intro w hSw; (try dsimp only at hSw); go_simp) <;> with_reducible rfl⟩
                  try simp only [Act.put, List.setIfInBounds_toArray, List.set_cons_zero, List.set_cons_succ]
                  refine wpAnyH_take (i := 7) (oi := ?o7x13) (v := ?v7x13) ?hi7x13 (by kernel_rfl) (by kernel_rfl) (by kernel_rfl) (fun _ _ _ h => h) ?hy7x13 (by assumption) ?r7x13
                  case hi7x13 => simp only [List.getElem?_toArray, List.getElem?_cons_succ, List.getElem?_cons_zero]; rfl
                  case hy7x13 => exact Or.inl ⟨by rfl, by (intro w hSw; (try dsimp only at hSw); go_simp) <;> with_reducible rfl⟩
                  try simp only [Act.put, List.setIfInBounds_toArray, List.set_cons_zero, List.set_cons_succ]
                  refine wpAnyH_take (i := 8) (oi := ?o8x13) (v := ?v8x13) ?hi8x13 (by kernel_rfl) (by kernel_rfl) (by kernel_rfl) (fun _ _ _ h => h) ?hy8x13 (by assumption) ?r8x13
                  case hi8x13 => simp only [List.getElem?_toArray, List.getElem?_cons_succ, List.getElem?_cons_zero]; rfl
                  case hy8x13 => exact Or.inl ⟨by rfl, by (intro w hSw; (try dsimp only at hSw); go_simp) <;> with_reducible rfl⟩
                  try simp only [Act.put, List.setIfInBounds_toArray, List.set_cons_zero, List.set_cons_succ]
                  refine wpAnyH_take (i := 9) (oi := ?o9x13) (v := ?v9x13) ?hi9x13 (by kernel_rfl) (by kernel_rfl) (by kernel_rfl) (fun _ _ _ h => h) ?hy9x13 (by assumption) ?r9x13
                  case hi9x13 => simp only [List.getElem?_toArray, List.getElem?_cons_succ, List.getElem?_cons_zero]; rfl
                  case hy9x13 => exact Or.inl ⟨by rfl, by (intro w hSw; (try dsimp only at hSw); go_simp) <;> with_reducible rfl⟩
                  try simp only [Act.put, List.setIfInBounds_toArray, List.set_cons_zero, List.set_cons_succ]
                  refine wpAnyH_take (i := 10) (oi := ?o10x13) (v := ?v10x13) ?hi10x13 (by kernel_rfl) (by kernel_rfl) (by kernel_rfl) (fun _ _ _ h => h) ?hy10x13 (by assumption) ?r10x13
                  case hi10x13 => simp only [List.getElem?_toArray, List.getElem?_cons_succ, List.getElem?_cons_zero]; rfl
                  case hy10x13 => exact Or.inl ⟨by rfl, by (intro w hSw; (try dsimp only at hSw); go_simp) <;> with_reducible rfl⟩
                  try simp only [Act.put, List.setIfInBounds_toArray, List.set_cons_zero, List.set_cons_succ]
                  refine wpAnyH_take (i := 11) (oi := ?o11x13) (v := undef) ?hi11x13 (by kernel_rfl) (by kernel_rfl) (by kernel_rfl) (fun _ _ _ h => h) ?hy11x13 (by assumption) ?r11x13
                  case hi11x13 => simp only [List.getElem?_toArray, List.getElem?_cons_succ, List.getElem?_cons_zero]; rfl
                  case hy11x13 => exact Or.inr ⟨by rfl, rfl⟩
                  try simp only [Act.put, List.setIfInBounds_toArray, List.set_cons_zero, List.set_cons_succ]
                  refine wpAnyH_take (i := 12) (oi := ?o12x13) (v := undef) ?hi12x13 (by kernel_rfl) (by kernel_rfl) (by kernel_rfl) (fun _ _ _ h => h) ?hy12x13 (by assumption) ?r12x13
                  case hi12x13 => simp only [List.getElem?_toArray, List.getElem?_cons_succ, List.getElem?_cons_zero]; rfl
                  case hy12x13 => exact Or.inr ⟨by rfl, rfl⟩
                  try simp only [Act.put, List.setIfInBounds_toArray, List.set_cons_zero, List.set_cons_succ]
                  refine wpAnyH_take (i := 13) (oi := ?o13x13) (v := undef) ?hi13x13 (by kernel_rfl) (by kernel_rfl) (by kernel_rfl) (fun _ _ _ h => h) ?hy13x13 (by assumption) ?r13x13
                  case hi13x13 => simp only [List.getElem?_toArray, List.getElem?_cons_succ, List.getElem?_cons_zero]; rfl
                  case hy13x13 => exact Or.inr ⟨by rfl, rfl⟩
                  try simp only [Act.put, List.setIfInBounds_toArray, List.set_cons_zero, List.set_cons_succ]
                  refine wpAnyH_take (i := 14) (oi := ?o14x13) (v := undef) ?hi14x13 (by kernel_rfl) (by kernel_rfl) (by kernel_rfl) (fun _ _ _ h => h) ?hy14x13 (by assumption) ?r14x13
                  case hi14x13 => simp only [List.getElem?_toArray, List.getElem?_cons_succ, List.getElem?_cons_zero]; rfl
                  case hy14x13 => exact Or.inr ⟨by rfl, rfl⟩
                  try simp only [Act.put, List.setIfInBounds_toArray, List.set_cons_zero, List.set_cons_succ]
                  refine wpAnyH_take (i := 15) (oi := ?o15x13) (v := undef) ?hi15x13 (by kernel_rfl) (by kernel_rfl) (by kernel_rfl) (fun _ _ _ h => h) ?hy15x13 (by assumption) ?r15x13
                  case hi15x13 => simp only [List.getElem?_toArray, List.getElem?_cons_succ, List.getElem?_cons_zero]; rfl
                  case hy15x13 => exact Or.inr ⟨by rfl, rfl⟩
                  try simp only [Act.put, List.setIfInBounds_toArray, List.set_cons_zero, List.set_cons_succ]
                  refine wpAnyH_take (i := 16) (oi := ?o16x13) (v := undef) ?hi16x13 (by kernel_rfl) (by kernel_rfl) (by kernel_rfl) (fun _ _ _ h => h) ?hy16x13 (by assumption) ?r16x13
                  case hi16x13 => simp only [List.getElem?_toArray, List.getElem?_cons_succ, List.getElem?_cons_zero]; rfl
                  case hy16x13 => exact Or.inr ⟨by rfl, rfl⟩
                  try simp only [Act.put, List.setIfInBounds_toArray, List.set_cons_zero, List.set_cons_succ]
                  refine wpAnyH_take (i := 17) (oi := ?o17x13) (v := undef) ?hi17x13 (by kernel_rfl) (by kernel_rfl) (by kernel_rfl) (fun _ _ _ h => h) ?hy17x13 (by assumption) ?r17x13
                  case hi17x13 => simp only [List.getElem?_toArray, List.getElem?_cons_succ, List.getElem?_cons_zero]; rfl
                  case hy17x13 => exact Or.inr ⟨by rfl, rfl⟩
                  try simp only [Act.put, List.setIfInBounds_toArray, List.set_cons_zero, List.set_cons_succ]
                  refine wpAnyH_take (i := 18) (oi := ?o18x13) (v := undef) ?hi18x13 (by kernel_rfl) (by kernel_rfl) (by kernel_rfl) (fun _ _ _ h => h) ?hy18x13 (by assumption) ?r18x13
                  case hi18x13 => simp only [List.getElem?_toArray, List.getElem?_cons_succ, List.getElem?_cons_zero]; rfl
                  case hy18x13 => exact Or.inr ⟨by rfl, rfl⟩
                  try simp only [Act.put, List.setIfInBounds_toArray, List.set_cons_zero, List.set_cons_succ]
                  refine wpAnyH_take (i := 19) (oi := ?o19x13) (v := undef) ?hi19x13 (by kernel_rfl) (by kernel_rfl) (by kernel_rfl) (fun _ _ _ h => h) ?hy19x13 (by assumption) ?r19x13
                  case hi19x13 => simp only [List.getElem?_toArray, List.getElem?_cons_succ, List.getElem?_cons_zero]; rfl
                  case hy19x13 => exact Or.inr ⟨by rfl, rfl⟩
                  try simp only [Act.put, List.setIfInBounds_toArray, List.set_cons_zero, List.set_cons_succ]
                  refine wpAnyH_take (i := 20) (oi := ?o20x13) (v := undef) ?hi20x13 (by kernel_rfl) (by kernel_rfl) (by kernel_rfl) (fun _ _ _ h => h) ?hy20x13 (by assumption) ?r20x13
                  case hi20x13 => simp only [List.getElem?_toArray, List.getElem?_cons_succ, List.getElem?_cons_zero]; rfl
                  case hy20x13 => exact Or.inr ⟨by rfl, rfl⟩
                  try simp only [Act.put, List.setIfInBounds_toArray, List.set_cons_zero, List.set_cons_succ]
                  refine wpAnyH_take (i := 21) (oi := ?o21x13) (v := undef) ?hi21x13 (by kernel_rfl) (by kernel_rfl) (by kernel_rfl) (fun _ _ _ h => h) ?hy21x13 (by assumption) ?r21x13
                  case hi21x13 => simp only [List.getElem?_toArray, List.getElem?_cons_succ, List.getElem?_cons_zero]; rfl
                  case hy21x13 => exact Or.inr ⟨by rfl, rfl⟩
                  try simp only [Act.put, List.setIfInBounds_toArray, List.set_cons_zero, List.set_cons_succ]
                  refine wpAnyH_take (i := 22) (oi := ?o22x13) (v := ?v22x13) ?hi22x13 (by kernel_rfl) (by kernel_rfl) (by kernel_rfl) (fun _ _ _ h => h) ?hy22x13 (by assumption) ?r22x13
                  case hi22x13 => simp only [List.getElem?_toArray, List.getElem?_cons_succ, List.getElem?_cons_zero]; rfl
                  case hy22x13 => exact Or.inl ⟨by rfl, by (intro w hSw; (try dsimp only at hSw); go_simp) <;> with_reducible rfl⟩
                  try simp only [Act.put, List.setIfInBounds_toArray, List.set_cons_zero, List.set_cons_succ]
                  refine wpAnyH_take (i := 23) (oi := ?o23x13) (v := ?v23x13) ?hi23x13 (by kernel_rfl) (by kernel_rfl) (by kernel_rfl) (fun _ _ _ h => h) ?hy23x13 (by assumption) ?r23x13
                  case hi23x13 => simp only [List.getElem?_toArray, List.getElem?_cons_succ, List.getElem?_cons_zero]; rfl
                  case hy23x13 => exact Or.inl ⟨by rfl, by (intro w hSw; (try dsimp only at hSw); go_simp) <;> with_reducible rfl⟩
                  try simp only [Act.put, List.setIfInBounds_toArray, List.set_cons_zero, List.set_cons_succ]
                  refine wpAnyH_take (i := 24) (oi := ?o24x13) (v := ?v24x13) ?hi24x13 (by kernel_rfl) (by kernel_rfl) (by kernel_rfl) (fun _ _ _ h => h) ?hy24x13 (by assumption) ?r24x13
                  case hi24x13 => simp only [List.getElem?_toArray, List.getElem?_cons_succ, List.getElem?_cons_zero]; rfl
                  case hy24x13 => exact Or.inl ⟨by rfl, by (intro w hSw; (try dsimp only at hSw); go_simp) <;> with_reducible rfl⟩
                  try simp only [Act.put, List.setIfInBounds_toArray, List.set_cons_zero, List.set_cons_succ]
                  refine wpAnyH_take (i := 25) (oi := ?o25x13) (v := undef) ?hi25x13 (by kernel_rfl) (by kernel_rfl) (by kernel_rfl) (fun _ _ _ h => h) ?hy25x13 (by assumption) ?r25x13
                  case hi25x13 => simp only [List.getElem?_toArray, List.getElem?_cons_succ, List.getElem?_cons_zero]; rfl
                  case hy25x13 => exact Or.inr ⟨by rfl, rfl⟩
                  try simp only [Act.put, List.setIfInBounds_toArray, List.set_cons_zero, List.set_cons_succ]
                  refine wpAnyH_take (i := 26) (oi := ?o26x13) (v := undef) ?hi26x13 (by kernel_rfl) (by kernel_rfl) (by kernel_rfl) (fun _ _ _ h => h) ?hy26x13 (by assumption) ?r26x13
                  case hi26x13 => simp only [List.getElem?_toArray, List.getElem?_cons_succ, List.getElem?_cons_zero]; rfl
                  case hy26x13 => exact Or.inr ⟨by rfl, rfl⟩
                  try simp only [Act.put, List.setIfInBounds_toArray, List.set_cons_zero, List.set_cons_succ]
                  refine wpAnyH_take (i := 27) (oi := ?o27x13) (v := undef) ?hi27x13 (by kernel_rfl) (by kernel_rfl) (by kernel_rfl) (fun _ _ _ h => h) ?hy27x13 (by assumption) ?r27x13
                  case hi27x13 => simp only [List.getElem?_toArray, List.getElem?_cons_succ, List.getElem?_cons_zero]; rfl
                  case hy27x13 => exact Or.inr ⟨by rfl, rfl⟩
                  try simp only [Act.put, List.setIfInBounds_toArray, List.set_cons_zero, List.set_cons_succ]
                  refine wpAnyH_take (i := 28) (oi := ?o28x13) (v := undef) ?hi28x13 (by kernel_rfl) (by kernel_rfl) (by kernel_rfl) (fun _ _ _ h => h) ?hy28x13 (by assumption) ?r28x13
                  case hi28x13 => simp only [List.getElem?_toArray, List.getElem?_cons_succ, List.getElem?_cons_zero]; rfl
                  case hy28x13 => exact Or.inr ⟨by rfl, rfl⟩
                  try simp only [Act.put, List.setIfInBounds_toArray, List.set_cons_zero, List.set_cons_succ]
                  refine wpAnyH_take (i := 29) (oi := ?o29x13) (v := ?v29x13) ?hi29x13 (by kernel_rfl) (by kernel_rfl) (by kernel_rfl) (fun _ _ _ h => h) ?hy29x13 (by assumption) ?r29x13
                  case hi29x13 => simp only [List.getElem?_toArray, List.getElem?_cons_succ, List.getElem?_cons_zero]; rfl
                  case hy29x13 => exact Or.inl ⟨by rfl, by (intro w hSw; (try dsimp only at hSw); go_simp) <;> with_reducible rfl⟩
                  try simp only [Act.put, List.setIfInBounds_toArray, List.set_cons_zero, List.set_cons_succ]
                  refine wpAnyH_done (by kernel_rfl) ?_ _
                  refine NoPanic.normal ?_
                  have HH3 := Lib.hid hHeld
                  clear hHeld HBD
                  go_wp2
                  go_ret
                  exact HBAD.out _ (fun q => HXA.out (by have h4 := q.2.2.2.1; rw [HDR.out, HX.out, HY.out] at h4; exact h4.1)) (HB.out.trans (HH3.out.bel.mono HB.out.size))
        · have hsub : IntKind.i64.wrap (((st.length : Nat) : Int) - (P : Int)) = ((st.length : Nat) : Int) - (P : Int) := by rw [IntKind.wrap_i64]; omega
          have hneg : ((st.length : Nat) : Int) - (P : Int) < 0 := by omega
          go_wp2_with (first
            | (go_at_call 18; refine (CPa _).mono ?_; rintro e w1 ⟨rfl, hb1⟩; have HH1 := Lib.hid (HH0.out.below hb1); clear hb1; obtain ⟨r0, r1, r2, r3, r4, r5, r6, r7, r8, r9, _⟩ := HH1.out)
            | (go_at_call 56; refine (COn _).mono ?_; rintro e w2 ⟨rfl, hb2⟩; have HH2 := Lib.hid (HH1.out.below hb2); clear hb2; obtain ⟨s0, s1, s2, s3, s4, s5, s6, s7, s8, s9, _⟩ := HH2.out; clear HH1))
          go_ret
          exact HBAD.out _ (fun q => hle (by rw [HP.out]; exact q.2.1)) (HB.out.trans (HH2.out.bel.mono HB.out.size))
      · rw [decide_eq_false ho] at COn
        have hsub : ∃ z, IntKind.i64.wrap (((st.length : Nat) : Int) - (P : Int)) = z := ⟨_, rfl⟩
        obtain ⟨z, hsub⟩ := hsub
        go_wp2_with (first
          | (go_at_call 18; refine (CPa _).mono ?_; rintro e w1 ⟨rfl, hb1⟩; have HH1 := Lib.hid (HH0.out.below hb1); clear hb1; obtain ⟨r0, r1, r2, r3, r4, r5, r6, r7, r8, r9, _⟩ := HH1.out)
          | (go_at_call 56; refine (COn _).mono ?_; rintro e w2 ⟨rfl, hb2⟩; have HH2 := Lib.hid (HH1.out.below hb2); clear hb2; obtain ⟨s0, s1, s2, s3, s4, s5, s6, s7, s8, s9, _⟩ := HH2.out; clear HH1))
        go_ret
        exact HBAD.out _ (fun q => ho q.1) (HB.out.trans (HH2.out.bel.mono HB.out.size))
    · obtain rfl : k = l.length := by omega
      obtain ⟨bo, cap, rfl⟩ : ∃ bo cap, u3 = .slice bo st.length cap := by
        rcases own_forms HO.out with ⟨rfl, h0⟩ | ⟨g, cap, rfl, _⟩
        · exact ⟨none, 0, by rw [h0]⟩
        · exact ⟨_, _, rfl⟩
      have HE := Lib.hid (show decide (Ordered l) = (((st.length : Nat) : Int) == 1) from by
        rw [Bool.eq_iff_iff, decide_eq_true_iff, beq_iff_eq]
        constructor
        · rintro ⟨i, hi⟩
          rw [HR.out] at hi
          rw [Option.some.inj hi]; rfl
        · intro h1
          match st, h1 with
          | [i], _ => exact ⟨i, HR.out⟩)
      go_wp2
      go_ret
      exact ⟨by rw [HE.out]; rfl, HB.out⟩
end Go.Proofs.YtdjedjfanfbbcaaDoor.Rx
