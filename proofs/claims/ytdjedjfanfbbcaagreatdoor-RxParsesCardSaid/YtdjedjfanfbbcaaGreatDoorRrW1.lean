/- The document's look at nodes: first: the walk. -/
import Derived.Test.YtdjedjfanfbbcaaGreatDoorRrW0
namespace Go.Proofs.YtdjedjfanfbbcaaGreatDoor.Rx
open Go.RowKit Go.Shelf
open Go.Proofs.YtdjedjfanfbbcaaGreatDoor.St (Wf word zeroW wf_zero)
set_option linter.unusedVariables false
set_option linter.unusedSimpArgs false
set_option maxRecDepth 100000 in
set_option maxHeartbeats 1600000 in
theorem first_any (b0 o0 c : Nat) (l : List Nd) (hl : l.length ≤ 100000) : ∀ (f : Nat) (i : Int) (w : World), Ns w (.slice (some ⟨b0, o0, none⟩) l.length c) l → i < f → i < l.length → -1 ≤ i →
    Calls Tryz.prog 46 #[.slice (some ⟨b0, o0, none⟩) l.length c, E i] w fun e w' => e = .returned (E (firstF l f i)) ∧ Below w.heap.size w w'
  | f, i, w, hN, hf, hi, h1 => by
    by_cases h0 : i < 0
    · have HO := Lib.hid (show firstF l f i = -1 from by
        cases f with
        | zero => rfl
        | succ f => unfold firstF; rw [if_pos h0])
      clear hN hf hi h1 hl
      go_enter Tryz.func46, Tryz.ntmps46
      go_wp2
      go_ret
      exact ⟨by rw [HO.out]; rfl, Below.refl _ _⟩
    obtain ⟨g, rfl⟩ : ∃ g, f = g + 1 := ⟨f - 1, by omega⟩
    obtain ⟨j, rfl⟩ : ∃ j : Nat, i = (j : Int) := ⟨i.toNat, by omega⟩
    have hj : j < l.length := by omega
    have hj' : ((j : Nat) : Int) < ((l.length : Nat) : Int) := by omega
    have hj0 : (0 : Int) ≤ ((j : Nat) : Int) := by omega
    have IH := fun (i' : Int) (w' : World) (h : Below w.heap.size w w') => first_any b0 o0 c l hl g i' w' (hN.below h)
    obtain ⟨B, o, hq, q0, q1, q2, q3, q4, q5, q6, q7, q8, q9⟩ := hN.at hj
    simp only [Option.some.injEq, Addr.mk.injEq, and_true] at hq
    obtain ⟨rfl, rfl⟩ := hq
    have hget : l[(((j : Nat) : Int)).toNat]? = some l[j] := by rw [Int.toNat_natCast]; exact List.getElem?_eq_getElem hj
    generalize l[j] = n at *
    have hs1 : IntKind.i64.wrap (((j : Nat) : Int) - 1) = ((j : Nat) : Int) - 1 := by rw [IntKind.wrap_i64]; omega
    have hle := first_le l g (((j : Nat) : Int) - 1)
    by_cases h45 : n.k = 4 ∨ n.k = 5
    · have HO := first_two (f := g) hj0 hget h45
      by_cases hb : n.b = ((j : Nat) : Int) - 1
      · rw [if_neg (by omega)] at HO
        have H1 := Lib.hid (IH (((j : Nat) : Int) - 1) w (Below.refl _ _) (by omega) (by omega) (by omega))
        by_cases hlt : firstF l g (((j : Nat) : Int) - 1) < 1
        · rw [if_pos (Or.inl hlt)] at HO
          have HO := Lib.hid HO
          generalize firstF l g (((j : Nat) : Int) - 1) = b1 at *
          have hbB : (n.b == ((j : Nat) : Int) - 1) = true := by rw [beq_iff_eq]; exact hb
          clear hle hget IH hN hf hi h1 hl h0 hb
          rcases h45 with h45 | h45
          · have kk : (n.k == 4) = true := by rw [beq_iff_eq]; exact h45
            clear h45
            go_enter Tryz.func46, Tryz.ntmps46
            go_wp2_with (go_at_call 46; have hq := H1.out; clear H1; refine hq.mono ?_; clear hq; rintro e w1 ⟨rfl, hb⟩; have c5 := (hb.cell (lt_cell q5)).trans q5; have HB1 := Lib.hid hb; clear hb)
            go_ret
            exact ⟨by rw [HO.out]; rfl, HB1.out⟩
          · have kk : (n.k == 5) = true := by rw [beq_iff_eq]; exact h45
            have kn : (n.k == 4) = false := by rw [beq_eq_false_iff_ne]; omega
            clear h45
            go_enter Tryz.func46, Tryz.ntmps46
            go_wp2_with (go_at_call 46; have hq := H1.out; clear H1; refine hq.mono ?_; clear hq; rintro e w1 ⟨rfl, hb⟩; have c5 := (hb.cell (lt_cell q5)).trans q5; have HB1 := Lib.hid hb; clear hb)
            go_ret
            exact ⟨by rw [HO.out]; rfl, HB1.out⟩
        · by_cases ha : n.a = firstF l g (((j : Nat) : Int) - 1) - 1
          · rw [if_neg (by omega)] at HO
            have H2 := Lib.hid (fun W h => IH (firstF l g (((j : Nat) : Int) - 1) - 1) W h (by omega) (by omega) (by omega))
            have hs2 : IntKind.i64.wrap (firstF l g (((j : Nat) : Int) - 1) - 1) = firstF l g (((j : Nat) : Int) - 1) - 1 := by rw [IntKind.wrap_i64]; omega
            generalize firstF l g (((j : Nat) : Int) - 1) = b1 at *
            generalize firstF l g (b1 - 1) = b2 at *
            have HO := Lib.hid HO
            clear hle hget IH hN hf hi h1 hl h0
            have haB : (n.a == b1 - 1) = true := by rw [beq_iff_eq]; exact ha
            have haN : (n.a != b1 - 1) = false := by simpa using ha
            have hl1 : ¬ b1 < 1 := hlt
            have hbB : (n.b == ((j : Nat) : Int) - 1) = true := by rw [beq_iff_eq]; exact hb
            clear ha hb
            rcases h45 with h45 | h45
            · have kk : (n.k == 4) = true := by rw [beq_iff_eq]; exact h45
              clear h45
              go_enter Tryz.func46, Tryz.ntmps46
              go_wp2_with (first | (go_at_call 46; have hq := H1.out; clear H1; refine hq.mono ?_; clear hq; rintro e w1 ⟨rfl, hb⟩; have c5 := (hb.cell (lt_cell q5)).trans q5; have HB1 := Lib.hid hb; clear hb) | (go_at_call 46; refine (H2.out _ HB1.out).mono ?_; rintro e w2 ⟨rfl, hb⟩; have HB2 := Lib.hid (HB1.out.trans (hb.mono HB1.out.size)); clear hb))
              go_ret
              exact ⟨by rw [HO.out]; rfl, HB2.out⟩
            · have kk : (n.k == 5) = true := by rw [beq_iff_eq]; exact h45
              have kn : (n.k == 4) = false := by rw [beq_eq_false_iff_ne]; omega
              clear h45
              go_enter Tryz.func46, Tryz.ntmps46
              go_wp2_with (first | (go_at_call 46; have hq := H1.out; clear H1; refine hq.mono ?_; clear hq; rintro e w1 ⟨rfl, hb⟩; have c5 := (hb.cell (lt_cell q5)).trans q5; have HB1 := Lib.hid hb; clear hb) | (go_at_call 46; refine (H2.out _ HB1.out).mono ?_; rintro e w2 ⟨rfl, hb⟩; have HB2 := Lib.hid (HB1.out.trans (hb.mono HB1.out.size)); clear hb))
              go_ret
              exact ⟨by rw [HO.out]; rfl, HB2.out⟩
          · rw [if_pos (Or.inr ha)] at HO
            have hs2 : IntKind.i64.wrap (firstF l g (((j : Nat) : Int) - 1) - 1) = firstF l g (((j : Nat) : Int) - 1) - 1 := by rw [IntKind.wrap_i64]; omega
            generalize firstF l g (((j : Nat) : Int) - 1) = b1 at *
            have HO := Lib.hid HO
            have haB : (n.a == b1 - 1) = false := by rw [beq_eq_false_iff_ne]; exact ha
            have haN : (n.a != b1 - 1) = true := by simpa using ha
            have hl1 : ¬ b1 < 1 := hlt
            have hbB : (n.b == ((j : Nat) : Int) - 1) = true := by rw [beq_iff_eq]; exact hb
            clear hle hget IH hN hf hi h1 hl h0 ha hb
            have hq1 : b1 ≤ 100000 ∨ True := Or.inr trivial
            rcases h45 with h45 | h45
            · have kk : (n.k == 4) = true := by rw [beq_iff_eq]; exact h45
              clear h45
              go_enter Tryz.func46, Tryz.ntmps46
              go_wp2_with (go_at_call 46; have hq := H1.out; clear H1; refine hq.mono ?_; clear hq; rintro e w1 ⟨rfl, hb⟩; have c5 := (hb.cell (lt_cell q5)).trans q5; have HB1 := Lib.hid hb; clear hb)
              go_ret
              exact ⟨by rw [HO.out]; rfl, HB1.out⟩
            · have kk : (n.k == 5) = true := by rw [beq_iff_eq]; exact h45
              have kn : (n.k == 4) = false := by rw [beq_eq_false_iff_ne]; omega
              clear h45
              go_enter Tryz.func46, Tryz.ntmps46
              go_wp2_with (go_at_call 46; have hq := H1.out; clear H1; refine hq.mono ?_; clear hq; rintro e w1 ⟨rfl, hb⟩; have c5 := (hb.cell (lt_cell q5)).trans q5; have HB1 := Lib.hid hb; clear hb)
              go_ret
              exact ⟨by rw [HO.out]; rfl, HB1.out⟩
      · rw [if_pos hb] at HO
        have HO := Lib.hid HO
        have hbB : (n.b == ((j : Nat) : Int) - 1) = false := by rw [beq_eq_false_iff_ne]; exact hb
        clear hle hget IH hN hf hi h1 hl h0 hb
        rcases h45 with h45 | h45
        · have kk : (n.k == 4) = true := by rw [beq_iff_eq]; exact h45
          clear h45
          go_enter Tryz.func46, Tryz.ntmps46
          go_wp2
          go_ret
          exact ⟨by rw [HO.out]; rfl, Below.refl _ _⟩
        · have kk : (n.k == 5) = true := by rw [beq_iff_eq]; exact h45
          have kn : (n.k == 4) = false := by rw [beq_eq_false_iff_ne]; omega
          clear h45
          go_enter Tryz.func46, Tryz.ntmps46
          go_wp2
          go_ret
          exact ⟨by rw [HO.out]; rfl, Below.refl _ _⟩
    · have k4 : (n.k == 4) = false := by rw [beq_eq_false_iff_ne]; exact fun q => h45 (Or.inl q)
      have k5 : (n.k == 5) = false := by rw [beq_eq_false_iff_ne]; exact fun q => h45 (Or.inr q)
      by_cases h67 : n.k = 6 ∨ n.k = 7
      · have HO := first_one (f := g) hj0 hget h45 h67
        by_cases ha : n.a = ((j : Nat) : Int) - 1
        · rw [if_neg (by omega)] at HO
          have H1 := Lib.hid (IH (((j : Nat) : Int) - 1) w (Below.refl _ _) (by omega) (by omega) (by omega))
          generalize firstF l g (((j : Nat) : Int) - 1) = b1 at *
          have HO := Lib.hid HO
          have haB : (n.a == ((j : Nat) : Int) - 1) = true := by rw [beq_iff_eq]; exact ha
          clear hle hget IH hN hf hi h1 hl h0 h45 ha
          rcases h67 with h67 | h67
          · have kk : (n.k == 6) = true := by rw [beq_iff_eq]; exact h67
            clear h67
            go_enter Tryz.func46, Tryz.ntmps46
            go_wp2_with (go_at_call 46; have hq := H1.out; clear H1; refine hq.mono ?_; clear hq; rintro e w1 ⟨rfl, hb⟩; have c5 := (hb.cell (lt_cell q5)).trans q5; have HB1 := Lib.hid hb; clear hb)
            go_ret
            exact ⟨by rw [HO.out]; rfl, HB1.out⟩
          · have kk : (n.k == 7) = true := by rw [beq_iff_eq]; exact h67
            have kn : (n.k == 6) = false := by rw [beq_eq_false_iff_ne]; omega
            clear h67
            go_enter Tryz.func46, Tryz.ntmps46
            go_wp2_with (go_at_call 46; have hq := H1.out; clear H1; refine hq.mono ?_; clear hq; rintro e w1 ⟨rfl, hb⟩; have c5 := (hb.cell (lt_cell q5)).trans q5; have HB1 := Lib.hid hb; clear hb)
            go_ret
            exact ⟨by rw [HO.out]; rfl, HB1.out⟩
        · rw [if_pos ha] at HO
          have HO := Lib.hid HO
          have haB : (n.a == ((j : Nat) : Int) - 1) = false := by rw [beq_eq_false_iff_ne]; exact ha
          clear hle hget IH hN hf hi h1 hl h0 h45 ha
          rcases h67 with h67 | h67
          · have kk : (n.k == 6) = true := by rw [beq_iff_eq]; exact h67
            clear h67
            go_enter Tryz.func46, Tryz.ntmps46
            go_wp2
            go_ret
            exact ⟨by rw [HO.out]; rfl, Below.refl _ _⟩
          · have kk : (n.k == 7) = true := by rw [beq_iff_eq]; exact h67
            have kn : (n.k == 6) = false := by rw [beq_eq_false_iff_ne]; omega
            clear h67
            go_enter Tryz.func46, Tryz.ntmps46
            go_wp2
            go_ret
            exact ⟨by rw [HO.out]; rfl, Below.refl _ _⟩
      · have HO := Lib.hid (first_leaf (f := g) hj0 hget h45 h67)
        have k6 : (n.k == 6) = false := by rw [beq_eq_false_iff_ne]; exact fun q => h67 (Or.inl q)
        have k7 : (n.k == 7) = false := by rw [beq_eq_false_iff_ne]; exact fun q => h67 (Or.inr q)
        clear hle hget IH hN hf hi h1 hl h0 h45 h67
        go_enter Tryz.func46, Tryz.ntmps46
        go_wp2
        go_ret
        exact ⟨by rw [HO.out]; rfl, Below.refl _ _⟩
end Go.Proofs.YtdjedjfanfbbcaaGreatDoor.Rx
