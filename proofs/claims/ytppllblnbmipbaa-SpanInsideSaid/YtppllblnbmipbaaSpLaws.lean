/- The walks of the laws SpanCuts, SpanTells, SpanShifts, SpanHulls. -/
import Derived.Test.YtppllblnbmipbaaSpOf
namespace Go.Proofs.Ytppllblnbmipbaa.Sp
open Go.RowKit Fl
set_option linter.unusedVariables false
set_option linter.unusedSimpArgs false

theorem cut_same (t : ByteArray) (a b : Nat) : cutL t a b = rcut t a b t.size := by
  unfold cutL rcut
  by_cases h : may a b = true
  · rw [if_pos h, if_pos h]
    obtain ⟨h1, h2, h3⟩ := may_spec h
    obtain ⟨_, a2, a3, _⟩ := wh_spec h1
    obtain ⟨_, b2, b3, _⟩ := wh_spec h2
    have e : (min (tr b) ↑t.size).toNat = min t.size (tr b).toNat := by omega
    rw [e]
    by_cases hc : (tr a).toNat ≤ min t.size (tr b).toNat
    · have e2 : (min (tr a) (min (tr b) ↑t.size)).toNat = (tr a).toNat := by omega
      rw [e2]
    · have e2 : (min (tr a) (min (tr b) ↑t.size)).toNat = min t.size (tr b).toNat := by omega
      rw [e2]
      ext1
      simp only [ByteArray.data_extract]
      rw [Array.extract_eq_empty_of_le (by omega), Array.extract_eq_empty_of_le (by omega)]
  · rw [if_neg h, if_neg h]; rfl

set_option maxHeartbeats 400000 in
theorem spanCuts_walk (t : ByteArray) (a b : Nat) (wt : t.size ≤ maxLen) (wa : (Lit.float .f64 a).wf = true) (wb : (Lit.float .f64 b).wf = true) (w : World) :
    Calls Try.prog 4 #[.string t, .float .f64 a, .float .f64 b] w fun e w' => e = .returned (.bool true) ∧ Grown w w' := by
  clear wa wb
  have hc := cut_same t a b
  by_cases h : (300 : Int) < t.size
  all_goals
    go_enter Try.func4, Try.ntmps4
    go_wp2_with (first | (go_at_call 10; refine (of_any _ _ _).mono ?_; rintro e w' ⟨rfl, rfl⟩) | (go_at_call 13; refine (may_any _ _ _).mono ?_; rintro e w' ⟨rfl, rfl⟩) | (go_at_call 14; refine (from_any _ _ _).mono ?_; rintro e w' ⟨rfl, rfl⟩) | (go_at_call 15; refine (to_any _ _ _).mono ?_; rintro e w' ⟨rfl, rfl⟩) | (go_at_call 19; refine (len_any _ _ _).mono ?_; rintro e w' ⟨rfl, rfl⟩) | (go_at_call 26; refine (none_any _).mono ?_; rintro e w' ⟨rfl, rfl⟩) | (go_at_call 28; refine (hull_any _ _ _ _ _).mono ?_; rintro e w' ⟨rfl, rfl⟩) | (go_at_call 30; refine (meet_any _ _ _ _ _).mono ?_; rintro e w' ⟨rfl, rfl⟩) | (go_at_call 11; refine (rof_any _ _ _).mono ?_; rintro e w' ⟨rfl, rfl⟩) | (go_at_call 20; refine (rmay_any _ _ _).mono ?_; rintro e w' ⟨rfl, rfl⟩) | (go_at_call 21; refine (rfrom_any _ _ _).mono ?_; rintro e w' ⟨rfl, rfl⟩) | (go_at_call 22; refine (rto_any _ _ _).mono ?_; rintro e w' ⟨rfl, rfl⟩) | (go_at_call 23; refine (rlen_any _ _ _).mono ?_; rintro e w' ⟨rfl, rfl⟩) | (go_at_call 27; refine (rnone_any _).mono ?_; rintro e w' ⟨rfl, rfl⟩) | (go_at_call 29; refine (rhull_any _ _ _ _ _).mono ?_; rintro e w' ⟨rfl, rfl⟩) | (go_at_call 31; refine (rmeet_any _ _ _ _ _).mono ?_; rintro e w' ⟨rfl, rfl⟩) | (go_at_call 12; refine (same_any _ _ _ _ _).mono ?_; rintro e w' ⟨rfl, rfl⟩) | (go_at_call 16; refine (shown_any _).mono ?_; rintro e w' ⟨rfl, rfl⟩) | (go_at_call 17; refine (cut_any _ _ _ _ (by assumption)).mono ?_; rintro e w' ⟨rfl, rfl⟩) | (go_at_call 18; refine (rcut_any _ _ _ _ (by assumption)).mono ?_; rintro e w' ⟨rfl, rfl⟩) | (go_at_call 24; refine (shift_any _ _ _ _ (by omega) (by omega)).mono ?_; rintro e w' ⟨rfl, rfl⟩) | (go_at_call 25; refine (rshift_any _ _ _ _).mono ?_; rintro e w' ⟨rfl, rfl⟩))
    go_ret
    exact ⟨by simp, Grown.refl _⟩

/-! ### Shifts -/
theorem shift_same (a b : Nat) (n : Int) (h : -9223372036854775808 ≤ n) (h' : n ≤ 9223372036854775807) : eqB (sA a b n) (rsA a b n) = true ∧ eqB (sB a b n) (rsB a b n) = true := by
  cases hm : may a b
  · unfold sA sB rsA rsB; rw [hm]; exact ⟨eqB_none, eqB_none⟩
  · obtain ⟨h1, h2, h3⟩ := may_spec hm
    obtain ⟨c1, c2⟩ := may_sh n hm h h'
    have f1 : fromV a b = tr a := by unfold fromV; rw [hm]; rfl
    have f2 : toV a b = tr b := by unfold toV; rw [hm]; rfl
    cases hs : may (sh a n) (sh b n)
    · have hA : sA a b n = noneB := by unfold sA; rw [hs]; simp
      have hB : sB a b n = noneB := by unfold sB; rw [hs]; simp
      rw [hA, hB]
      rw [hs] at c1
      unfold rsA rsB
      rw [hm, f1, f2]
      by_cases hn : -999999999 ≤ n ∧ n ≤ 999999999
      · have : inB (tr a + n) (tr b + n) = false := by
          unfold inB
          rw [Bool.eq_false_iff]
          intro hc
          have c1' := c1.symm
          rw [Bool.eq_false_iff] at c1'
          apply c1'
          simp at hc ⊢
          omega
        unfold rA rB
        rw [this]
        split <;> exact ⟨eqB_none, eqB_none⟩
      · have : (true && decide (-999999999 ≤ n) && decide (n ≤ 999999999)) = false := by
          rw [Bool.eq_false_iff]; simp; omega
        rw [this]; exact ⟨eqB_none, eqB_none⟩
    · obtain ⟨g1, g2⟩ := c2 hs
      rw [hs] at c1
      have c3 := c1.symm
      simp at c3
      have hin : inB (tr a + n) (tr b + n) = true := inB_of (by omega) (by omega) (by omega)
      obtain ⟨k1, k2, k3, k4, k5⟩ := fi_in hin
      obtain ⟨k6, k7, _⟩ := may_spec k1
      obtain ⟨s1, s2, _⟩ := may_spec hs
      have hA : sA a b n = sh a n := by unfold sA; rw [hs, hm]; rfl
      have hB : sB a b n = sh b n := by unfold sB; rw [hs, hm]; rfl
      have hc : (may a b && decide (-999999999 ≤ n) && decide (n ≤ 999999999)) = true := by rw [hm]; simp; omega
      have rA1 : rsA a b n = fi (tr a + n) := by unfold rsA; rw [if_pos hc, f1, f2]; unfold rA; rw [if_pos hin]
      have rB1 : rsB a b n = fi (tr b + n) := by unfold rsB; rw [if_pos hc, f1, f2]; unfold rB; rw [if_pos hin]
      rw [hA, hB, rA1, rB1]
      exact ⟨wh_eq s1 k6 (by rw [g1, k4]), wh_eq s2 k7 (by rw [g2, k5])⟩

set_option maxHeartbeats 400000 in
theorem spanTells_walk (a b : Nat) (n : Int) (wa : (Lit.float .f64 a).wf = true) (wb : (Lit.float .f64 b).wf = true) (wn : (Lit.int .i64 n).wf = true) (w : World) :
    Calls Try.prog 6 #[.float .f64 a, .float .f64 b, .int .i64 n] w fun e w' => e = .returned (.bool true) ∧ Grown w w' := by
  obtain ⟨n1, n2⟩ := wf_i64 wn
  obtain ⟨s1, s2⟩ := shift_same a b n n1 n2
  have s3 := eqB_none
  clear wa wb wn
  go_enter Try.func6, Try.ntmps6
  go_wp2_with (first | (go_at_call 10; refine (of_any _ _ _).mono ?_; rintro e w' ⟨rfl, rfl⟩) | (go_at_call 13; refine (may_any _ _ _).mono ?_; rintro e w' ⟨rfl, rfl⟩) | (go_at_call 14; refine (from_any _ _ _).mono ?_; rintro e w' ⟨rfl, rfl⟩) | (go_at_call 15; refine (to_any _ _ _).mono ?_; rintro e w' ⟨rfl, rfl⟩) | (go_at_call 19; refine (len_any _ _ _).mono ?_; rintro e w' ⟨rfl, rfl⟩) | (go_at_call 26; refine (none_any _).mono ?_; rintro e w' ⟨rfl, rfl⟩) | (go_at_call 28; refine (hull_any _ _ _ _ _).mono ?_; rintro e w' ⟨rfl, rfl⟩) | (go_at_call 30; refine (meet_any _ _ _ _ _).mono ?_; rintro e w' ⟨rfl, rfl⟩) | (go_at_call 11; refine (rof_any _ _ _).mono ?_; rintro e w' ⟨rfl, rfl⟩) | (go_at_call 20; refine (rmay_any _ _ _).mono ?_; rintro e w' ⟨rfl, rfl⟩) | (go_at_call 21; refine (rfrom_any _ _ _).mono ?_; rintro e w' ⟨rfl, rfl⟩) | (go_at_call 22; refine (rto_any _ _ _).mono ?_; rintro e w' ⟨rfl, rfl⟩) | (go_at_call 23; refine (rlen_any _ _ _).mono ?_; rintro e w' ⟨rfl, rfl⟩) | (go_at_call 27; refine (rnone_any _).mono ?_; rintro e w' ⟨rfl, rfl⟩) | (go_at_call 29; refine (rhull_any _ _ _ _ _).mono ?_; rintro e w' ⟨rfl, rfl⟩) | (go_at_call 31; refine (rmeet_any _ _ _ _ _).mono ?_; rintro e w' ⟨rfl, rfl⟩) | (go_at_call 12; refine (same_any _ _ _ _ _).mono ?_; rintro e w' ⟨rfl, rfl⟩) | (go_at_call 16; refine (shown_any _).mono ?_; rintro e w' ⟨rfl, rfl⟩) | (go_at_call 17; refine (cut_any _ _ _ _ (by assumption)).mono ?_; rintro e w' ⟨rfl, rfl⟩) | (go_at_call 18; refine (rcut_any _ _ _ _ (by assumption)).mono ?_; rintro e w' ⟨rfl, rfl⟩) | (go_at_call 24; refine (shift_any _ _ _ _ (by omega) (by omega)).mono ?_; rintro e w' ⟨rfl, rfl⟩) | (go_at_call 25; refine (rshift_any _ _ _ _).mono ?_; rintro e w' ⟨rfl, rfl⟩))
  go_ret
  exact ⟨by simp, Grown.refl _⟩

theorem hull_same (a b c d : Nat) : eqB (hA a b c d) (rhA a b c d) = true ∧ eqB (hB a b c d) (rhB a b c d) = true ∧ meetB a b c d = rmeetB a b c d := by
  cases h1 : may a b <;> cases h2 : may c d
  · unfold hA hB rhA rhB meetB rmeetB; rw [h1, h2]; exact ⟨eqB_none, eqB_none, rfl⟩
  · obtain ⟨w1, w2, _⟩ := may_spec h2
    unfold hA hB rhA rhB meetB rmeetB; rw [h1, h2]; exact ⟨wh_refl w1, wh_refl w2, rfl⟩
  · obtain ⟨w1, w2, _⟩ := may_spec h1
    unfold hA hB rhA rhB meetB rmeetB; rw [h1, h2]; exact ⟨wh_refl w1, wh_refl w2, rfl⟩
  · obtain ⟨w1, w2, w3⟩ := may_spec h1
    obtain ⟨v1, v2, v3⟩ := may_spec h2
    obtain ⟨_, a2, a3, _⟩ := wh_spec w1
    obtain ⟨_, b2, b3, _⟩ := wh_spec w2
    obtain ⟨_, c2, c3, _⟩ := wh_spec v1
    obtain ⟨_, d2, d3, _⟩ := wh_spec v2
    have e1 : fromV a b = tr a := by unfold fromV; rw [h1]; rfl
    have e2 : toV a b = tr b := by unfold toV; rw [h1]; rfl
    have e3 : fromV c d = tr c := by unfold fromV; rw [h2]; rfl
    have e4 : toV c d = tr d := by unfold toV; rw [h2]; rfl
    have hin : inB (min (tr a) (tr c)) (max (tr b) (tr d)) = true := inB_of (by omega) (by omega) (by omega)
    obtain ⟨k1, k2, k3, k4, k5⟩ := fi_in hin
    obtain ⟨k6, k7, _⟩ := may_spec k1
    obtain ⟨m1, m2⟩ := minF_wh w1 v1
    obtain ⟨m3, m4⟩ := maxF_wh w2 v2
    obtain ⟨m5, m6⟩ := maxF_wh w1 v1
    obtain ⟨m7, m8⟩ := minF_wh w2 v2
    unfold hA hB rhA rhB meetB rmeetB rA rB
    rw [h1, h2, e1, e2, e3, e4, lt_wh m5 m7, m6, m8]
    simp only [if_true, hin]
    exact ⟨wh_eq m1 k6 (by rw [m2, k4]), wh_eq m3 k7 (by rw [m4, k5]), by simp⟩
theorem rmeet_comm (a b c d : Nat) : rmeetB a b c d = rmeetB c d a b := by
  unfold rmeetB
  rw [Int.max_comm, Int.min_comm, Bool.and_comm (may a b)]

set_option maxHeartbeats 400000 in
theorem spanHulls_walk (a b c d : Nat) (wa : (Lit.float .f64 a).wf = true) (wb : (Lit.float .f64 b).wf = true) (wc : (Lit.float .f64 c).wf = true) (wd : (Lit.float .f64 d).wf = true) (w : World) :
    Calls Try.prog 8 #[.float .f64 a, .float .f64 b, .float .f64 c, .float .f64 d] w fun e w' => e = .returned (.bool true) ∧ Grown w w' := by
  obtain ⟨s1, s2, s3⟩ := hull_same a b c d
  have s4 : meetB c d a b = rmeetB a b c d := by rw [(hull_same c d a b).2.2, rmeet_comm]
  clear wa wb wc wd
  go_enter Try.func8, Try.ntmps8
  go_wp2_with (first | (go_at_call 10; refine (of_any _ _ _).mono ?_; rintro e w' ⟨rfl, rfl⟩) | (go_at_call 13; refine (may_any _ _ _).mono ?_; rintro e w' ⟨rfl, rfl⟩) | (go_at_call 14; refine (from_any _ _ _).mono ?_; rintro e w' ⟨rfl, rfl⟩) | (go_at_call 15; refine (to_any _ _ _).mono ?_; rintro e w' ⟨rfl, rfl⟩) | (go_at_call 19; refine (len_any _ _ _).mono ?_; rintro e w' ⟨rfl, rfl⟩) | (go_at_call 26; refine (none_any _).mono ?_; rintro e w' ⟨rfl, rfl⟩) | (go_at_call 28; refine (hull_any _ _ _ _ _).mono ?_; rintro e w' ⟨rfl, rfl⟩) | (go_at_call 30; refine (meet_any _ _ _ _ _).mono ?_; rintro e w' ⟨rfl, rfl⟩) | (go_at_call 11; refine (rof_any _ _ _).mono ?_; rintro e w' ⟨rfl, rfl⟩) | (go_at_call 20; refine (rmay_any _ _ _).mono ?_; rintro e w' ⟨rfl, rfl⟩) | (go_at_call 21; refine (rfrom_any _ _ _).mono ?_; rintro e w' ⟨rfl, rfl⟩) | (go_at_call 22; refine (rto_any _ _ _).mono ?_; rintro e w' ⟨rfl, rfl⟩) | (go_at_call 23; refine (rlen_any _ _ _).mono ?_; rintro e w' ⟨rfl, rfl⟩) | (go_at_call 27; refine (rnone_any _).mono ?_; rintro e w' ⟨rfl, rfl⟩) | (go_at_call 29; refine (rhull_any _ _ _ _ _).mono ?_; rintro e w' ⟨rfl, rfl⟩) | (go_at_call 31; refine (rmeet_any _ _ _ _ _).mono ?_; rintro e w' ⟨rfl, rfl⟩) | (go_at_call 12; refine (same_any _ _ _ _ _).mono ?_; rintro e w' ⟨rfl, rfl⟩) | (go_at_call 16; refine (shown_any _).mono ?_; rintro e w' ⟨rfl, rfl⟩) | (go_at_call 17; refine (cut_any _ _ _ _ (by assumption)).mono ?_; rintro e w' ⟨rfl, rfl⟩) | (go_at_call 18; refine (rcut_any _ _ _ _ (by assumption)).mono ?_; rintro e w' ⟨rfl, rfl⟩) | (go_at_call 24; refine (shift_any _ _ _ _ (by omega) (by omega)).mono ?_; rintro e w' ⟨rfl, rfl⟩) | (go_at_call 25; refine (rshift_any _ _ _ _).mono ?_; rintro e w' ⟨rfl, rfl⟩))
  go_ret
  exact ⟨by simp, Grown.refl _⟩
end Go.Proofs.Ytppllblnbmipbaa.Sp
