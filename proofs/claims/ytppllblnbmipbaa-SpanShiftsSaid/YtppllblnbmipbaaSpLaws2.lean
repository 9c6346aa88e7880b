/- The walks of the laws SpanShifts, SpanInside, SpanParts. -/
import Derived.Test.YtppllblnbmipbaaSpLaws
namespace Go.Proofs.Ytppllblnbmipbaa.Sp
open Go.RowKit Fl
set_option linter.unusedVariables false
set_option linter.unusedSimpArgs false

/-- A span in the bounds, shifted to a span, and back. -/
theorem shift_back {a b n : Int} (h : inB a b = true) (hn : -999999999 ≤ n) (hn' : n ≤ 999999999) (h0 : 0 ≤ a + n) (h1 : b + n ≤ 999999999) :
    may (sA (fi a) (fi b) n) (sB (fi a) (fi b) n) = true ∧ fromV (sA (fi a) (fi b) n) (sB (fi a) (fi b) n) = a + n ∧ toV (sA (fi a) (fi b) n) (sB (fi a) (fi b) n) = b + n ∧
      eqB (sA (sA (fi a) (fi b) n) (sB (fi a) (fi b) n) (-n)) (fi a) = true ∧ eqB (sB (sA (fi a) (fi b) n) (sB (fi a) (fi b) n) (-n)) (fi b) = true := by
  obtain ⟨i0, i1, i2⟩ := inB_spec h
  obtain ⟨k1, k2, k3, k4, k5⟩ := fi_in h
  obtain ⟨c1, c2⟩ := may_sh n k1 (by omega) (by omega)
  have hs : may (sh (fi a) n) (sh (fi b) n) = true := by
    rw [c1, k4, k5]; simp; omega
  obtain ⟨g1, g2⟩ := c2 hs
  have hA : sA (fi a) (fi b) n = sh (fi a) n := by unfold sA; rw [hs, k1]; rfl
  have hB : sB (fi a) (fi b) n = sh (fi b) n := by unfold sB; rw [hs, k1]; rfl
  rw [hA, hB]
  have e1 : fromV (sh (fi a) n) (sh (fi b) n) = a + n := by unfold fromV; rw [hs]; simp [g1, k4]
  have e2 : toV (sh (fi a) n) (sh (fi b) n) = b + n := by unfold toV; rw [hs]; simp [g2, k5]
  obtain ⟨d1, d2⟩ := may_sh (-n) hs (by omega) (by omega)
  have ht : may (sh (sh (fi a) n) (-n)) (sh (sh (fi b) n) (-n)) = true := by
    rw [d1, g1, g2, k4, k5]; simp; omega
  obtain ⟨f1, f2⟩ := d2 ht
  obtain ⟨t1, t2, _⟩ := may_spec ht
  obtain ⟨u1, u2, _⟩ := may_spec k1
  have hA2 : sA (sh (fi a) n) (sh (fi b) n) (-n) = sh (sh (fi a) n) (-n) := by unfold sA; rw [hs, ht]; rfl
  have hB2 : sB (sh (fi a) n) (sh (fi b) n) (-n) = sh (sh (fi b) n) (-n) := by unfold sB; rw [hs, ht]; rfl
  rw [hA2, hB2]
  exact ⟨hs, e1, e2, wh_eq t1 u1 (by rw [f1, g1, k4]; omega), wh_eq t2 u2 (by rw [f2, g2, k5]; omega)⟩
theorem shift_out {a b n : Int} (h : inB a b = true) (hn : -999999999 ≤ n) (hn' : n ≤ 999999999) (h0 : a + n < 0 ∨ 999999999 < b + n) :
    may (sA (fi a) (fi b) n) (sB (fi a) (fi b) n) = false := by
  obtain ⟨i0, i1, i2⟩ := inB_spec h
  obtain ⟨k1, k2, k3, k4, k5⟩ := fi_in h
  obtain ⟨c1, c2⟩ := may_sh n k1 (by omega) (by omega)
  have hs : may (sh (fi a) n) (sh (fi b) n) = false := by
    rw [c1, k4, k5, Bool.eq_false_iff]; simp; omega
  have hA : sA (fi a) (fi b) n = noneB := by unfold sA; rw [hs]; simp
  have hB : sB (fi a) (fi b) n = noneB := by unfold sB; rw [hs]; simp
  rw [hA, hB]; exact may_none
theorem k_in {a b : Int} (h : inB a b = true) : kA (fi a) (fi b) = fi a ∧ kB (fi a) (fi b) = fi b := by
  obtain ⟨k1, _⟩ := fi_in h
  constructor
  · unfold kA; rw [k1]; rfl
  · unfold kB; rw [k1]; rfl

set_option maxHeartbeats 400000 in
theorem spanShifts_walk (a b n : Int) (wa : (Lit.int .i64 a).wf = true) (wb : (Lit.int .i64 b).wf = true) (wn : (Lit.int .i64 n).wf = true) (w : World) :
    Calls Try.prog 7 #[.int .i64 a, .int .i64 b, .int .i64 n] w fun e w' => e = .returned (.bool true) ∧ Grown w w' := by
  obtain ⟨a1, a2⟩ := wf_i64 wa
  obtain ⟨b1, b2⟩ := wf_i64 wb
  obtain ⟨n1, n2⟩ := wf_i64 wn
  clear wa wb wn
  by_cases h1 : a < 0
  · go_enter Try.func7, Try.ntmps7
    go_wp2_with (first | (go_at_call 10; refine (of_any _ _ _).mono ?_; rintro e w' ⟨rfl, rfl⟩) | (go_at_call 13; refine (may_any _ _ _).mono ?_; rintro e w' ⟨rfl, rfl⟩) | (go_at_call 14; refine (from_any _ _ _).mono ?_; rintro e w' ⟨rfl, rfl⟩) | (go_at_call 15; refine (to_any _ _ _).mono ?_; rintro e w' ⟨rfl, rfl⟩) | (go_at_call 19; refine (len_any _ _ _).mono ?_; rintro e w' ⟨rfl, rfl⟩) | (go_at_call 26; refine (none_any _).mono ?_; rintro e w' ⟨rfl, rfl⟩) | (go_at_call 28; refine (hull_any _ _ _ _ _).mono ?_; rintro e w' ⟨rfl, rfl⟩) | (go_at_call 30; refine (meet_any _ _ _ _ _).mono ?_; rintro e w' ⟨rfl, rfl⟩) | (go_at_call 11; refine (rof_any _ _ _).mono ?_; rintro e w' ⟨rfl, rfl⟩) | (go_at_call 20; refine (rmay_any _ _ _).mono ?_; rintro e w' ⟨rfl, rfl⟩) | (go_at_call 21; refine (rfrom_any _ _ _).mono ?_; rintro e w' ⟨rfl, rfl⟩) | (go_at_call 22; refine (rto_any _ _ _).mono ?_; rintro e w' ⟨rfl, rfl⟩) | (go_at_call 23; refine (rlen_any _ _ _).mono ?_; rintro e w' ⟨rfl, rfl⟩) | (go_at_call 27; refine (rnone_any _).mono ?_; rintro e w' ⟨rfl, rfl⟩) | (go_at_call 29; refine (rhull_any _ _ _ _ _).mono ?_; rintro e w' ⟨rfl, rfl⟩) | (go_at_call 31; refine (rmeet_any _ _ _ _ _).mono ?_; rintro e w' ⟨rfl, rfl⟩) | (go_at_call 12; refine (same_any _ _ _ _ _).mono ?_; rintro e w' ⟨rfl, rfl⟩) | (go_at_call 16; refine (shown_any _).mono ?_; rintro e w' ⟨rfl, rfl⟩) | (go_at_call 17; refine (cut_any _ _ _ _ (by assumption)).mono ?_; rintro e w' ⟨rfl, rfl⟩) | (go_at_call 18; refine (rcut_any _ _ _ _ (by assumption)).mono ?_; rintro e w' ⟨rfl, rfl⟩) | (go_at_call 24; refine (shift_any _ _ _ _ (by omega) (by omega)).mono ?_; rintro e w' ⟨rfl, rfl⟩) | (go_at_call 25; refine (rshift_any _ _ _ _).mono ?_; rintro e w' ⟨rfl, rfl⟩))
    go_ret
    exact ⟨rfl, Grown.refl _⟩
  by_cases h2 : b < a
  · go_enter Try.func7, Try.ntmps7
    go_wp2_with (first | (go_at_call 10; refine (of_any _ _ _).mono ?_; rintro e w' ⟨rfl, rfl⟩) | (go_at_call 13; refine (may_any _ _ _).mono ?_; rintro e w' ⟨rfl, rfl⟩) | (go_at_call 14; refine (from_any _ _ _).mono ?_; rintro e w' ⟨rfl, rfl⟩) | (go_at_call 15; refine (to_any _ _ _).mono ?_; rintro e w' ⟨rfl, rfl⟩) | (go_at_call 19; refine (len_any _ _ _).mono ?_; rintro e w' ⟨rfl, rfl⟩) | (go_at_call 26; refine (none_any _).mono ?_; rintro e w' ⟨rfl, rfl⟩) | (go_at_call 28; refine (hull_any _ _ _ _ _).mono ?_; rintro e w' ⟨rfl, rfl⟩) | (go_at_call 30; refine (meet_any _ _ _ _ _).mono ?_; rintro e w' ⟨rfl, rfl⟩) | (go_at_call 11; refine (rof_any _ _ _).mono ?_; rintro e w' ⟨rfl, rfl⟩) | (go_at_call 20; refine (rmay_any _ _ _).mono ?_; rintro e w' ⟨rfl, rfl⟩) | (go_at_call 21; refine (rfrom_any _ _ _).mono ?_; rintro e w' ⟨rfl, rfl⟩) | (go_at_call 22; refine (rto_any _ _ _).mono ?_; rintro e w' ⟨rfl, rfl⟩) | (go_at_call 23; refine (rlen_any _ _ _).mono ?_; rintro e w' ⟨rfl, rfl⟩) | (go_at_call 27; refine (rnone_any _).mono ?_; rintro e w' ⟨rfl, rfl⟩) | (go_at_call 29; refine (rhull_any _ _ _ _ _).mono ?_; rintro e w' ⟨rfl, rfl⟩) | (go_at_call 31; refine (rmeet_any _ _ _ _ _).mono ?_; rintro e w' ⟨rfl, rfl⟩) | (go_at_call 12; refine (same_any _ _ _ _ _).mono ?_; rintro e w' ⟨rfl, rfl⟩) | (go_at_call 16; refine (shown_any _).mono ?_; rintro e w' ⟨rfl, rfl⟩) | (go_at_call 17; refine (cut_any _ _ _ _ (by assumption)).mono ?_; rintro e w' ⟨rfl, rfl⟩) | (go_at_call 18; refine (rcut_any _ _ _ _ (by assumption)).mono ?_; rintro e w' ⟨rfl, rfl⟩) | (go_at_call 24; refine (shift_any _ _ _ _ (by omega) (by omega)).mono ?_; rintro e w' ⟨rfl, rfl⟩) | (go_at_call 25; refine (rshift_any _ _ _ _).mono ?_; rintro e w' ⟨rfl, rfl⟩))
    go_ret
    exact ⟨rfl, Grown.refl _⟩
  by_cases h3 : 999999999 < b
  · go_enter Try.func7, Try.ntmps7
    go_wp2_with (first | (go_at_call 10; refine (of_any _ _ _).mono ?_; rintro e w' ⟨rfl, rfl⟩) | (go_at_call 13; refine (may_any _ _ _).mono ?_; rintro e w' ⟨rfl, rfl⟩) | (go_at_call 14; refine (from_any _ _ _).mono ?_; rintro e w' ⟨rfl, rfl⟩) | (go_at_call 15; refine (to_any _ _ _).mono ?_; rintro e w' ⟨rfl, rfl⟩) | (go_at_call 19; refine (len_any _ _ _).mono ?_; rintro e w' ⟨rfl, rfl⟩) | (go_at_call 26; refine (none_any _).mono ?_; rintro e w' ⟨rfl, rfl⟩) | (go_at_call 28; refine (hull_any _ _ _ _ _).mono ?_; rintro e w' ⟨rfl, rfl⟩) | (go_at_call 30; refine (meet_any _ _ _ _ _).mono ?_; rintro e w' ⟨rfl, rfl⟩) | (go_at_call 11; refine (rof_any _ _ _).mono ?_; rintro e w' ⟨rfl, rfl⟩) | (go_at_call 20; refine (rmay_any _ _ _).mono ?_; rintro e w' ⟨rfl, rfl⟩) | (go_at_call 21; refine (rfrom_any _ _ _).mono ?_; rintro e w' ⟨rfl, rfl⟩) | (go_at_call 22; refine (rto_any _ _ _).mono ?_; rintro e w' ⟨rfl, rfl⟩) | (go_at_call 23; refine (rlen_any _ _ _).mono ?_; rintro e w' ⟨rfl, rfl⟩) | (go_at_call 27; refine (rnone_any _).mono ?_; rintro e w' ⟨rfl, rfl⟩) | (go_at_call 29; refine (rhull_any _ _ _ _ _).mono ?_; rintro e w' ⟨rfl, rfl⟩) | (go_at_call 31; refine (rmeet_any _ _ _ _ _).mono ?_; rintro e w' ⟨rfl, rfl⟩) | (go_at_call 12; refine (same_any _ _ _ _ _).mono ?_; rintro e w' ⟨rfl, rfl⟩) | (go_at_call 16; refine (shown_any _).mono ?_; rintro e w' ⟨rfl, rfl⟩) | (go_at_call 17; refine (cut_any _ _ _ _ (by assumption)).mono ?_; rintro e w' ⟨rfl, rfl⟩) | (go_at_call 18; refine (rcut_any _ _ _ _ (by assumption)).mono ?_; rintro e w' ⟨rfl, rfl⟩) | (go_at_call 24; refine (shift_any _ _ _ _ (by omega) (by omega)).mono ?_; rintro e w' ⟨rfl, rfl⟩) | (go_at_call 25; refine (rshift_any _ _ _ _).mono ?_; rintro e w' ⟨rfl, rfl⟩))
    go_ret
    exact ⟨rfl, Grown.refl _⟩
  by_cases h4 : 999999999 < n
  · go_enter Try.func7, Try.ntmps7
    go_wp2_with (first | (go_at_call 10; refine (of_any _ _ _).mono ?_; rintro e w' ⟨rfl, rfl⟩) | (go_at_call 13; refine (may_any _ _ _).mono ?_; rintro e w' ⟨rfl, rfl⟩) | (go_at_call 14; refine (from_any _ _ _).mono ?_; rintro e w' ⟨rfl, rfl⟩) | (go_at_call 15; refine (to_any _ _ _).mono ?_; rintro e w' ⟨rfl, rfl⟩) | (go_at_call 19; refine (len_any _ _ _).mono ?_; rintro e w' ⟨rfl, rfl⟩) | (go_at_call 26; refine (none_any _).mono ?_; rintro e w' ⟨rfl, rfl⟩) | (go_at_call 28; refine (hull_any _ _ _ _ _).mono ?_; rintro e w' ⟨rfl, rfl⟩) | (go_at_call 30; refine (meet_any _ _ _ _ _).mono ?_; rintro e w' ⟨rfl, rfl⟩) | (go_at_call 11; refine (rof_any _ _ _).mono ?_; rintro e w' ⟨rfl, rfl⟩) | (go_at_call 20; refine (rmay_any _ _ _).mono ?_; rintro e w' ⟨rfl, rfl⟩) | (go_at_call 21; refine (rfrom_any _ _ _).mono ?_; rintro e w' ⟨rfl, rfl⟩) | (go_at_call 22; refine (rto_any _ _ _).mono ?_; rintro e w' ⟨rfl, rfl⟩) | (go_at_call 23; refine (rlen_any _ _ _).mono ?_; rintro e w' ⟨rfl, rfl⟩) | (go_at_call 27; refine (rnone_any _).mono ?_; rintro e w' ⟨rfl, rfl⟩) | (go_at_call 29; refine (rhull_any _ _ _ _ _).mono ?_; rintro e w' ⟨rfl, rfl⟩) | (go_at_call 31; refine (rmeet_any _ _ _ _ _).mono ?_; rintro e w' ⟨rfl, rfl⟩) | (go_at_call 12; refine (same_any _ _ _ _ _).mono ?_; rintro e w' ⟨rfl, rfl⟩) | (go_at_call 16; refine (shown_any _).mono ?_; rintro e w' ⟨rfl, rfl⟩) | (go_at_call 17; refine (cut_any _ _ _ _ (by assumption)).mono ?_; rintro e w' ⟨rfl, rfl⟩) | (go_at_call 18; refine (rcut_any _ _ _ _ (by assumption)).mono ?_; rintro e w' ⟨rfl, rfl⟩) | (go_at_call 24; refine (shift_any _ _ _ _ (by omega) (by omega)).mono ?_; rintro e w' ⟨rfl, rfl⟩) | (go_at_call 25; refine (rshift_any _ _ _ _).mono ?_; rintro e w' ⟨rfl, rfl⟩))
    go_ret
    exact ⟨rfl, Grown.refl _⟩
  by_cases h5 : n < -999999999
  · go_enter Try.func7, Try.ntmps7
    go_wp2_with (first | (go_at_call 10; refine (of_any _ _ _).mono ?_; rintro e w' ⟨rfl, rfl⟩) | (go_at_call 13; refine (may_any _ _ _).mono ?_; rintro e w' ⟨rfl, rfl⟩) | (go_at_call 14; refine (from_any _ _ _).mono ?_; rintro e w' ⟨rfl, rfl⟩) | (go_at_call 15; refine (to_any _ _ _).mono ?_; rintro e w' ⟨rfl, rfl⟩) | (go_at_call 19; refine (len_any _ _ _).mono ?_; rintro e w' ⟨rfl, rfl⟩) | (go_at_call 26; refine (none_any _).mono ?_; rintro e w' ⟨rfl, rfl⟩) | (go_at_call 28; refine (hull_any _ _ _ _ _).mono ?_; rintro e w' ⟨rfl, rfl⟩) | (go_at_call 30; refine (meet_any _ _ _ _ _).mono ?_; rintro e w' ⟨rfl, rfl⟩) | (go_at_call 11; refine (rof_any _ _ _).mono ?_; rintro e w' ⟨rfl, rfl⟩) | (go_at_call 20; refine (rmay_any _ _ _).mono ?_; rintro e w' ⟨rfl, rfl⟩) | (go_at_call 21; refine (rfrom_any _ _ _).mono ?_; rintro e w' ⟨rfl, rfl⟩) | (go_at_call 22; refine (rto_any _ _ _).mono ?_; rintro e w' ⟨rfl, rfl⟩) | (go_at_call 23; refine (rlen_any _ _ _).mono ?_; rintro e w' ⟨rfl, rfl⟩) | (go_at_call 27; refine (rnone_any _).mono ?_; rintro e w' ⟨rfl, rfl⟩) | (go_at_call 29; refine (rhull_any _ _ _ _ _).mono ?_; rintro e w' ⟨rfl, rfl⟩) | (go_at_call 31; refine (rmeet_any _ _ _ _ _).mono ?_; rintro e w' ⟨rfl, rfl⟩) | (go_at_call 12; refine (same_any _ _ _ _ _).mono ?_; rintro e w' ⟨rfl, rfl⟩) | (go_at_call 16; refine (shown_any _).mono ?_; rintro e w' ⟨rfl, rfl⟩) | (go_at_call 17; refine (cut_any _ _ _ _ (by assumption)).mono ?_; rintro e w' ⟨rfl, rfl⟩) | (go_at_call 18; refine (rcut_any _ _ _ _ (by assumption)).mono ?_; rintro e w' ⟨rfl, rfl⟩) | (go_at_call 24; refine (shift_any _ _ _ _ (by omega) (by omega)).mono ?_; rintro e w' ⟨rfl, rfl⟩) | (go_at_call 25; refine (rshift_any _ _ _ _).mono ?_; rintro e w' ⟨rfl, rfl⟩))
    go_ret
    exact ⟨rfl, Grown.refl _⟩
  have hi : inB a b = true := inB_of (by omega) (by omega) (by omega)
  obtain ⟨g1, g2, g3, g4, g5⟩ := fi_in hi
  obtain ⟨k1, k2⟩ := k_in hi
  by_cases h6 : 0 ≤ a + n
  · by_cases h7 : b + n ≤ 999999999
    · obtain ⟨s1, s2, s3, s4, s5⟩ := shift_back hi (by omega) (by omega) h6 h7
      clear hi g4 g5
      go_enter Try.func7, Try.ntmps7
      go_wp2_with (first | (go_at_call 10; refine (of_any _ _ _).mono ?_; rintro e w' ⟨rfl, rfl⟩) | (go_at_call 13; refine (may_any _ _ _).mono ?_; rintro e w' ⟨rfl, rfl⟩) | (go_at_call 14; refine (from_any _ _ _).mono ?_; rintro e w' ⟨rfl, rfl⟩) | (go_at_call 15; refine (to_any _ _ _).mono ?_; rintro e w' ⟨rfl, rfl⟩) | (go_at_call 19; refine (len_any _ _ _).mono ?_; rintro e w' ⟨rfl, rfl⟩) | (go_at_call 26; refine (none_any _).mono ?_; rintro e w' ⟨rfl, rfl⟩) | (go_at_call 28; refine (hull_any _ _ _ _ _).mono ?_; rintro e w' ⟨rfl, rfl⟩) | (go_at_call 30; refine (meet_any _ _ _ _ _).mono ?_; rintro e w' ⟨rfl, rfl⟩) | (go_at_call 11; refine (rof_any _ _ _).mono ?_; rintro e w' ⟨rfl, rfl⟩) | (go_at_call 20; refine (rmay_any _ _ _).mono ?_; rintro e w' ⟨rfl, rfl⟩) | (go_at_call 21; refine (rfrom_any _ _ _).mono ?_; rintro e w' ⟨rfl, rfl⟩) | (go_at_call 22; refine (rto_any _ _ _).mono ?_; rintro e w' ⟨rfl, rfl⟩) | (go_at_call 23; refine (rlen_any _ _ _).mono ?_; rintro e w' ⟨rfl, rfl⟩) | (go_at_call 27; refine (rnone_any _).mono ?_; rintro e w' ⟨rfl, rfl⟩) | (go_at_call 29; refine (rhull_any _ _ _ _ _).mono ?_; rintro e w' ⟨rfl, rfl⟩) | (go_at_call 31; refine (rmeet_any _ _ _ _ _).mono ?_; rintro e w' ⟨rfl, rfl⟩) | (go_at_call 12; refine (same_any _ _ _ _ _).mono ?_; rintro e w' ⟨rfl, rfl⟩) | (go_at_call 16; refine (shown_any _).mono ?_; rintro e w' ⟨rfl, rfl⟩) | (go_at_call 17; refine (cut_any _ _ _ _ (by assumption)).mono ?_; rintro e w' ⟨rfl, rfl⟩) | (go_at_call 18; refine (rcut_any _ _ _ _ (by assumption)).mono ?_; rintro e w' ⟨rfl, rfl⟩) | (go_at_call 24; refine (shift_any _ _ _ _ (by omega) (by omega)).mono ?_; rintro e w' ⟨rfl, rfl⟩) | (go_at_call 25; refine (rshift_any _ _ _ _).mono ?_; rintro e w' ⟨rfl, rfl⟩))
      go_ret
      exact ⟨by simp, Grown.refl _⟩
    · have s1 := shift_out hi (n := n) (by omega) (by omega) (Or.inr (by omega))
      clear hi g4 g5
      go_enter Try.func7, Try.ntmps7
      go_wp2_with (first | (go_at_call 10; refine (of_any _ _ _).mono ?_; rintro e w' ⟨rfl, rfl⟩) | (go_at_call 13; refine (may_any _ _ _).mono ?_; rintro e w' ⟨rfl, rfl⟩) | (go_at_call 14; refine (from_any _ _ _).mono ?_; rintro e w' ⟨rfl, rfl⟩) | (go_at_call 15; refine (to_any _ _ _).mono ?_; rintro e w' ⟨rfl, rfl⟩) | (go_at_call 19; refine (len_any _ _ _).mono ?_; rintro e w' ⟨rfl, rfl⟩) | (go_at_call 26; refine (none_any _).mono ?_; rintro e w' ⟨rfl, rfl⟩) | (go_at_call 28; refine (hull_any _ _ _ _ _).mono ?_; rintro e w' ⟨rfl, rfl⟩) | (go_at_call 30; refine (meet_any _ _ _ _ _).mono ?_; rintro e w' ⟨rfl, rfl⟩) | (go_at_call 11; refine (rof_any _ _ _).mono ?_; rintro e w' ⟨rfl, rfl⟩) | (go_at_call 20; refine (rmay_any _ _ _).mono ?_; rintro e w' ⟨rfl, rfl⟩) | (go_at_call 21; refine (rfrom_any _ _ _).mono ?_; rintro e w' ⟨rfl, rfl⟩) | (go_at_call 22; refine (rto_any _ _ _).mono ?_; rintro e w' ⟨rfl, rfl⟩) | (go_at_call 23; refine (rlen_any _ _ _).mono ?_; rintro e w' ⟨rfl, rfl⟩) | (go_at_call 27; refine (rnone_any _).mono ?_; rintro e w' ⟨rfl, rfl⟩) | (go_at_call 29; refine (rhull_any _ _ _ _ _).mono ?_; rintro e w' ⟨rfl, rfl⟩) | (go_at_call 31; refine (rmeet_any _ _ _ _ _).mono ?_; rintro e w' ⟨rfl, rfl⟩) | (go_at_call 12; refine (same_any _ _ _ _ _).mono ?_; rintro e w' ⟨rfl, rfl⟩) | (go_at_call 16; refine (shown_any _).mono ?_; rintro e w' ⟨rfl, rfl⟩) | (go_at_call 17; refine (cut_any _ _ _ _ (by assumption)).mono ?_; rintro e w' ⟨rfl, rfl⟩) | (go_at_call 18; refine (rcut_any _ _ _ _ (by assumption)).mono ?_; rintro e w' ⟨rfl, rfl⟩) | (go_at_call 24; refine (shift_any _ _ _ _ (by omega) (by omega)).mono ?_; rintro e w' ⟨rfl, rfl⟩) | (go_at_call 25; refine (rshift_any _ _ _ _).mono ?_; rintro e w' ⟨rfl, rfl⟩))
      go_ret
      exact ⟨by simp, Grown.refl _⟩
  · have s1 := shift_out hi (n := n) (by omega) (by omega) (Or.inl (by omega))
    clear hi g4 g5
    go_enter Try.func7, Try.ntmps7
    go_wp2_with (first | (go_at_call 10; refine (of_any _ _ _).mono ?_; rintro e w' ⟨rfl, rfl⟩) | (go_at_call 13; refine (may_any _ _ _).mono ?_; rintro e w' ⟨rfl, rfl⟩) | (go_at_call 14; refine (from_any _ _ _).mono ?_; rintro e w' ⟨rfl, rfl⟩) | (go_at_call 15; refine (to_any _ _ _).mono ?_; rintro e w' ⟨rfl, rfl⟩) | (go_at_call 19; refine (len_any _ _ _).mono ?_; rintro e w' ⟨rfl, rfl⟩) | (go_at_call 26; refine (none_any _).mono ?_; rintro e w' ⟨rfl, rfl⟩) | (go_at_call 28; refine (hull_any _ _ _ _ _).mono ?_; rintro e w' ⟨rfl, rfl⟩) | (go_at_call 30; refine (meet_any _ _ _ _ _).mono ?_; rintro e w' ⟨rfl, rfl⟩) | (go_at_call 11; refine (rof_any _ _ _).mono ?_; rintro e w' ⟨rfl, rfl⟩) | (go_at_call 20; refine (rmay_any _ _ _).mono ?_; rintro e w' ⟨rfl, rfl⟩) | (go_at_call 21; refine (rfrom_any _ _ _).mono ?_; rintro e w' ⟨rfl, rfl⟩) | (go_at_call 22; refine (rto_any _ _ _).mono ?_; rintro e w' ⟨rfl, rfl⟩) | (go_at_call 23; refine (rlen_any _ _ _).mono ?_; rintro e w' ⟨rfl, rfl⟩) | (go_at_call 27; refine (rnone_any _).mono ?_; rintro e w' ⟨rfl, rfl⟩) | (go_at_call 29; refine (rhull_any _ _ _ _ _).mono ?_; rintro e w' ⟨rfl, rfl⟩) | (go_at_call 31; refine (rmeet_any _ _ _ _ _).mono ?_; rintro e w' ⟨rfl, rfl⟩) | (go_at_call 12; refine (same_any _ _ _ _ _).mono ?_; rintro e w' ⟨rfl, rfl⟩) | (go_at_call 16; refine (shown_any _).mono ?_; rintro e w' ⟨rfl, rfl⟩) | (go_at_call 17; refine (cut_any _ _ _ _ (by assumption)).mono ?_; rintro e w' ⟨rfl, rfl⟩) | (go_at_call 18; refine (rcut_any _ _ _ _ (by assumption)).mono ?_; rintro e w' ⟨rfl, rfl⟩) | (go_at_call 24; refine (shift_any _ _ _ _ (by omega) (by omega)).mono ?_; rintro e w' ⟨rfl, rfl⟩) | (go_at_call 25; refine (rshift_any _ _ _ _).mono ?_; rintro e w' ⟨rfl, rfl⟩))
    go_ret
    exact ⟨by simp, Grown.refl _⟩

/-! ### Parts -/
theorem extract_parts (t : ByteArray) (m k : Nat) (h : m ≤ k) (h' : k ≤ t.size) : t.extract 0 m ++ t.extract m k ++ t.extract k t.size = t := by
  ext1
  simp only [ByteArray.data_append, ByteArray.data_extract]
  rw [Array.extract_append_extract, show min 0 m = 0 from by omega, show max m k = k from by omega]
  rw [Array.extract_append_extract, show min 0 k = 0 from by omega, show max k t.size = t.data.size from by rw [ByteArray.size_data]; omega]
  simp
theorem cut_fi (t : ByteArray) {a b : Int} (h : inB a b = true) (hb : b ≤ t.size) : cutL t (fi a) (fi b) = t.extract a.toNat b.toNat := by
  obtain ⟨k1, k2, k3, k4, k5⟩ := fi_in h
  obtain ⟨i0, i1, i2⟩ := inB_spec h
  unfold cutL
  rw [if_pos k1, k4, k5]
  rw [show (min a (min b ↑t.size)).toNat = a.toNat from by omega, show (min b ↑t.size).toNat = b.toNat from by omega]
theorem wf_u16 {n : Int} (h : (Lit.int .u16 n).wf = true) : 0 ≤ n ∧ n ≤ 65535 := by
  simpa [Lit.wf, IntKind.min, IntKind.max, IntKind.signed, IntKind.bits] using h
theorem wf_u8 {n : Int} (h : (Lit.int .u8 n).wf = true) : 0 ≤ n ∧ n ≤ 255 := by
  simpa [Lit.wf, IntKind.min, IntKind.max, IntKind.signed, IntKind.bits] using h

set_option maxHeartbeats 1000000 in
theorem spanParts_walk (t : ByteArray) (i j : Int) (wt : t.size ≤ maxLen) (wi : (Lit.int .u16 i).wf = true) (wj : (Lit.int .u16 j).wf = true) (w : World) :
    Calls Try.prog 5 #[.string t, .int .u16 i, .int .u16 j] w fun e w' => e = .returned (.bool true) ∧ Grown w w' := by
  obtain ⟨i1, i2⟩ := wf_u16 wi
  obtain ⟨j1, j2⟩ := wf_u16 wj
  clear wi wj
  by_cases h : (300 : Int) < t.size
  · go_enter Try.func5, Try.ntmps5
    go_wp2_with (first | (go_at_call 10; refine (of_any _ _ _).mono ?_; rintro e w' ⟨rfl, rfl⟩) | (go_at_call 13; refine (may_any _ _ _).mono ?_; rintro e w' ⟨rfl, rfl⟩) | (go_at_call 14; refine (from_any _ _ _).mono ?_; rintro e w' ⟨rfl, rfl⟩) | (go_at_call 15; refine (to_any _ _ _).mono ?_; rintro e w' ⟨rfl, rfl⟩) | (go_at_call 19; refine (len_any _ _ _).mono ?_; rintro e w' ⟨rfl, rfl⟩) | (go_at_call 26; refine (none_any _).mono ?_; rintro e w' ⟨rfl, rfl⟩) | (go_at_call 28; refine (hull_any _ _ _ _ _).mono ?_; rintro e w' ⟨rfl, rfl⟩) | (go_at_call 30; refine (meet_any _ _ _ _ _).mono ?_; rintro e w' ⟨rfl, rfl⟩) | (go_at_call 11; refine (rof_any _ _ _).mono ?_; rintro e w' ⟨rfl, rfl⟩) | (go_at_call 20; refine (rmay_any _ _ _).mono ?_; rintro e w' ⟨rfl, rfl⟩) | (go_at_call 21; refine (rfrom_any _ _ _).mono ?_; rintro e w' ⟨rfl, rfl⟩) | (go_at_call 22; refine (rto_any _ _ _).mono ?_; rintro e w' ⟨rfl, rfl⟩) | (go_at_call 23; refine (rlen_any _ _ _).mono ?_; rintro e w' ⟨rfl, rfl⟩) | (go_at_call 27; refine (rnone_any _).mono ?_; rintro e w' ⟨rfl, rfl⟩) | (go_at_call 29; refine (rhull_any _ _ _ _ _).mono ?_; rintro e w' ⟨rfl, rfl⟩) | (go_at_call 31; refine (rmeet_any _ _ _ _ _).mono ?_; rintro e w' ⟨rfl, rfl⟩) | (go_at_call 12; refine (same_any _ _ _ _ _).mono ?_; rintro e w' ⟨rfl, rfl⟩) | (go_at_call 16; refine (shown_any _).mono ?_; rintro e w' ⟨rfl, rfl⟩) | (go_at_call 17; refine (cut_any _ _ _ _ (by assumption)).mono ?_; rintro e w' ⟨rfl, rfl⟩) | (go_at_call 18; refine (rcut_any _ _ _ _ (by assumption)).mono ?_; rintro e w' ⟨rfl, rfl⟩) | (go_at_call 24; refine (shift_any _ _ _ _ (by omega) (by omega)).mono ?_; rintro e w' ⟨rfl, rfl⟩) | (go_at_call 25; refine (rshift_any _ _ _ _).mono ?_; rintro e w' ⟨rfl, rfl⟩))
    go_ret
    exact ⟨rfl, Grown.refl _⟩
  · have m1 := min_if
    have m2 := max_if
    obtain ⟨p, hp⟩ : ∃ p : Int, i % ((t.size : Int) + 1) = p := ⟨_, rfl⟩
    obtain ⟨q, hq⟩ : ∃ q : Int, j % ((t.size : Int) + 1) = q := ⟨_, rfl⟩
    have p0 : 0 ≤ p := by rw [← hp]; exact Int.emod_nonneg _ (by omega)
    have p1 : p < (t.size : Int) + 1 := by rw [← hp]; exact Int.emod_lt_of_pos _ (by omega)
    have q0 : 0 ≤ q := by rw [← hq]; exact Int.emod_nonneg _ (by omega)
    have q1 : q < (t.size : Int) + 1 := by rw [← hq]; exact Int.emod_lt_of_pos _ (by omega)
    obtain ⟨m, hm⟩ : ∃ m : Int, min p q = m := ⟨_, rfl⟩
    obtain ⟨k, hk⟩ : ∃ k : Int, max p q = k := ⟨_, rfl⟩
    have c1 := inB_of (a := 0) (b := m) (by omega) (by omega) (by omega)
    have c2 := inB_of (a := m) (b := k) (by omega) (by omega) (by omega)
    have c3 := inB_of (a := k) (b := (t.size : Int)) (by omega) (by omega) (by omega)
    have m0 : 0 ≤ m := by omega
    have mk : m ≤ k := by omega
    have kn : k ≤ t.size := by omega
    obtain ⟨a1, a2, a3, _, _⟩ := fi_in c1
    obtain ⟨b1, b2, b3, _, _⟩ := fi_in c2
    obtain ⟨d1, d2, d3, _, _⟩ := fi_in c3
    obtain ⟨e1, e2⟩ := k_in c1
    obtain ⟨e3, e4⟩ := k_in c2
    obtain ⟨e5, e6⟩ := k_in c3
    have f1 := cut_fi t c1 (by omega)
    have f2 := cut_fi t c2 (by omega)
    have f3 := cut_fi t c3 (by omega)
    have hcat := extract_parts t m.toNat k.toNat (by omega) (by omega)
    rw [Int.toNat_zero] at f1
    rw [Int.toNat_natCast] at f3
    have z1 : (t.extract 0 m.toNat).size ≤ 300 := by simp; omega
    have z2 : (t.extract m.toNat k.toNat).size ≤ 300 := by simp; omega
    have z3 : (t.extract k.toNat t.size).size ≤ 300 := by simp; omega
    generalize t.extract 0 m.toNat = x at *
    generalize t.extract m.toNat k.toNat = y at *
    generalize t.extract k.toNat t.size = z at *
    have cc1 := fun w => run_string_add_sum (P := Try.prog) w x y (by omega)
    have cc2 := fun w => run_string_add_sum (P := Try.prog) w (x ++ y) z (by simp; omega)
    clear c1 c2 c3 z1 z2 z3
    go_enter Try.func5, Try.ntmps5
    go_wp2_with (first | (go_at_call 10; refine (of_any _ _ _).mono ?_; rintro e w' ⟨rfl, rfl⟩) | (go_at_call 13; refine (may_any _ _ _).mono ?_; rintro e w' ⟨rfl, rfl⟩) | (go_at_call 14; refine (from_any _ _ _).mono ?_; rintro e w' ⟨rfl, rfl⟩) | (go_at_call 15; refine (to_any _ _ _).mono ?_; rintro e w' ⟨rfl, rfl⟩) | (go_at_call 19; refine (len_any _ _ _).mono ?_; rintro e w' ⟨rfl, rfl⟩) | (go_at_call 26; refine (none_any _).mono ?_; rintro e w' ⟨rfl, rfl⟩) | (go_at_call 28; refine (hull_any _ _ _ _ _).mono ?_; rintro e w' ⟨rfl, rfl⟩) | (go_at_call 30; refine (meet_any _ _ _ _ _).mono ?_; rintro e w' ⟨rfl, rfl⟩) | (go_at_call 11; refine (rof_any _ _ _).mono ?_; rintro e w' ⟨rfl, rfl⟩) | (go_at_call 20; refine (rmay_any _ _ _).mono ?_; rintro e w' ⟨rfl, rfl⟩) | (go_at_call 21; refine (rfrom_any _ _ _).mono ?_; rintro e w' ⟨rfl, rfl⟩) | (go_at_call 22; refine (rto_any _ _ _).mono ?_; rintro e w' ⟨rfl, rfl⟩) | (go_at_call 23; refine (rlen_any _ _ _).mono ?_; rintro e w' ⟨rfl, rfl⟩) | (go_at_call 27; refine (rnone_any _).mono ?_; rintro e w' ⟨rfl, rfl⟩) | (go_at_call 29; refine (rhull_any _ _ _ _ _).mono ?_; rintro e w' ⟨rfl, rfl⟩) | (go_at_call 31; refine (rmeet_any _ _ _ _ _).mono ?_; rintro e w' ⟨rfl, rfl⟩) | (go_at_call 12; refine (same_any _ _ _ _ _).mono ?_; rintro e w' ⟨rfl, rfl⟩) | (go_at_call 16; refine (shown_any _).mono ?_; rintro e w' ⟨rfl, rfl⟩) | (go_at_call 17; refine (cut_any _ _ _ _ (by assumption)).mono ?_; rintro e w' ⟨rfl, rfl⟩) | (go_at_call 18; refine (rcut_any _ _ _ _ (by assumption)).mono ?_; rintro e w' ⟨rfl, rfl⟩) | (go_at_call 24; refine (shift_any _ _ _ _ (by omega) (by omega)).mono ?_; rintro e w' ⟨rfl, rfl⟩) | (go_at_call 25; refine (rshift_any _ _ _ _).mono ?_; rintro e w' ⟨rfl, rfl⟩))
    go_ret
    exact ⟨by simp; omega, Grown.refl _⟩

end Go.Proofs.Ytppllblnbmipbaa.Sp
