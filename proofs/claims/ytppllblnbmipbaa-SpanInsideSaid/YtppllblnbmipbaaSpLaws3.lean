/- The walk of the law SpanInside. -/
import Derived.Test.YtppllblnbmipbaaSpLaws2
namespace Go.Proofs.Ytppllblnbmipbaa.Sp
open Go.RowKit Fl
set_option linter.unusedVariables false
set_option linter.unusedSimpArgs false

theorem hull_in {p q r s : Int} (h : inB p q = true) (h' : inB r s = true) :
    may (hA (fi p) (fi q) (fi r) (fi s)) (hB (fi p) (fi q) (fi r) (fi s)) = true ∧ tr (hA (fi p) (fi q) (fi r) (fi s)) = min p r ∧ tr (hB (fi p) (fi q) (fi r) (fi s)) = max q s := by
  obtain ⟨k1, k2, k3, k4, k5⟩ := fi_in h
  obtain ⟨l1, l2, l3, l4, l5⟩ := fi_in h'
  obtain ⟨a1, a2, _⟩ := may_spec k1
  obtain ⟨b1, b2, _⟩ := may_spec l1
  obtain ⟨m1, m2⟩ := minF_wh a1 b1
  obtain ⟨m3, m4⟩ := maxF_wh a2 b2
  obtain ⟨i0, i1, i2⟩ := inB_spec h
  obtain ⟨j0, j1, j2⟩ := inB_spec h'
  unfold hA hB
  rw [k1, l1]
  simp only [if_true]
  exact ⟨may_of m1 m3 (by rw [m2, m4, k4, k5, l4, l5]; omega), by rw [m2, k4, l4], by rw [m4, k5, l5]⟩
/-- A hull with one that is within it is it. -/
theorem hull_again {u v c d : Nat} (h : may u v = true) (h' : may c d = true) (h1 : tr u ≤ tr c) (h2 : tr d ≤ tr v) :
    eqB (hA u v c d) u = true ∧ eqB (hB u v c d) v = true := by
  obtain ⟨a1, a2, _⟩ := may_spec h
  obtain ⟨b1, b2, _⟩ := may_spec h'
  obtain ⟨m1, m2⟩ := minF_wh a1 b1
  obtain ⟨m3, m4⟩ := maxF_wh a2 b2
  unfold hA hB
  rw [h, h']
  simp only [if_true]
  exact ⟨wh_eq m1 a1 (by rw [m2]; omega), wh_eq m3 a2 (by rw [m4]; omega)⟩
theorem cut_len (t : ByteArray) {a b : Nat} (h : may a b = true) : (cutL t a b).size = (min (tr b) t.size).toNat - (min (tr a) (min (tr b) t.size)).toNat := by
  unfold cutL; rw [if_pos h]; simp; omega
theorem ifmm (x y : Int) : (if y < x then x else y) = max x y := by split <;> omega

set_option maxHeartbeats 1000000 in
theorem spanInside_walk (t : ByteArray) (a b c d : Int) (wt : t.size ≤ maxLen) (wa : (Lit.int .u8 a).wf = true) (wb : (Lit.int .u8 b).wf = true) (wc : (Lit.int .u8 c).wf = true) (wd : (Lit.int .u8 d).wf = true) (w : World) :
    Calls Try.prog 9 #[.string t, .int .u8 a, .int .u8 b, .int .u8 c, .int .u8 d] w fun e w' => e = .returned (.bool true) ∧ Grown w w' := by
  obtain ⟨a0, a1⟩ := wf_u8 wa
  obtain ⟨b0, b1⟩ := wf_u8 wb
  obtain ⟨c0, c1⟩ := wf_u8 wc
  obtain ⟨d0, d1⟩ := wf_u8 wd
  clear wa wb wc wd
  have m1 := min_if
  have m2 := max_if
  obtain ⟨p, hp⟩ : ∃ p : Int, min a b = p := ⟨_, rfl⟩
  obtain ⟨q, hq⟩ : ∃ q : Int, max a b = q := ⟨_, rfl⟩
  obtain ⟨r, hr⟩ : ∃ r : Int, min c d = r := ⟨_, rfl⟩
  obtain ⟨s, hs⟩ : ∃ s : Int, max c d = s := ⟨_, rfl⟩
  have ix := inB_of (a := p) (b := q) (by omega) (by omega) (by omega)
  have iy := inB_of (a := r) (b := s) (by omega) (by omega) (by omega)
  obtain ⟨x1, x2, x3, x4, x5⟩ := fi_in ix
  obtain ⟨y1, y2, y3, y4, y5⟩ := fi_in iy
  obtain ⟨kx1, kx2⟩ := k_in ix
  obtain ⟨ky1, ky2⟩ := k_in iy
  by_cases h : (300 : Int) < t.size
  · clear ix iy
    go_enter Try.func9, Try.ntmps9
    go_wp2_with (first | (go_at_call 10; refine (of_any _ _ _).mono ?_; rintro e w' ⟨rfl, rfl⟩) | (go_at_call 13; refine (may_any _ _ _).mono ?_; rintro e w' ⟨rfl, rfl⟩) | (go_at_call 14; refine (from_any _ _ _).mono ?_; rintro e w' ⟨rfl, rfl⟩) | (go_at_call 15; refine (to_any _ _ _).mono ?_; rintro e w' ⟨rfl, rfl⟩) | (go_at_call 19; refine (len_any _ _ _).mono ?_; rintro e w' ⟨rfl, rfl⟩) | (go_at_call 26; refine (none_any _).mono ?_; rintro e w' ⟨rfl, rfl⟩) | (go_at_call 28; refine (hull_any _ _ _ _ _).mono ?_; rintro e w' ⟨rfl, rfl⟩) | (go_at_call 30; refine (meet_any _ _ _ _ _).mono ?_; rintro e w' ⟨rfl, rfl⟩) | (go_at_call 11; refine (rof_any _ _ _).mono ?_; rintro e w' ⟨rfl, rfl⟩) | (go_at_call 20; refine (rmay_any _ _ _).mono ?_; rintro e w' ⟨rfl, rfl⟩) | (go_at_call 21; refine (rfrom_any _ _ _).mono ?_; rintro e w' ⟨rfl, rfl⟩) | (go_at_call 22; refine (rto_any _ _ _).mono ?_; rintro e w' ⟨rfl, rfl⟩) | (go_at_call 23; refine (rlen_any _ _ _).mono ?_; rintro e w' ⟨rfl, rfl⟩) | (go_at_call 27; refine (rnone_any _).mono ?_; rintro e w' ⟨rfl, rfl⟩) | (go_at_call 29; refine (rhull_any _ _ _ _ _).mono ?_; rintro e w' ⟨rfl, rfl⟩) | (go_at_call 31; refine (rmeet_any _ _ _ _ _).mono ?_; rintro e w' ⟨rfl, rfl⟩) | (go_at_call 12; refine (same_any _ _ _ _ _).mono ?_; rintro e w' ⟨rfl, rfl⟩) | (go_at_call 16; refine (shown_any _).mono ?_; rintro e w' ⟨rfl, rfl⟩) | (go_at_call 17; refine (cut_any _ _ _ _ (by assumption)).mono ?_; rintro e w' ⟨rfl, rfl⟩) | (go_at_call 18; refine (rcut_any _ _ _ _ (by assumption)).mono ?_; rintro e w' ⟨rfl, rfl⟩) | (go_at_call 24; refine (shift_any _ _ _ _ (by omega) (by omega)).mono ?_; rintro e w' ⟨rfl, rfl⟩) | (go_at_call 25; refine (rshift_any _ _ _ _).mono ?_; rintro e w' ⟨rfl, rfl⟩))
    go_ret
    exact ⟨rfl, Grown.refl _⟩
  · obtain ⟨g1, g2, g3⟩ := hull_in ix iy
    obtain ⟨g4, g5⟩ := hull_again g1 x1 (by rw [g2, x4]; omega) (by rw [g3, x5]; omega)
    have g67 : eqB (hA (fi r) (fi s) (fi p) (fi q)) (hA (fi p) (fi q) (fi r) (fi s)) = true ∧ eqB (hB (fi r) (fi s) (fi p) (fi q)) (hB (fi p) (fi q) (fi r) (fi s)) = true := by
      obtain ⟨e1, e2, e3⟩ := hull_in iy ix
      obtain ⟨e4, e5, _⟩ := may_spec e1
      obtain ⟨e6, e7, _⟩ := may_spec g1
      exact ⟨wh_eq e4 e6 (by rw [e2, g2]; omega), wh_eq e5 e7 (by rw [e3, g3]; omega)⟩
    obtain ⟨g6, g7⟩ := g67
    have g8 : fromV (hA (fi p) (fi q) (fi r) (fi s)) (hB (fi p) (fi q) (fi r) (fi s)) = min p r := by unfold fromV; rw [if_pos g1, g2]
    have g9 : toV (hA (fi p) (fi q) (fi r) (fi s)) (hB (fi p) (fi q) (fi r) (fi s)) = max q s := by unfold toV; rw [if_pos g1, g3]
    have l1 := cut_len t g1
    have l2 := cut_len t x1
    have l3 := cut_len t y1
    rw [g2, g3] at l1
    rw [x4, x5] at l2
    rw [y4, y5] at l3
    have l4 : (cutL t (fi p) (fi q)).size ≤ (cutL t (hA (fi p) (fi q) (fi r) (fi s)) (hB (fi p) (fi q) (fi r) (fi s))).size := by omega
    have l5 : (cutL t (fi r) (fi s)).size ≤ (cutL t (hA (fi p) (fi q) (fi r) (fi s)) (hB (fi p) (fi q) (fi r) (fi s))).size := by omega
    have mm : meetB (fi p) (fi q) (fi r) (fi s) = decide (max p r < min q s) := by
      rw [(hull_same (fi p) (fi q) (fi r) (fi s)).2.2]
      unfold rmeetB
      rw [x1, y1, x2, x3, y2, y3]; simp
    clear l1 l2 l3 g2 g3 x4 x5 y4 y5
    generalize hu : hA (fi p) (fi q) (fi r) (fi s) = u at *
    generalize hv : hB (fi p) (fi q) (fi r) (fi s) = v at *
    have n0 : min p r ≤ p ∧ s ≤ max q s ∧ 0 ≤ min p r ∧ max q s ≤ 255 := by omega
    have hmeet : ¬ (q - p + (s - r) ≤ max q s - min p r) → meetB (fi p) (fi q) (fi r) (fi s) = true := by
      intro h; rw [mm]; simp only [decide_eq_true_eq]; omega
    clear mm
    generalize min p r = x at *
    generalize max q s = y at *
    obtain ⟨n01, n02, n03, n04⟩ := n0
    have n1 : p ≤ q := by omega
    have n2 : r ≤ s := by omega
    have n3 : 0 ≤ p := by omega
    have n4 : 0 ≤ r := by omega
    have n5 : q ≤ 255 := by omega
    have n6 : s ≤ 255 := by omega
    have m3 := ifmm
    clear ix iy
    by_cases hc : q - p + (s - r) ≤ y - x
    · clear hmeet
      go_enter Try.func9, Try.ntmps9
      go_wp2_with (first | (go_at_call 10; refine (of_any _ _ _).mono ?_; rintro e w' ⟨rfl, rfl⟩) | (go_at_call 13; refine (may_any _ _ _).mono ?_; rintro e w' ⟨rfl, rfl⟩) | (go_at_call 14; refine (from_any _ _ _).mono ?_; rintro e w' ⟨rfl, rfl⟩) | (go_at_call 15; refine (to_any _ _ _).mono ?_; rintro e w' ⟨rfl, rfl⟩) | (go_at_call 19; refine (len_any _ _ _).mono ?_; rintro e w' ⟨rfl, rfl⟩) | (go_at_call 26; refine (none_any _).mono ?_; rintro e w' ⟨rfl, rfl⟩) | (go_at_call 28; refine (hull_any _ _ _ _ _).mono ?_; rintro e w' ⟨rfl, rfl⟩) | (go_at_call 30; refine (meet_any _ _ _ _ _).mono ?_; rintro e w' ⟨rfl, rfl⟩) | (go_at_call 11; refine (rof_any _ _ _).mono ?_; rintro e w' ⟨rfl, rfl⟩) | (go_at_call 20; refine (rmay_any _ _ _).mono ?_; rintro e w' ⟨rfl, rfl⟩) | (go_at_call 21; refine (rfrom_any _ _ _).mono ?_; rintro e w' ⟨rfl, rfl⟩) | (go_at_call 22; refine (rto_any _ _ _).mono ?_; rintro e w' ⟨rfl, rfl⟩) | (go_at_call 23; refine (rlen_any _ _ _).mono ?_; rintro e w' ⟨rfl, rfl⟩) | (go_at_call 27; refine (rnone_any _).mono ?_; rintro e w' ⟨rfl, rfl⟩) | (go_at_call 29; refine (rhull_any _ _ _ _ _).mono ?_; rintro e w' ⟨rfl, rfl⟩) | (go_at_call 31; refine (rmeet_any _ _ _ _ _).mono ?_; rintro e w' ⟨rfl, rfl⟩) | (go_at_call 12; refine (same_any _ _ _ _ _).mono ?_; rintro e w' ⟨rfl, rfl⟩) | (go_at_call 16; refine (shown_any _).mono ?_; rintro e w' ⟨rfl, rfl⟩) | (go_at_call 17; refine (cut_any _ _ _ _ (by assumption)).mono ?_; rintro e w' ⟨rfl, rfl⟩) | (go_at_call 18; refine (rcut_any _ _ _ _ (by assumption)).mono ?_; rintro e w' ⟨rfl, rfl⟩) | (go_at_call 24; refine (shift_any _ _ _ _ (by omega) (by omega)).mono ?_; rintro e w' ⟨rfl, rfl⟩) | (go_at_call 25; refine (rshift_any _ _ _ _).mono ?_; rintro e w' ⟨rfl, rfl⟩))
      all_goals go_ret
      all_goals exact ⟨by simp, Grown.refl _⟩
    · have mm' : meetB (fi p) (fi q) (fi r) (fi s) = true := hmeet hc
      clear hmeet
      go_enter Try.func9, Try.ntmps9
      go_wp2_with (first | (go_at_call 10; refine (of_any _ _ _).mono ?_; rintro e w' ⟨rfl, rfl⟩) | (go_at_call 13; refine (may_any _ _ _).mono ?_; rintro e w' ⟨rfl, rfl⟩) | (go_at_call 14; refine (from_any _ _ _).mono ?_; rintro e w' ⟨rfl, rfl⟩) | (go_at_call 15; refine (to_any _ _ _).mono ?_; rintro e w' ⟨rfl, rfl⟩) | (go_at_call 19; refine (len_any _ _ _).mono ?_; rintro e w' ⟨rfl, rfl⟩) | (go_at_call 26; refine (none_any _).mono ?_; rintro e w' ⟨rfl, rfl⟩) | (go_at_call 28; refine (hull_any _ _ _ _ _).mono ?_; rintro e w' ⟨rfl, rfl⟩) | (go_at_call 30; refine (meet_any _ _ _ _ _).mono ?_; rintro e w' ⟨rfl, rfl⟩) | (go_at_call 11; refine (rof_any _ _ _).mono ?_; rintro e w' ⟨rfl, rfl⟩) | (go_at_call 20; refine (rmay_any _ _ _).mono ?_; rintro e w' ⟨rfl, rfl⟩) | (go_at_call 21; refine (rfrom_any _ _ _).mono ?_; rintro e w' ⟨rfl, rfl⟩) | (go_at_call 22; refine (rto_any _ _ _).mono ?_; rintro e w' ⟨rfl, rfl⟩) | (go_at_call 23; refine (rlen_any _ _ _).mono ?_; rintro e w' ⟨rfl, rfl⟩) | (go_at_call 27; refine (rnone_any _).mono ?_; rintro e w' ⟨rfl, rfl⟩) | (go_at_call 29; refine (rhull_any _ _ _ _ _).mono ?_; rintro e w' ⟨rfl, rfl⟩) | (go_at_call 31; refine (rmeet_any _ _ _ _ _).mono ?_; rintro e w' ⟨rfl, rfl⟩) | (go_at_call 12; refine (same_any _ _ _ _ _).mono ?_; rintro e w' ⟨rfl, rfl⟩) | (go_at_call 16; refine (shown_any _).mono ?_; rintro e w' ⟨rfl, rfl⟩) | (go_at_call 17; refine (cut_any _ _ _ _ (by assumption)).mono ?_; rintro e w' ⟨rfl, rfl⟩) | (go_at_call 18; refine (rcut_any _ _ _ _ (by assumption)).mono ?_; rintro e w' ⟨rfl, rfl⟩) | (go_at_call 24; refine (shift_any _ _ _ _ (by omega) (by omega)).mono ?_; rintro e w' ⟨rfl, rfl⟩) | (go_at_call 25; refine (rshift_any _ _ _ _).mono ?_; rintro e w' ⟨rfl, rfl⟩))
      all_goals go_ret
      all_goals exact ⟨by simp, Grown.refl _⟩
end Go.Proofs.Ytppllblnbmipbaa.Sp
