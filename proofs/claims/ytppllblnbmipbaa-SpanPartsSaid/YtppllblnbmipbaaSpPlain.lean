/- Whole numbers as words, and spans of them: plain facts. -/
import Derived.Test.YtppllblnbmipbaaSpWalks4
namespace Go.Proofs.Ytppllblnbmipbaa.Sp
open Go.RowKit Fl

abbrev fi (n : Int) : Nat := floatOfInt .f64 n
theorem may_fi (a b : Int) (ha : -9223372036854775808 ≤ a) (ha' : a ≤ 9223372036854775807) (hb : -9223372036854775808 ≤ b) (hb' : b ≤ 9223372036854775807) : may (fi a) (fi b) = inB a b := by
  obtain ⟨a1, a2⟩ := wh_ofInt a ha ha'
  obtain ⟨b1, b2⟩ := wh_ofInt b hb hb'
  rw [Bool.eq_iff_iff]
  constructor
  · intro h
    obtain ⟨h1, h2, h3⟩ := may_spec h
    rw [a1] at h1; rw [b1] at h2
    simp at h1 h2
    rw [a2 h1.1 h1.2, b2 h2.1 h2.2] at h3
    unfold inB; simp; omega
  · intro h
    unfold inB at h; simp at h
    have e1 := a2 (by omega) (by omega)
    have e2 := b2 (by omega) (by omega)
    exact may_of (by rw [a1]; simp; omega) (by rw [b1]; simp; omega) (by rw [e1, e2]; omega)
theorem inB_spec {a b : Int} (h : inB a b = true) : 0 ≤ a ∧ a ≤ b ∧ b ≤ 999999999 := by
  unfold inB at h; simp at h; omega
theorem inB_of {a b : Int} (h0 : 0 ≤ a) (h1 : a ≤ b) (h2 : b ≤ 999999999) : inB a b = true := by
  unfold inB; simp; omega
theorem fi_in {a b : Int} (h : inB a b = true) : may (fi a) (fi b) = true ∧ fromV (fi a) (fi b) = a ∧ toV (fi a) (fi b) = b ∧ tr (fi a) = a ∧ tr (fi b) = b := by
  obtain ⟨h0, h1, h2⟩ := inB_spec h
  have e := may_fi a b (by omega) (by omega) (by omega) (by omega)
  rw [h] at e
  have e1 := (wh_ofInt a (by omega) (by omega)).2 h0 (by omega)
  have e2 := (wh_ofInt b (by omega) (by omega)).2 (by omega) h2
  exact ⟨e, by unfold fromV; rw [e]; exact e1, by unfold toV; rw [e]; exact e2, e1, e2⟩
theorem eqB_refl {x : Nat} {v : Int} (h : V x = some v) : eqB x x = true := eq_V h h
theorem eqB_fi (n : Int) (h : -9223372036854775808 ≤ n) (h' : n ≤ 9223372036854775807) : eqB (fi n) (fi n) = true := by
  obtain ⟨r, h1, _⟩ := ofInt_V n h h'
  exact eqB_refl h1
theorem eqB_none : eqB noneB noneB = true := eqB_refl V_none
theorem wh_eq {x y : Nat} (hx : wh x = true) (hy : wh y = true) (h : tr x = tr y) : eqB x y = true := by
  have h1 := (wh_spec hx).1
  have h2 := (wh_spec hy).1
  rw [h] at h1
  exact eq_V h1 h2
theorem wh_refl {x : Nat} (hx : wh x = true) : eqB x x = true := wh_eq hx hx rfl

/-! ### What is shown, and what is the same -/
set_option maxHeartbeats 400000 in
theorem same_any (a b c d : Nat) (w : World) :
    Calls Try.prog 12 #[cx a b, cx c d] w fun e w' => e = .returned (.bool (eqB a c && eqB b d)) ∧ w = w' := by
  cases h1 : eqB a c
  all_goals
    go_enter Try.func12, Try.ntmps12
    go_wp2
    go_ret
    exact ⟨by simp, rfl⟩

theorem cut_hello : cutL ⟨#[104, 101, 108, 108, 111]⟩ (fi 1) (fi 3) = ⟨#[101, 108]⟩ := by
  obtain ⟨h1, _, _, h4, h5⟩ := fi_in (a := 1) (b := 3) (by decide)
  unfold cutL
  rw [if_pos h1, h4, h5]
  decide

set_option maxHeartbeats 400000 in
theorem shown_any (w : World) :
    Calls Try.prog 16 #[] w fun e w' => e = .returned (.bool true) ∧ w = w' := by
  obtain ⟨h1, h2, h3, _, _⟩ := fi_in (a := 1) (b := 3) (by decide)
  have k1 : kA (fi 1) (fi 3) = fi 1 := by unfold kA; rw [h1]; rfl
  have k2 : kB (fi 1) (fi 3) = fi 3 := by unfold kB; rw [h1]; rfl
  have k3 := cut_hello
  have k4 := may_none
  go_enter Try.func16, Try.ntmps16
  go_wp2_with (first | (go_at_call 10; refine (of_any _ _ _).mono ?_; rintro e w' ⟨rfl, rfl⟩) | (go_at_call 17; refine (cut_any _ _ _ _ (by decide)).mono ?_; rintro e w' ⟨rfl, rfl⟩) | (go_at_call 19; refine (len_any _ _ _).mono ?_; rintro e w' ⟨rfl, rfl⟩) | (go_at_call 14; refine (from_any _ _ _).mono ?_; rintro e w' ⟨rfl, rfl⟩) | (go_at_call 26; refine (none_any _).mono ?_; rintro e w' ⟨rfl, rfl⟩) | (go_at_call 13; refine (may_any _ _ _).mono ?_; rintro e w' ⟨rfl, rfl⟩))
  go_ret
  exact ⟨rfl, rfl⟩
end Go.Proofs.Ytppllblnbmipbaa.Sp
