/- The texts SpWalks4 SpPlain. -/
import Derived.ShutString
import Derived.Lib.Strings
import Derived.Test.YthpiapemjadgdaaGreatDoorCk03
set_option linter.unusedVariables false
set_option linter.unusedSimpArgs false
set_option maxHeartbeats 400000
namespace Go.Proofs.YthpiapemjadgdaaGreatDoor.Sp
open Go.RowKit Fl
/-- What the reference has cut after k rounds. -/
def rcut (t : ByteArray) (a b : Nat) (k : Nat) : ByteArray := if may a b then t.extract (tr a).toNat (min k (tr b).toNat) else ByteArray.empty
theorem rcut_no {t : ByteArray} {a b k : Nat} (h : may a b = false) : rcut t a b k = ByteArray.empty := by
 unfold rcut; rw [h]; rfl
theorem rcut_zero (t : ByteArray) (a b : Nat) : rcut t a b 0 = ByteArray.empty := by
 unfold rcut; split
 · ext1; simp
 · rfl
theorem rcut_in {t : ByteArray} {a b k : Nat} (h : may a b = true) (h1 : tr a ≤ k) (h2 : (k : Int) < tr b) : rcut t a b (k + 1) = rcut t a b k ++ t.extract k (k + 1) := by
 unfold rcut;rw [if_pos h, if_pos h, Nat.min_eq_left (by omega), Nat.min_eq_left (by omega)]
 ext1
 simp;rw [Nat.min_eq_left (by omega)]
theorem rcut_out {t : ByteArray} {a b k : Nat} (h : may a b = true) (h1 : (k : Int) < tr a ∨ tr b ≤ k) : rcut t a b (k + 1) = rcut t a b k := by
 obtain ⟨h4, h5, h6⟩ := may_spec h;unfold rcut;rw [if_pos h, if_pos h];rcases h1 with h1 | h1
 · ext1; simp; rw [Array.extract_eq_empty_of_le (by omega), Array.extract_eq_empty_of_le (by omega)]
 · rw [Nat.min_eq_right (by omega), Nat.min_eq_right (by omega)]
theorem rcut_size (t : ByteArray) (a b k : Nat) : (rcut t a b k).size ≤ k := by
 unfold rcut; split
 · simp; omega
 · simp
theorem rcut_any (t : ByteArray) (a b : Nat) (w : World) (ht : t.size ≤ maxLen) :
  Calls Tryz.prog 149 #[.string t, cx a b] w fun e w' => e = .returned (.string (rcut t a b t.size)) ∧ w = w' := by
 unfold maxLen at ht;obtain ⟨b1, b2, b3, b4, b5⟩ := fromV_bd a b;go_enter Tryz.func149, Tryz.ntmps149;go_wp2
 go_loop [5, 6] (fun o i => ∃ k : Nat, k ≤ t.size ∧ i = .int .i64 k ∧ o = .string (rcut t a b k)) (fun _ i => t.size - (intOf i).toNat)
 (case atStart => exact ⟨0, Nat.zero_le _, rfl, by rw [rcut_zero]; rfl⟩);case round =>
  obtain ⟨k, hk, rfl, rfl⟩ := hrel;cases h : may a b
  ·
   go_wp2_with (first | (go_at_call 68; refine (rmay_any _ _ _).mono ?_; rintro e w' ⟨rfl, rfl⟩) | (go_at_call 44; refine (rto_any _ _ _).mono ?_; rintro e w' ⟨rfl, rfl⟩) | (go_at_call 46; refine (rfrom_any _ _ _).mono ?_; rintro e w' ⟨rfl, rfl⟩) | (go_at_call 91; refine (rnone_any _).mono ?_; rintro e w' ⟨rfl, rfl⟩) | (go_at_call 119; refine (rof_any _ _ _).mono ?_; rintro e w' ⟨rfl, rfl⟩))
   ·
    go_round
    (case rel => exact ⟨k + 1, by omega, by go_num, by rw [rcut_no h, rcut_no h]⟩);case measure => simp [intOf]; omega
   · go_ret;exact ⟨by rw [rcut_no h, rcut_no h]; rfl, rfl⟩
  ·
   obtain ⟨h1, h2, h3⟩ := may_spec h;obtain ⟨_, c2, c3, _⟩ := wh_spec h1;obtain ⟨_, d2, d3, _⟩ := wh_spec h2;(have e1 : fromV a b = tr a := by unfold fromV; rw [h]; rfl);(have e2 : toV a b = tr b := by unfold toV; rw [h]; rfl);by_cases hlt : k < t.size
   ·
    by_cases hin : fromV a b ≤ k ∧ k < toV a b
    ·
     have S := Lib.hid (rcut_in h (t := t) (k := k) (by omega) (by omega));(have cc := fun w => run_string_add_sum (P := Tryz.prog) w (rcut t a b k) (t.extract k (k + 1)) (by have := rcut_size t a b k; simp; omega));obtain ⟨hin1, hin2⟩ := hin;clear h1 h2 h3 c2 c3 d2 d3 e1 e2;go_wp2_with (first | (go_at_call 68; refine (rmay_any _ _ _).mono ?_; rintro e w' ⟨rfl, rfl⟩) | (go_at_call 44; refine (rto_any _ _ _).mono ?_; rintro e w' ⟨rfl, rfl⟩) | (go_at_call 46; refine (rfrom_any _ _ _).mono ?_; rintro e w' ⟨rfl, rfl⟩) | (go_at_call 91; refine (rnone_any _).mono ?_; rintro e w' ⟨rfl, rfl⟩) | (go_at_call 119; refine (rof_any _ _ _).mono ?_; rintro e w' ⟨rfl, rfl⟩))
     go_round
     (case rel => exact ⟨k + 1, by omega, by go_num, by rw [S.out]⟩);case measure => simp [intOf]; omega
    ·
     have S := Lib.hid (rcut_out (t := t) h (k := k) (by omega));clear h1 h2 h3 c2 c3 d2 d3 e1 e2;by_cases hin1 : fromV a b ≤ k
     ·
      (have hin2 : toV a b ≤ k := by omega);clear hin;go_wp2_with (first | (go_at_call 68; refine (rmay_any _ _ _).mono ?_; rintro e w' ⟨rfl, rfl⟩) | (go_at_call 44; refine (rto_any _ _ _).mono ?_; rintro e w' ⟨rfl, rfl⟩) | (go_at_call 46; refine (rfrom_any _ _ _).mono ?_; rintro e w' ⟨rfl, rfl⟩) | (go_at_call 91; refine (rnone_any _).mono ?_; rintro e w' ⟨rfl, rfl⟩) | (go_at_call 119; refine (rof_any _ _ _).mono ?_; rintro e w' ⟨rfl, rfl⟩))
      go_round
      (case rel => exact ⟨k + 1, by omega, by go_num, by rw [S.out]⟩);case measure => simp [intOf]; omega
     ·
      clear hin;go_wp2_with (first | (go_at_call 68; refine (rmay_any _ _ _).mono ?_; rintro e w' ⟨rfl, rfl⟩) | (go_at_call 44; refine (rto_any _ _ _).mono ?_; rintro e w' ⟨rfl, rfl⟩) | (go_at_call 46; refine (rfrom_any _ _ _).mono ?_; rintro e w' ⟨rfl, rfl⟩) | (go_at_call 91; refine (rnone_any _).mono ?_; rintro e w' ⟨rfl, rfl⟩) | (go_at_call 119; refine (rof_any _ _ _).mono ?_; rintro e w' ⟨rfl, rfl⟩))
      go_round
      (case rel => exact ⟨k + 1, by omega, by go_num, by rw [S.out]⟩);case measure => simp [intOf]; omega
   · go_wp2_with (first | (go_at_call 68; refine (rmay_any _ _ _).mono ?_; rintro e w' ⟨rfl, rfl⟩) | (go_at_call 44; refine (rto_any _ _ _).mono ?_; rintro e w' ⟨rfl, rfl⟩) | (go_at_call 46; refine (rfrom_any _ _ _).mono ?_; rintro e w' ⟨rfl, rfl⟩) | (go_at_call 91; refine (rnone_any _).mono ?_; rintro e w' ⟨rfl, rfl⟩) | (go_at_call 119; refine (rof_any _ _ _).mono ?_; rintro e w' ⟨rfl, rfl⟩));go_ret;(obtain rfl : k = t.size := by omega);exact ⟨rfl, rfl⟩
abbrev fi (n : Int) : Nat := floatOfInt .f64 n
theorem may_fi (a b : Int) (ha : -9223372036854775808 ≤ a) (ha' : a ≤ 9223372036854775807) (hb : -9223372036854775808 ≤ b) (hb' : b ≤ 9223372036854775807) : may (fi a) (fi b) = inB a b := by
 obtain ⟨a1, a2⟩ := wh_ofInt a ha ha';obtain ⟨b1, b2⟩ := wh_ofInt b hb hb';rw [Bool.eq_iff_iff];constructor
 · intro h;obtain ⟨h1, h2, h3⟩ := may_spec h;rw [a1] at h1; rw [b1] at h2;simp at h1 h2;rw [a2 h1.1 h1.2, b2 h2.1 h2.2] at h3;unfold inB; simp; omega
 · intro h;unfold inB at h; simp at h;have e1 := a2 (by omega) (by omega);have e2 := b2 (by omega) (by omega);exact may_of (by rw [a1]; simp; omega) (by rw [b1]; simp; omega) (by rw [e1, e2]; omega)
theorem inB_spec {a b : Int} (h : inB a b = true) : 0 ≤ a ∧ a ≤ b ∧ b ≤ 999999999 := by
 unfold inB at h; simp at h; omega
theorem inB_of {a b : Int} (h0 : 0 ≤ a) (h1 : a ≤ b) (h2 : b ≤ 999999999) : inB a b = true := by
 unfold inB; simp; omega
theorem fi_in {a b : Int} (h : inB a b = true) : may (fi a) (fi b) = true ∧ fromV (fi a) (fi b) = a ∧ toV (fi a) (fi b) = b ∧ tr (fi a) = a ∧ tr (fi b) = b := by
 obtain ⟨h0, h1, h2⟩ := inB_spec h;have e := may_fi a b (by omega) (by omega) (by omega) (by omega);rw [h] at e;have e1 := (wh_ofInt a (by omega) (by omega)).2 h0 (by omega);have e2 := (wh_ofInt b (by omega) (by omega)).2 (by omega) h2;exact ⟨e, by unfold fromV; rw [e]; exact e1, by unfold toV; rw [e]; exact e2, e1, e2⟩
theorem eqB_refl {x : Nat} {v : Int} (h : V x = some v) : eqB x x = true := eq_V h h
theorem eqB_none : eqB noneB noneB = true := eqB_refl V_none
end Go.Proofs.YthpiapemjadgdaaGreatDoor.Sp
