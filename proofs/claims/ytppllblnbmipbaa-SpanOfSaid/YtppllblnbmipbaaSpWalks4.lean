/- The walks of the reference's Meet and Cut. -/
import Derived.Test.YtppllblnbmipbaaSpWalks3
import Derived.ShutString
import Derived.Lib.Strings
namespace Go.Proofs.Ytppllblnbmipbaa.Sp
open Go.RowKit Fl

set_option maxHeartbeats 400000 in
theorem rmeet_any (a b c d : Nat) (w : World) :
    Calls Try.prog 31 #[cx a b, cx c d] w fun e w' => e = .returned (.bool (rmeetB a b c d)) ∧ w = w' := by
  have m1 := min_if
  have m2 := max_if
  cases h : may a b <;> cases h2 : may c d
  all_goals
    go_enter Try.func31, Try.ntmps31
    go_wp2_with (first | (go_at_call 20; refine (rmay_any _ _ _).mono ?_; rintro e w' ⟨rfl, rfl⟩) | (go_at_call 22; refine (rto_any _ _ _).mono ?_; rintro e w' ⟨rfl, rfl⟩) | (go_at_call 21; refine (rfrom_any _ _ _).mono ?_; rintro e w' ⟨rfl, rfl⟩) | (go_at_call 27; refine (rnone_any _).mono ?_; rintro e w' ⟨rfl, rfl⟩) | (go_at_call 11; refine (rof_any _ _ _).mono ?_; rintro e w' ⟨rfl, rfl⟩))
    go_ret
    exact ⟨by unfold rmeetB; rw [h, h2]; simp, rfl⟩

/-- What the reference has cut after k rounds. -/
def rcut (t : ByteArray) (a b : Nat) (k : Nat) : ByteArray := if may a b then t.extract (tr a).toNat (min k (tr b).toNat) else ByteArray.empty

theorem rcut_no {t : ByteArray} {a b k : Nat} (h : may a b = false) : rcut t a b k = ByteArray.empty := by
  unfold rcut; rw [h]; rfl
theorem rcut_zero (t : ByteArray) (a b : Nat) : rcut t a b 0 = ByteArray.empty := by
  unfold rcut; split
  · ext1; simp
  · rfl
theorem rcut_in {t : ByteArray} {a b k : Nat} (h : may a b = true) (h1 : tr a ≤ k) (h2 : (k : Int) < tr b) : rcut t a b (k + 1) = rcut t a b k ++ t.extract k (k + 1) := by
  unfold rcut
  rw [if_pos h, if_pos h, Nat.min_eq_left (by omega), Nat.min_eq_left (by omega)]
  ext1
  simp
  rw [Nat.min_eq_left (by omega)]
theorem rcut_out {t : ByteArray} {a b k : Nat} (h : may a b = true) (h1 : (k : Int) < tr a ∨ tr b ≤ k) : rcut t a b (k + 1) = rcut t a b k := by
  obtain ⟨h4, h5, h6⟩ := may_spec h
  unfold rcut
  rw [if_pos h, if_pos h]
  rcases h1 with h1 | h1
  · ext1; simp; rw [Array.extract_eq_empty_of_le (by omega), Array.extract_eq_empty_of_le (by omega)]
  · rw [Nat.min_eq_right (by omega), Nat.min_eq_right (by omega)]

theorem rcut_size (t : ByteArray) (a b k : Nat) : (rcut t a b k).size ≤ k := by
  unfold rcut; split
  · simp; omega
  · simp

set_option maxHeartbeats 400000 in
theorem rcut_any (t : ByteArray) (a b : Nat) (w : World) (ht : t.size ≤ maxLen) :
    Calls Try.prog 18 #[.string t, cx a b] w fun e w' => e = .returned (.string (rcut t a b t.size)) ∧ w = w' := by
  unfold maxLen at ht
  obtain ⟨b1, b2, b3, b4, b5⟩ := fromV_bd a b
  go_enter Try.func18, Try.ntmps18
  go_wp2
  go_loop [5, 6] (fun o i => ∃ k : Nat, k ≤ t.size ∧ i = .int .i64 k ∧ o = .string (rcut t a b k)) (fun _ i => t.size - (intOf i).toNat)
  case atStart => exact ⟨0, Nat.zero_le _, rfl, by rw [rcut_zero]; rfl⟩
  case round =>
    obtain ⟨k, hk, rfl, rfl⟩ := hrel
    cases h : may a b
    · go_wp2_with (first | (go_at_call 20; refine (rmay_any _ _ _).mono ?_; rintro e w' ⟨rfl, rfl⟩) | (go_at_call 22; refine (rto_any _ _ _).mono ?_; rintro e w' ⟨rfl, rfl⟩) | (go_at_call 21; refine (rfrom_any _ _ _).mono ?_; rintro e w' ⟨rfl, rfl⟩) | (go_at_call 27; refine (rnone_any _).mono ?_; rintro e w' ⟨rfl, rfl⟩) | (go_at_call 11; refine (rof_any _ _ _).mono ?_; rintro e w' ⟨rfl, rfl⟩))
      · go_round
        case rel => exact ⟨k + 1, by omega, by go_num, by rw [rcut_no h, rcut_no h]⟩
        case measure => simp [intOf]; omega
      · go_ret
        exact ⟨by rw [rcut_no h, rcut_no h]; rfl, rfl⟩
    · obtain ⟨h1, h2, h3⟩ := may_spec h
      obtain ⟨_, c2, c3, _⟩ := wh_spec h1
      obtain ⟨_, d2, d3, _⟩ := wh_spec h2
      have e1 : fromV a b = tr a := by unfold fromV; rw [h]; rfl
      have e2 : toV a b = tr b := by unfold toV; rw [h]; rfl
      by_cases hlt : k < t.size
      · by_cases hin : fromV a b ≤ k ∧ k < toV a b
        · have S := Lib.hid (rcut_in h (t := t) (k := k) (by omega) (by omega))
          have cc := fun w => run_string_add_sum (P := Try.prog) w (rcut t a b k) (t.extract k (k + 1)) (by have := rcut_size t a b k; simp; omega)
          obtain ⟨hin1, hin2⟩ := hin
          clear h1 h2 h3 c2 c3 d2 d3 e1 e2
          go_wp2_with (first | (go_at_call 20; refine (rmay_any _ _ _).mono ?_; rintro e w' ⟨rfl, rfl⟩) | (go_at_call 22; refine (rto_any _ _ _).mono ?_; rintro e w' ⟨rfl, rfl⟩) | (go_at_call 21; refine (rfrom_any _ _ _).mono ?_; rintro e w' ⟨rfl, rfl⟩) | (go_at_call 27; refine (rnone_any _).mono ?_; rintro e w' ⟨rfl, rfl⟩) | (go_at_call 11; refine (rof_any _ _ _).mono ?_; rintro e w' ⟨rfl, rfl⟩))
          go_round
          case rel => exact ⟨k + 1, by omega, by go_num, by rw [S.out]⟩
          case measure => simp [intOf]; omega
        · have S := Lib.hid (rcut_out (t := t) h (k := k) (by omega))
          clear h1 h2 h3 c2 c3 d2 d3 e1 e2
          by_cases hin1 : fromV a b ≤ k
          · have hin2 : toV a b ≤ k := by omega
            clear hin
            go_wp2_with (first | (go_at_call 20; refine (rmay_any _ _ _).mono ?_; rintro e w' ⟨rfl, rfl⟩) | (go_at_call 22; refine (rto_any _ _ _).mono ?_; rintro e w' ⟨rfl, rfl⟩) | (go_at_call 21; refine (rfrom_any _ _ _).mono ?_; rintro e w' ⟨rfl, rfl⟩) | (go_at_call 27; refine (rnone_any _).mono ?_; rintro e w' ⟨rfl, rfl⟩) | (go_at_call 11; refine (rof_any _ _ _).mono ?_; rintro e w' ⟨rfl, rfl⟩))
            go_round
            case rel => exact ⟨k + 1, by omega, by go_num, by rw [S.out]⟩
            case measure => simp [intOf]; omega
          · clear hin
            go_wp2_with (first | (go_at_call 20; refine (rmay_any _ _ _).mono ?_; rintro e w' ⟨rfl, rfl⟩) | (go_at_call 22; refine (rto_any _ _ _).mono ?_; rintro e w' ⟨rfl, rfl⟩) | (go_at_call 21; refine (rfrom_any _ _ _).mono ?_; rintro e w' ⟨rfl, rfl⟩) | (go_at_call 27; refine (rnone_any _).mono ?_; rintro e w' ⟨rfl, rfl⟩) | (go_at_call 11; refine (rof_any _ _ _).mono ?_; rintro e w' ⟨rfl, rfl⟩))
            go_round
            case rel => exact ⟨k + 1, by omega, by go_num, by rw [S.out]⟩
            case measure => simp [intOf]; omega
      · go_wp2_with (first | (go_at_call 20; refine (rmay_any _ _ _).mono ?_; rintro e w' ⟨rfl, rfl⟩) | (go_at_call 22; refine (rto_any _ _ _).mono ?_; rintro e w' ⟨rfl, rfl⟩) | (go_at_call 21; refine (rfrom_any _ _ _).mono ?_; rintro e w' ⟨rfl, rfl⟩) | (go_at_call 27; refine (rnone_any _).mono ?_; rintro e w' ⟨rfl, rfl⟩) | (go_at_call 11; refine (rof_any _ _ _).mono ?_; rintro e w' ⟨rfl, rfl⟩))
        go_ret
        obtain rfl : k = t.size := by omega
        exact ⟨rfl, rfl⟩
end Go.Proofs.Ytppllblnbmipbaa.Sp
