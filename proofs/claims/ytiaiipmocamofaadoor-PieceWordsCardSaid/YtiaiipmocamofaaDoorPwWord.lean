/- The walk of Word. -/
import Derived.Test.YtiaiipmocamofaaDoorPwWalks
namespace Go.Proofs.YtiaiipmocamofaaDoor.Pc
open Go.RowKit Bld
set_option linter.unusedVariables false
set_option linter.unusedSimpArgs false
theorem idx_any (ends : List UInt8) (c : UInt8) (w : World) :
    Calls Tryd.prog 30 #[S ends, .int .u8 (c.toNat : Int)] w fun e w' => e = .returned (E (Lib.indexByte ends c)) ∧ w' = w := by
  have h := Tryd.strings_IndexByte ⟨ends.toArray⟩ (c.toNat : Int) w
  rwa [dat_mk, Int.toNat_natCast, show c.toNat.toUInt8 = c from by simp] at h
theorem idx_in {ends : List UInt8} {c : UInt8} (h : ends.contains c = true) : ¬ Lib.indexByte ends c < 0 := by
  have := idx_neg ends c
  rw [h] at this
  simpa using this
theorem idx_out {ends : List UInt8} {c : UInt8} (h : ends.contains c = false) : Lib.indexByte ends c < 0 := by
  have := idx_neg ends c
  rw [h] at this
  simpa using this
set_option maxHeartbeats 1000000 in
theorem word_any (l : List UInt8) (at_ : Int) (ends : List UInt8) (w : World) (hl : l.length ≤ 10000) (ha : -9223372036854775808 ≤ at_) (ha' : at_ ≤ 9223372036854775807) :
    Calls Tryd.prog 12 #[S l, E at_, S ends] w fun e w' => e = .returned (.tuple #[S (wordL l at_ ends).1, E (wordL l at_ ends).2]) ∧ Below w.heap.size w w' := by
  have hpl := fromL_le l.length at_
  obtain ⟨p, hp⟩ : ∃ p, fromL l.length at_ = p := ⟨_, rfl⟩
  rw [hp] at hpl
  obtain ⟨rest, hr⟩ : ∃ rest, l.drop p = rest := ⟨_, rfl⟩
  have hrl : rest.length = l.length - p := by rw [← hr, List.length_drop]
  have hrl2 : rest.length ≤ 10000 := by omega
  obtain ⟨n, hn⟩ : ∃ n, run (inWord ends) rest = n := ⟨_, rfl⟩
  have hnl : n ≤ rest.length := by rw [← hn]; exact run_le _ _
  have HAT := Lib.hid (run_at (inWord ends) rest)
  have HEND := Lib.hid (fun k => run_end (inWord ends) (l := rest) (k := k))
  rw [hn] at HAT HEND
  have hpn : p + n ≤ 10000 := by omega
  have HW := Lib.hid (show Ending.returned (.tuple #[S (Lib.trimRightS (rest.take n) blanks), E ((p : Int) + (n : Int))]) = .returned (.tuple #[S (wordL l at_ ends).1, E (wordL l at_ ends).2]) from by
    unfold wordL; simp only [hp, hr, hn]; rw [Int.natCast_add])
  have CF := fun W => from_any l at_ W (by omega) ha ha'
  rw [hp, hr] at CF
  have HTR := Lib.hid (fun W => trimR_any (rest.take n) blanks W (by decide) (by decide) (by rw [List.length_take]; omega) (by decide))
  have hex := ex_zero rest n
  have hszr := size_mk rest
  clear hn hp hr hrl
  go_enter Tryd.func12, Tryd.ntmps12
  go_wp2_with (first
    | (go_at_call 20; refine (CF _).mono ?_; rintro e w' ⟨rfl, rfl⟩))
  go_loopw [9] (fun i wr => ∃ k : Nat, k ≤ n ∧ i = .int .i64 k ∧ wr = w) (fun i _ => rest.length - (intOf i).toNat)
  case atStart => exact ⟨0, Nat.zero_le _, rfl, rfl⟩
  case round =>
    obtain ⟨k, hk, rfl, rfl⟩ := hrel
    by_cases hlt : k < rest.length
    · have hcell : ((ByteArray.mk rest.toArray)[k]'hlt) = rest[k] := rfl
      have hat := HAT.out k hk hlt
      have hI : (k : Int) < (rest.length : Int) := by omega
      generalize rest[k] = c at *
      by_cases h10 : c = 10
      · subst h10
        have : k = n := by
          have h0 : inWord ends 10 = false := rfl
          rw [h0] at hat
          have := of_decide_eq_false hat.symm
          omega
        subst this
        have HZ := Lib.hid (show Lib.indexByte ends 10 = Lib.indexByte ends 10 from rfl)
        clear hat
        go_wp2_with (first
          | (go_at_call 30; refine (idx_any _ _ _).mono ?_; rintro e w' ⟨rfl, rfl⟩; rw [HZ.out])
          | (go_at_call 31; refine (HTR.out _).mono ?_; rintro e w1 ⟨rfl, hb⟩))
        go_ret2
        exact ⟨HW.out, hb⟩
      · have hne : ¬ (c.toNat : Int) = 10 := fun h => h10 (UInt8.toNat_inj.1 (by show c.toNat = 10; omega))
        have hne2 : ((c.toNat : Int) == 10) = false := by simpa using hne
        cases hc : ends.contains c
        · have hkn : k < n := by
            have h0 : inWord ends c = true := by unfold inWord; rw [hc]; simp [h10]
            rw [h0] at hat
            exact of_decide_eq_true hat.symm
          have hz := idx_out hc
          obtain ⟨z, hzz⟩ : ∃ z, Lib.indexByte ends c = z := ⟨_, rfl⟩
          rw [hzz] at hz
          have HZ := Lib.hid hzz
          clear hzz hat hc h10
          go_wp2_with (first
            | (go_at_call 30; refine (idx_any _ _ _).mono ?_; rintro e w' ⟨rfl, rfl⟩; rw [HZ.out]))
          go_roundw
          case rel => exact ⟨k + 1, hkn, by go_num, by first | rfl | trivial⟩
          case measure => (simp [intOf] <;> omega)
        · have : k = n := by
            have h0 : inWord ends c = false := by unfold inWord; rw [hc]; simp
            rw [h0] at hat
            have := of_decide_eq_false hat.symm
            omega
          subst this
          have hz := idx_in hc
          obtain ⟨z, hzz⟩ : ∃ z, Lib.indexByte ends c = z := ⟨_, rfl⟩
          rw [hzz] at hz
          have HZ := Lib.hid hzz
          clear hzz hat hc h10
          go_wp2_with (first
            | (go_at_call 30; refine (idx_any _ _ _).mono ?_; rintro e w' ⟨rfl, rfl⟩; rw [HZ.out])
            | (go_at_call 31; refine (HTR.out _).mono ?_; rintro e w1 ⟨rfl, hb⟩))
          go_ret2
          exact ⟨HW.out, hb⟩
    · obtain ⟨rfl, hkl⟩ := HEND.out k hk hlt
      have HZ := Lib.hid (show Lib.indexByte ends 10 = Lib.indexByte ends 10 from rfl)
      have hI : ¬ (k : Int) < (rest.length : Int) := by omega
      clear hkl
      go_wp2_with (first
        | (go_at_call 30; refine (idx_any _ _ _).mono ?_; rintro e w' ⟨rfl, rfl⟩; rw [HZ.out])
        | (go_at_call 31; refine (HTR.out _).mono ?_; rintro e w1 ⟨rfl, hb⟩))
      go_ret2
      exact ⟨HW.out, hb⟩
end Go.Proofs.YtiaiipmocamofaaDoor.Pc
