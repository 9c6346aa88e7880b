/- The walk of the reference's Number. -/
import Derived.Test.YtiaiipmocamofaaDoorPwRef
namespace Go.Proofs.YtiaiipmocamofaaDoor.Pc
open Go.RowKit Bld
set_option linter.unusedVariables false
set_option linter.unusedSimpArgs false
theorem satN_le (ds : List UInt8) : satN 0 ds ≤ 1000000000 := by
  have := satN_val ds 0
  rw [show min 0 1000000000 = 0 from rfl] at this
  omega
set_option maxHeartbeats 1000000 in
theorem rnumber_A (l : List UInt8) (at_ : Int) (w : World) (hl : l.length ≤ 10000) (h0 : run isD (l.drop (fromL l.length at_)) = 0) :
    Calls Tryd.prog 11 #[S l, E at_] w fun e w' => e = .returned (N3 (numL l at_)) ∧ w' = w := by
  have hpl := fromL_le l.length at_
  obtain ⟨p, hp⟩ : ∃ p, fromL l.length at_ = p := ⟨_, rfl⟩
  rw [hp] at hpl
  obtain ⟨rest, hr⟩ : ∃ rest, l.drop p = rest := ⟨_, rfl⟩
  have hrl : rest.length = l.length - p := by rw [← hr, List.length_drop]
  obtain ⟨n, hn⟩ : ∃ n, run isD rest = n := ⟨_, rfl⟩
  have hnl : n ≤ rest.length := by rw [← hn]; exact run_le _ _
  have HAT := Lib.hid (run_at isD rest)
  rw [hn] at HAT
  have HLC := Lib.hid (show ∀ (k : Nat) (h1 : k < rest.length) (h2 : p + k < l.length), l[p + k] = rest[k] from fun k h1 h2 => by subst hr; rw [List.getElem_drop])
  rw [hp, hr, hn] at h0 
  have HNUM : numL l at_ = if n = 0 then (0, p, 3) else if big (valN 0 (rest.take n)) = true then (0, p, 1) else (valN 0 (rest.take n), p + n, 0) := by
    unfold numL; simp only [hp, hr, hn]
  have HSAT : satN 0 (rest.take n) = min (valN 0 (rest.take n)) 1000000000 := satN_val (rest.take n) 0
  have HFIN := Lib.hid (show Ending.returned (.tuple #[E 0, E p, E 3]) = .returned (N3 (numL l at_)) from by rw [HNUM, if_pos h0]; rfl)
  have HV := Lib.hid (show True from trivial)
  have HQ := Lib.hid (show (((p + n : Nat) : Int) == (p : Int)) = true from by rw [h0]; simp)
  have CF := fun W => rfrom_any l at_ W (by omega)
  rw [hp] at CF
  have hsz := size_mk l
  clear hn hp HNUM HSAT
  go_enter Tryd.func11, Tryd.ntmps11
  go_wp2_with (first
    | (go_at_call 29; refine (CF _).mono ?_; rintro e w' ⟨rfl, rfl⟩))
  go_loopw [7, 8] (fun nv i wr => ∃ k : Nat, k ≤ n ∧ nv = .int .i64 (satN 0 (rest.take k) : Int) ∧ i = .int .i64 ((p + k : Nat) : Int) ∧ wr = w) (fun _ i _ => l.length - (intOf i).toNat)
  case atStart => exact ⟨0, Nat.zero_le _, rfl, by go_num, rfl⟩
  case round =>
    obtain ⟨k, hk, rfl, rfl, rfl⟩ := hrel
    obtain ⟨v, hv⟩ : ∃ v, satN 0 (rest.take k) = v := ⟨_, rfl⟩
    have hv9 : v ≤ 1000000000 := by rw [← hv]; exact satN_le _
    by_cases hlt : p + k < l.length
    · have hlr : k < rest.length := by omega
      have hcell : ((ByteArray.mk l.toArray)[p + k]'hlt) = l[p + k] := rfl
      have hat := HAT.out k hk hlr
      have hlc := HLC.out k hlr hlt
      rw [← hlc] at hat
      rw [isD_iff] at hat
      have HN := Lib.hid (show satN 0 (rest.take (k + 1)) = min (v * 10 + (l[p + k].toNat - 48)) 1000000000 from by
        rw [List.take_succ_eq_append_getElem hlr, ← hlc, satN, List.foldl_append]
        show min (satN 0 (rest.take k) * 10 + _) _ = _
        rw [hv])
      have hI : ((p + k : Nat) : Int) < (l.length : Int) := by omega
      have HM := Lib.hid (show p + k + 1 = p + (k + 1) from by omega)
      have hc0 := UInt8.toNat_lt l[p + k]
      clear hlc
      generalize l[p + k] = c at *
      by_cases h48 : 48 ≤ c.toNat
      · by_cases h57 : c.toNat ≤ 57
        · have hkn : k < n := by
            rw [decide_eq_true h48, decide_eq_true h57] at hat
            exact of_decide_eq_true hat.symm
          have HK := Lib.hid hkn
          have i48 : (48 : Int) ≤ (c.toNat : Int) := by omega
          have i57 : (c.toNat : Int) ≤ 57 := by omega
          have eu : IntKind.u8.wrap ((c.toNat : Int) - 48) = ((c.toNat - 48 : Nat) : Int) := by rw [IntKind.wrap_u8]; omega
          have HB := Lib.hid (show c.toNat - 48 ≤ 9 by omega)
          rw [hv]
          clear hat hkn h48 h57 hv
          generalize p + k = m at *
          go_wp2
          go_roundw
          case rel => exact ⟨k + 1, HK.out, by rw [HN.out]; exact congrArg (Value.int .i64) (by omega), by rw [← HM.out]; go_num, by first | rfl | trivial⟩
          case measure => (simp [intOf] <;> omega)
        · have hkn : k = n := by
            rw [decide_eq_false h57, Bool.and_false] at hat
            have := of_decide_eq_false hat.symm; omega
          have i48 : (48 : Int) ≤ (c.toNat : Int) := by omega
          have i57 : ¬ (c.toNat : Int) ≤ 57 := by omega
          clear hat h48 h57 HN HM
          subst hkn
          have hq := HQ.out
          skip
          skip
          skip
          rw [hv]
          generalize p + k = m at *
          clear hv HV
          go_wp2
          go_ret3
          exact ⟨HFIN.out, rfl⟩
      · have hkn : k = n := by
          rw [decide_eq_false h48, Bool.false_and] at hat
          have := of_decide_eq_false hat.symm; omega
        have i48 : ¬ (48 : Int) ≤ (c.toNat : Int) := by omega
        clear hat h48 HN HM
        subst hkn
        have hq := HQ.out
        skip
        skip
        skip
        rw [hv]
        generalize p + k = m at *
        clear hv HV
        go_wp2
        go_ret3
        exact ⟨HFIN.out, rfl⟩
    · have hkn : k = n := by omega
      have hI : ¬ ((p + k : Nat) : Int) < (l.length : Int) := by omega
      subst hkn
      have hq := HQ.out
      skip
      skip
      skip
      rw [hv]
      generalize p + k = m at *
      clear hv HV
      go_wp2
      go_ret3
      exact ⟨HFIN.out, rfl⟩
set_option maxHeartbeats 1000000 in
theorem rnumber_B (l : List UInt8) (at_ : Int) (w : World) (hl : l.length ≤ 10000) (h0 : run isD (l.drop (fromL l.length at_)) ≠ 0) (hb : big (valN 0 ((l.drop (fromL l.length at_)).take (run isD (l.drop (fromL l.length at_))))) = true) :
    Calls Tryd.prog 11 #[S l, E at_] w fun e w' => e = .returned (N3 (numL l at_)) ∧ w' = w := by
  have hpl := fromL_le l.length at_
  obtain ⟨p, hp⟩ : ∃ p, fromL l.length at_ = p := ⟨_, rfl⟩
  rw [hp] at hpl
  obtain ⟨rest, hr⟩ : ∃ rest, l.drop p = rest := ⟨_, rfl⟩
  have hrl : rest.length = l.length - p := by rw [← hr, List.length_drop]
  obtain ⟨n, hn⟩ : ∃ n, run isD rest = n := ⟨_, rfl⟩
  have hnl : n ≤ rest.length := by rw [← hn]; exact run_le _ _
  have HAT := Lib.hid (run_at isD rest)
  rw [hn] at HAT
  have HLC := Lib.hid (show ∀ (k : Nat) (h1 : k < rest.length) (h2 : p + k < l.length), l[p + k] = rest[k] from fun k h1 h2 => by subst hr; rw [List.getElem_drop])
  rw [hp, hr, hn] at h0 hb
  have HNUM : numL l at_ = if n = 0 then (0, p, 3) else if big (valN 0 (rest.take n)) = true then (0, p, 1) else (valN 0 (rest.take n), p + n, 0) := by
    unfold numL; simp only [hp, hr, hn]
  have HSAT : satN 0 (rest.take n) = min (valN 0 (rest.take n)) 1000000000 := satN_val (rest.take n) 0
  have HFIN := Lib.hid (show Ending.returned (.tuple #[E 0, E p, E 1]) = .returned (N3 (numL l at_)) from by rw [HNUM, if_neg h0, if_pos hb]; rfl)
  have HV := Lib.hid (show (999999999 : Int) < (satN 0 (rest.take n) : Int) from by have := of_decide_eq_true hb; rw [HSAT]; omega)
  have HQ := Lib.hid (show (((p + n : Nat) : Int) == (p : Int)) = false from by rw [beq_eq_false_iff_ne]; omega)
  have CF := fun W => rfrom_any l at_ W (by omega)
  rw [hp] at CF
  have hsz := size_mk l
  clear hn hp HNUM HSAT hb
  go_enter Tryd.func11, Tryd.ntmps11
  go_wp2_with (first
    | (go_at_call 29; refine (CF _).mono ?_; rintro e w' ⟨rfl, rfl⟩))
  go_loopw [7, 8] (fun nv i wr => ∃ k : Nat, k ≤ n ∧ nv = .int .i64 (satN 0 (rest.take k) : Int) ∧ i = .int .i64 ((p + k : Nat) : Int) ∧ wr = w) (fun _ i _ => l.length - (intOf i).toNat)
  case atStart => exact ⟨0, Nat.zero_le _, rfl, by go_num, rfl⟩
  case round =>
    obtain ⟨k, hk, rfl, rfl, rfl⟩ := hrel
    obtain ⟨v, hv⟩ : ∃ v, satN 0 (rest.take k) = v := ⟨_, rfl⟩
    have hv9 : v ≤ 1000000000 := by rw [← hv]; exact satN_le _
    by_cases hlt : p + k < l.length
    · have hlr : k < rest.length := by omega
      have hcell : ((ByteArray.mk l.toArray)[p + k]'hlt) = l[p + k] := rfl
      have hat := HAT.out k hk hlr
      have hlc := HLC.out k hlr hlt
      rw [← hlc] at hat
      rw [isD_iff] at hat
      have HN := Lib.hid (show satN 0 (rest.take (k + 1)) = min (v * 10 + (l[p + k].toNat - 48)) 1000000000 from by
        rw [List.take_succ_eq_append_getElem hlr, ← hlc, satN, List.foldl_append]
        show min (satN 0 (rest.take k) * 10 + _) _ = _
        rw [hv])
      have hI : ((p + k : Nat) : Int) < (l.length : Int) := by omega
      have HM := Lib.hid (show p + k + 1 = p + (k + 1) from by omega)
      have hc0 := UInt8.toNat_lt l[p + k]
      clear hlc
      generalize l[p + k] = c at *
      by_cases h48 : 48 ≤ c.toNat
      · by_cases h57 : c.toNat ≤ 57
        · have hkn : k < n := by
            rw [decide_eq_true h48, decide_eq_true h57] at hat
            exact of_decide_eq_true hat.symm
          have HK := Lib.hid hkn
          have i48 : (48 : Int) ≤ (c.toNat : Int) := by omega
          have i57 : (c.toNat : Int) ≤ 57 := by omega
          have eu : IntKind.u8.wrap ((c.toNat : Int) - 48) = ((c.toNat - 48 : Nat) : Int) := by rw [IntKind.wrap_u8]; omega
          have HB := Lib.hid (show c.toNat - 48 ≤ 9 by omega)
          rw [hv]
          clear hat hkn h48 h57 hv
          generalize p + k = m at *
          go_wp2
          go_roundw
          case rel => exact ⟨k + 1, HK.out, by rw [HN.out]; exact congrArg (Value.int .i64) (by omega), by rw [← HM.out]; go_num, by first | rfl | trivial⟩
          case measure => (simp [intOf] <;> omega)
        · have hkn : k = n := by
            rw [decide_eq_false h57, Bool.and_false] at hat
            have := of_decide_eq_false hat.symm; omega
          have i48 : (48 : Int) ≤ (c.toNat : Int) := by omega
          have i57 : ¬ (c.toNat : Int) ≤ 57 := by omega
          clear hat h48 h57 HN HM
          subst hkn
          have hq := HQ.out
          rw [hv] at HV
          skip
          have hv2 := HV.out
          rw [hv]
          generalize p + k = m at *
          clear hv HV
          go_wp2
          go_ret3
          exact ⟨HFIN.out, rfl⟩
      · have hkn : k = n := by
          rw [decide_eq_false h48, Bool.false_and] at hat
          have := of_decide_eq_false hat.symm; omega
        have i48 : ¬ (48 : Int) ≤ (c.toNat : Int) := by omega
        clear hat h48 HN HM
        subst hkn
        have hq := HQ.out
        rw [hv] at HV
        skip
        have hv2 := HV.out
        rw [hv]
        generalize p + k = m at *
        clear hv HV
        go_wp2
        go_ret3
        exact ⟨HFIN.out, rfl⟩
    · have hkn : k = n := by omega
      have hI : ¬ ((p + k : Nat) : Int) < (l.length : Int) := by omega
      subst hkn
      have hq := HQ.out
      rw [hv] at HV
      skip
      have hv2 := HV.out
      rw [hv]
      generalize p + k = m at *
      clear hv HV
      go_wp2
      go_ret3
      exact ⟨HFIN.out, rfl⟩
set_option maxHeartbeats 1000000 in
theorem rnumber_C (l : List UInt8) (at_ : Int) (w : World) (hl : l.length ≤ 10000) (h0 : run isD (l.drop (fromL l.length at_)) ≠ 0) (hb : ¬ big (valN 0 ((l.drop (fromL l.length at_)).take (run isD (l.drop (fromL l.length at_))))) = true) :
    Calls Tryd.prog 11 #[S l, E at_] w fun e w' => e = .returned (N3 (numL l at_)) ∧ w' = w := by
  have hpl := fromL_le l.length at_
  obtain ⟨p, hp⟩ : ∃ p, fromL l.length at_ = p := ⟨_, rfl⟩
  rw [hp] at hpl
  obtain ⟨rest, hr⟩ : ∃ rest, l.drop p = rest := ⟨_, rfl⟩
  have hrl : rest.length = l.length - p := by rw [← hr, List.length_drop]
  obtain ⟨n, hn⟩ : ∃ n, run isD rest = n := ⟨_, rfl⟩
  have hnl : n ≤ rest.length := by rw [← hn]; exact run_le _ _
  have HAT := Lib.hid (run_at isD rest)
  rw [hn] at HAT
  have HLC := Lib.hid (show ∀ (k : Nat) (h1 : k < rest.length) (h2 : p + k < l.length), l[p + k] = rest[k] from fun k h1 h2 => by subst hr; rw [List.getElem_drop])
  rw [hp, hr, hn] at h0 hb
  have HNUM : numL l at_ = if n = 0 then (0, p, 3) else if big (valN 0 (rest.take n)) = true then (0, p, 1) else (valN 0 (rest.take n), p + n, 0) := by
    unfold numL; simp only [hp, hr, hn]
  have HSAT : satN 0 (rest.take n) = min (valN 0 (rest.take n)) 1000000000 := satN_val (rest.take n) 0
  have HFIN := Lib.hid (show Ending.returned (.tuple #[E (satN 0 (rest.take n)), E ((p + n : Nat) : Int), E 0]) = .returned (N3 (numL l at_)) from by rw [HNUM, if_neg h0, if_neg hb, HSAT]; rw [Nat.min_eq_left (by have := mt decide_eq_true hb; omega)])
  have HV := Lib.hid (show ¬ (999999999 : Int) < (satN 0 (rest.take n) : Int) from by have := mt decide_eq_true hb; rw [HSAT]; omega)
  have HQ := Lib.hid (show (((p + n : Nat) : Int) == (p : Int)) = false from by rw [beq_eq_false_iff_ne]; omega)
  have CF := fun W => rfrom_any l at_ W (by omega)
  rw [hp] at CF
  have hsz := size_mk l
  clear hn hp HNUM HSAT hb
  go_enter Tryd.func11, Tryd.ntmps11
  go_wp2_with (first
    | (go_at_call 29; refine (CF _).mono ?_; rintro e w' ⟨rfl, rfl⟩))
  go_loopw [7, 8] (fun nv i wr => ∃ k : Nat, k ≤ n ∧ nv = .int .i64 (satN 0 (rest.take k) : Int) ∧ i = .int .i64 ((p + k : Nat) : Int) ∧ wr = w) (fun _ i _ => l.length - (intOf i).toNat)
  case atStart => exact ⟨0, Nat.zero_le _, rfl, by go_num, rfl⟩
  case round =>
    obtain ⟨k, hk, rfl, rfl, rfl⟩ := hrel
    obtain ⟨v, hv⟩ : ∃ v, satN 0 (rest.take k) = v := ⟨_, rfl⟩
    have hv9 : v ≤ 1000000000 := by rw [← hv]; exact satN_le _
    by_cases hlt : p + k < l.length
    · have hlr : k < rest.length := by omega
      have hcell : ((ByteArray.mk l.toArray)[p + k]'hlt) = l[p + k] := rfl
      have hat := HAT.out k hk hlr
      have hlc := HLC.out k hlr hlt
      rw [← hlc] at hat
      rw [isD_iff] at hat
      have HN := Lib.hid (show satN 0 (rest.take (k + 1)) = min (v * 10 + (l[p + k].toNat - 48)) 1000000000 from by
        rw [List.take_succ_eq_append_getElem hlr, ← hlc, satN, List.foldl_append]
        show min (satN 0 (rest.take k) * 10 + _) _ = _
        rw [hv])
      have hI : ((p + k : Nat) : Int) < (l.length : Int) := by omega
      have HM := Lib.hid (show p + k + 1 = p + (k + 1) from by omega)
      have hc0 := UInt8.toNat_lt l[p + k]
      clear hlc
      generalize l[p + k] = c at *
      by_cases h48 : 48 ≤ c.toNat
      · by_cases h57 : c.toNat ≤ 57
        · have hkn : k < n := by
            rw [decide_eq_true h48, decide_eq_true h57] at hat
            exact of_decide_eq_true hat.symm
          have HK := Lib.hid hkn
          have i48 : (48 : Int) ≤ (c.toNat : Int) := by omega
          have i57 : (c.toNat : Int) ≤ 57 := by omega
          have eu : IntKind.u8.wrap ((c.toNat : Int) - 48) = ((c.toNat - 48 : Nat) : Int) := by rw [IntKind.wrap_u8]; omega
          have HB := Lib.hid (show c.toNat - 48 ≤ 9 by omega)
          rw [hv]
          clear hat hkn h48 h57 hv
          generalize p + k = m at *
          go_wp2
          go_roundw
          case rel => exact ⟨k + 1, HK.out, by rw [HN.out]; exact congrArg (Value.int .i64) (by omega), by rw [← HM.out]; go_num, by first | rfl | trivial⟩
          case measure => (simp [intOf] <;> omega)
        · have hkn : k = n := by
            rw [decide_eq_false h57, Bool.and_false] at hat
            have := of_decide_eq_false hat.symm; omega
          have i48 : (48 : Int) ≤ (c.toNat : Int) := by omega
          have i57 : ¬ (c.toNat : Int) ≤ 57 := by omega
          clear hat h48 h57 HN HM
          subst hkn
          have hq := HQ.out
          rw [hv] at HV
          rw [hv] at HFIN
          have hv2 := HV.out
          rw [hv]
          generalize p + k = m at *
          clear hv HV
          go_wp2
          go_ret3
          exact ⟨HFIN.out, rfl⟩
      · have hkn : k = n := by
          rw [decide_eq_false h48, Bool.false_and] at hat
          have := of_decide_eq_false hat.symm; omega
        have i48 : ¬ (48 : Int) ≤ (c.toNat : Int) := by omega
        clear hat h48 HN HM
        subst hkn
        have hq := HQ.out
        rw [hv] at HV
        rw [hv] at HFIN
        have hv2 := HV.out
        rw [hv]
        generalize p + k = m at *
        clear hv HV
        go_wp2
        go_ret3
        exact ⟨HFIN.out, rfl⟩
    · have hkn : k = n := by omega
      have hI : ¬ ((p + k : Nat) : Int) < (l.length : Int) := by omega
      subst hkn
      have hq := HQ.out
      rw [hv] at HV
      rw [hv] at HFIN
      have hv2 := HV.out
      rw [hv]
      generalize p + k = m at *
      clear hv HV
      go_wp2
      go_ret3
      exact ⟨HFIN.out, rfl⟩
theorem rnumber_any (l : List UInt8) (at_ : Int) (w : World) (hl : l.length ≤ 10000) :
    Calls Tryd.prog 11 #[S l, E at_] w fun e w' => e = .returned (N3 (numL l at_)) ∧ w' = w := by
  by_cases h0 : run isD (l.drop (fromL l.length at_)) = 0
  · exact rnumber_A l at_ w hl h0
  · by_cases hb : big (valN 0 ((l.drop (fromL l.length at_)).take (run isD (l.drop (fromL l.length at_))))) = true
    · exact rnumber_B l at_ w hl h0 hb
    · exact rnumber_C l at_ w hl h0 hb
end Go.Proofs.YtiaiipmocamofaaDoor.Pc
