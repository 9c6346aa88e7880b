/- The walk of the reference's Word. -/
import Derived.Test.YtiaiipmocamofaaDoorPwRef
namespace Go.Proofs.YtiaiipmocamofaaDoor.Pc
open Go.RowKit Bld
set_option linter.unusedVariables false
set_option linter.unusedSimpArgs false
set_option maxHeartbeats 1000000 in
theorem rword_any (l : List UInt8) (at_ : Int) (ends : List UInt8) (w : World) (hl : l.length ≤ 10000) (he : ends.length ≤ 10000) :
    Calls Tryd.prog 13 #[S l, E at_, S ends] w fun e w' => e = .returned (.tuple #[S (wordL l at_ ends).1, E (wordL l at_ ends).2]) ∧ w' = w := by
  have hpl := fromL_le l.length at_
  obtain ⟨p, hp⟩ : ∃ p, fromL l.length at_ = p := ⟨_, rfl⟩
  rw [hp] at hpl
  obtain ⟨rest, hr⟩ : ∃ rest, l.drop p = rest := ⟨_, rfl⟩
  have hrl : rest.length = l.length - p := by rw [← hr, List.length_drop]
  obtain ⟨n, hn⟩ : ∃ n, run (inWord ends) rest = n := ⟨_, rfl⟩
  have hnl : n ≤ rest.length := by rw [← hn]; exact run_le _ _
  have hpn : p + n ≤ l.length := by omega
  have HAT := Lib.hid (run_at (inWord ends) rest)
  rw [hn] at HAT
  have HLC := Lib.hid (show ∀ (k : Nat) (h1 : k < rest.length) (h2 : p + k < l.length), l[p + k] = rest[k] from fun k h1 h2 => by subst hr; rw [List.getElem_drop])
  have HW := Lib.hid (show wordL l at_ ends = (Lib.trimRightS (rest.take n) blanks, p + n) from by
    unfold wordL; simp only [hp, hr, hn])
  have CF := fun W => rfrom_any l at_ W (by omega)
  rw [hp] at CF
  have HRR := Lib.hid hr
  have hsz := size_mk l
  clear hn hp hr
  go_enter Tryd.func13, Tryd.ntmps13
  go_wp2_with (first
    | (go_at_call 29; refine (CF _).mono ?_; rintro e w' ⟨rfl, rfl⟩))
  go_loopw [8] (fun i wr => ∃ k : Nat, k ≤ n ∧ i = .int .i64 ((p + k : Nat) : Int) ∧ wr = w) (fun i _ => l.length - (intOf i).toNat)
  case atStart => exact ⟨0, Nat.zero_le _, by go_num, rfl⟩
  case round =>
    obtain ⟨k, hk, rfl, rfl⟩ := hrel
    by_cases hlt : p + k < l.length
    · have hlr : k < rest.length := by omega
      have hcell : ((ByteArray.mk l.toArray)[p + k]'hlt) = l[p + k] := rfl
      have hat := HAT.out k hk hlr
      rw [← HLC.out k hlr hlt] at hat
      have hI : ((p + k : Nat) : Int) < (l.length : Int) := by omega
      have HM := Lib.hid (show p + k + 1 = p + (k + 1) from by omega)
      clear hrl
      generalize hcc : l[p + k] = c at *
      clear hcc
      by_cases h10 : c = 10
      · subst h10
        have hkn : k = n := by
          have h0 : inWord ends 10 = false := rfl
          rw [h0] at hat
          have := of_decide_eq_false hat.symm
          omega
        have HIN := Lib.hid (show hasB ends 10 = hasB ends 10 from rfl)
        subst hkn
        clear hat HM hlr
        generalize hm0 : p + k = m0 at *
        have HM0 := Lib.hid hm0
        have hm0l : m0 ≤ l.length := by omega
        clear hm0
        go_wp2_with (go_at_call 32; refine (rin_any _ _ _ he).mono ?_; rintro e w' ⟨rfl, hw⟩; have hw2 := hw.symm; clear hw; subst hw2; rw [HIN.out])
        go_loopw [9] (fun i wq => ∃ q : Nat, p ≤ q ∧ q ≤ m0 ∧ i = .int .i64 (q : Int) ∧ Hid (∀ (j : Nat) b, q - p ≤ j → (rest.take k)[j]? = some b → blanks.contains b = true) ∧ wq = wr) (fun i _ => (intOf i).toNat)
        case atStart => exact ⟨m0, by have := HM0.out; omega, Nat.le_refl _, rfl, Lib.hid (fun j b hj hb => by
            have h1 := (List.getElem?_eq_some_iff.1 hb).1
            rw [List.length_take] at h1
            have := HM0.out; omega), rfl⟩
        case round =>
          obtain ⟨q, hpq, hqm, rfl, HJ, rfl⟩ := hrel
          have HTR := Lib.hid (show (∀ b, 0 < q - p → (rest.take k)[q - p - 1]? = some b → blanks.contains b = false) → Lib.trimRightS (rest.take k) blanks = rest.take (q - p) from fun h => by
            rw [Lib.trimRightS_take (rest.take k) blanks (q - p) (by rw [List.length_take]; have := HM0.out; omega) HJ.out h, List.take_take]
            congr 1; have := HM0.out; omega)
          have hexq : (⟨l.toArray⟩ : ByteArray).extract p q = ⟨(rest.take (q - p)).toArray⟩ := by
            have := extract_take l p (q - p)
            rwa [show p + (q - p) = q from by omega, HRR.out] at this
          by_cases hq : p < q
          · obtain ⟨q', rfl⟩ : ∃ q', q = q' + 1 := ⟨q - 1, by omega⟩
            have hlq : q' < l.length := by omega
            have hcellq : ((ByteArray.mk l.toArray)[q']'hlq) = l[q'] := rfl
            have HAQ := Lib.hid (show (rest.take k)[q' - p]? = some l[q'] from by
              rw [List.getElem?_take_of_lt (by have := HM0.out; omega), ← HRR.out, List.getElem?_drop, show p + (q' - p) = q' from by omega, List.getElem?_eq_getElem hlq])
            have hIq : (p : Int) < (q' : Int) + 1 := by omega
            have hIq2 : (q' : Int) < (l.length : Int) := by omega
            have hIq3 : (q' : Int) + 1 ≤ (l.length : Int) := by omega
            generalize l[q'] = d at *
            cases hbl : isB d
            · have HBL := Lib.hid hbl
              have HTRQ := Lib.hid (HTR.out (fun b _ hb => by
                rw [show q' + 1 - p - 1 = q' - p from by omega, HAQ.out] at hb
                rw [← Option.some.inj hb]; exact hbl))
              clear hbl
              have hex := hexq
              go_wp2_with (go_at_call 33; refine (rblank_any _ _).mono ?_; rintro e w' ⟨rfl, rfl⟩; rw [HBL.out])
              go_ret2
              refine ⟨?_, rfl⟩
              rw [HW.out, HTRQ.out]
              first | exact ret2 rfl rfl | (rw [Nat.sub_self, List.take_zero]; exact ret2 rfl rfl)
            · have HBL := Lib.hid hbl
              have HJ2 := Lib.hid (show ∀ (j : Nat) b, q' - p ≤ j → (rest.take k)[j]? = some b → blanks.contains b = true from fun j b hj hb => by
                by_cases hjj : j = q' - p
                · rw [hjj, HAQ.out] at hb
                  rw [← Option.some.inj hb]; exact HBL.out
                · exact HJ.out j b (by omega) hb)
              clear hbl HJ HTR hexq
              go_wp2_with (go_at_call 33; refine (rblank_any _ _).mono ?_; rintro e w' ⟨rfl, rfl⟩; rw [HBL.out])
              go_roundw
              case rel => exact ⟨q', by omega, by omega, by go_num, HJ2, by first | rfl | trivial⟩
              case measure => (simp [intOf] <;> omega)
          · obtain rfl : q = p := by omega
            have HTRQ := Lib.hid (HTR.out (fun b h0 _ => by omega))
            have HBL := Lib.hid (show isB 32 = true from rfl)
            have hIq : ¬ (q : Int) < (q : Int) := by omega
            have hIq3 : (q : Int) ≤ (l.length : Int) := by omega
            have hex := hexq
            go_wp2_with (go_at_call 33; refine (rblank_any _ _).mono ?_; rintro e w' ⟨rfl, rfl⟩; rw [HBL.out])
            go_ret2
            refine ⟨?_, rfl⟩
            rw [HW.out, HTRQ.out]
            first | exact ret2 rfl rfl | (rw [Nat.sub_self, List.take_zero]; exact ret2 rfl rfl)
      · have hne : ¬ (c.toNat : Int) = 10 := fun h => h10 (UInt8.toNat_inj.1 (by show c.toNat = 10; omega))
        have hne2 : ((c.toNat : Int) == 10) = false := by simpa using hne
        cases hc : hasB ends c
        · have hkn : k < n := by
            have h0 : inWord ends c = true := by unfold inWord; rw [show ends.contains c = false from hc]; simp [h10]
            rw [h0] at hat
            exact of_decide_eq_true hat.symm
          have HIN := Lib.hid hc
          have HK := Lib.hid hkn
          clear hat hc h10 hkn hlr
          generalize p + k = m at *
          go_wp2_with (go_at_call 32; refine (rin_any _ _ _ he).mono ?_; rintro e w' ⟨rfl, hw⟩; have hw2 := hw.symm; clear hw; subst hw2; rw [HIN.out])
          go_roundw
          case rel => exact ⟨k + 1, HK.out, by rw [← HM.out]; go_num, by first | rfl | trivial⟩
          case measure => (simp [intOf] <;> omega)
        · have hkn : k = n := by
            have h0 : inWord ends c = false := by unfold inWord; rw [show ends.contains c = true from hc]; simp
            rw [h0] at hat
            have := of_decide_eq_false hat.symm
            omega
          have HIN := Lib.hid hc
          subst hkn
          clear hat hc h10 HM hlr
          generalize hm0 : p + k = m0 at *
          have HM0 := Lib.hid hm0
          have hm0l : m0 ≤ l.length := by omega
          clear hm0
          go_wp2_with (go_at_call 32; refine (rin_any _ _ _ he).mono ?_; rintro e w' ⟨rfl, hw⟩; have hw2 := hw.symm; clear hw; subst hw2; rw [HIN.out])
          go_loopw [9] (fun i wq => ∃ q : Nat, p ≤ q ∧ q ≤ m0 ∧ i = .int .i64 (q : Int) ∧ Hid (∀ (j : Nat) b, q - p ≤ j → (rest.take k)[j]? = some b → blanks.contains b = true) ∧ wq = wr) (fun i _ => (intOf i).toNat)
          case atStart => exact ⟨m0, by have := HM0.out; omega, Nat.le_refl _, rfl, Lib.hid (fun j b hj hb => by
              have h1 := (List.getElem?_eq_some_iff.1 hb).1
              rw [List.length_take] at h1
              have := HM0.out; omega), rfl⟩
          case round =>
            obtain ⟨q, hpq, hqm, rfl, HJ, rfl⟩ := hrel
            have HTR := Lib.hid (show (∀ b, 0 < q - p → (rest.take k)[q - p - 1]? = some b → blanks.contains b = false) → Lib.trimRightS (rest.take k) blanks = rest.take (q - p) from fun h => by
              rw [Lib.trimRightS_take (rest.take k) blanks (q - p) (by rw [List.length_take]; have := HM0.out; omega) HJ.out h, List.take_take]
              congr 1; have := HM0.out; omega)
            have hexq : (⟨l.toArray⟩ : ByteArray).extract p q = ⟨(rest.take (q - p)).toArray⟩ := by
              have := extract_take l p (q - p)
              rwa [show p + (q - p) = q from by omega, HRR.out] at this
            by_cases hq : p < q
            · obtain ⟨q', rfl⟩ : ∃ q', q = q' + 1 := ⟨q - 1, by omega⟩
              have hlq : q' < l.length := by omega
              have hcellq : ((ByteArray.mk l.toArray)[q']'hlq) = l[q'] := rfl
              have HAQ := Lib.hid (show (rest.take k)[q' - p]? = some l[q'] from by
                rw [List.getElem?_take_of_lt (by have := HM0.out; omega), ← HRR.out, List.getElem?_drop, show p + (q' - p) = q' from by omega, List.getElem?_eq_getElem hlq])
              have hIq : (p : Int) < (q' : Int) + 1 := by omega
              have hIq2 : (q' : Int) < (l.length : Int) := by omega
              have hIq3 : (q' : Int) + 1 ≤ (l.length : Int) := by omega
              generalize l[q'] = d at *
              cases hbl : isB d
              · have HBL := Lib.hid hbl
                have HTRQ := Lib.hid (HTR.out (fun b _ hb => by
                  rw [show q' + 1 - p - 1 = q' - p from by omega, HAQ.out] at hb
                  rw [← Option.some.inj hb]; exact hbl))
                clear hbl
                have hex := hexq
                go_wp2_with (go_at_call 33; refine (rblank_any _ _).mono ?_; rintro e w' ⟨rfl, rfl⟩; rw [HBL.out])
                go_ret2
                refine ⟨?_, rfl⟩
                rw [HW.out, HTRQ.out]
                first | exact ret2 rfl rfl | (rw [Nat.sub_self, List.take_zero]; exact ret2 rfl rfl)
              · have HBL := Lib.hid hbl
                have HJ2 := Lib.hid (show ∀ (j : Nat) b, q' - p ≤ j → (rest.take k)[j]? = some b → blanks.contains b = true from fun j b hj hb => by
                  by_cases hjj : j = q' - p
                  · rw [hjj, HAQ.out] at hb
                    rw [← Option.some.inj hb]; exact HBL.out
                  · exact HJ.out j b (by omega) hb)
                clear hbl HJ HTR hexq
                go_wp2_with (go_at_call 33; refine (rblank_any _ _).mono ?_; rintro e w' ⟨rfl, rfl⟩; rw [HBL.out])
                go_roundw
                case rel => exact ⟨q', by omega, by omega, by go_num, HJ2, by first | rfl | trivial⟩
                case measure => (simp [intOf] <;> omega)
            · obtain rfl : q = p := by omega
              have HTRQ := Lib.hid (HTR.out (fun b h0 _ => by omega))
              have HBL := Lib.hid (show isB 32 = true from rfl)
              have hIq : ¬ (q : Int) < (q : Int) := by omega
              have hIq3 : (q : Int) ≤ (l.length : Int) := by omega
              have hex := hexq
              go_wp2_with (go_at_call 33; refine (rblank_any _ _).mono ?_; rintro e w' ⟨rfl, rfl⟩; rw [HBL.out])
              go_ret2
              refine ⟨?_, rfl⟩
              rw [HW.out, HTRQ.out]
              first | exact ret2 rfl rfl | (rw [Nat.sub_self, List.take_zero]; exact ret2 rfl rfl)
    · have hkn : k = n := by omega
      have hI : ¬ ((p + k : Nat) : Int) < (l.length : Int) := by omega
      have HIN := Lib.hid (show hasB ends 10 = hasB ends 10 from rfl)
      subst hkn
      clear hrl
      generalize hm0 : p + k = m0 at *
      have HM0 := Lib.hid hm0
      have hm0l : m0 ≤ l.length := by omega
      clear hm0
      go_wp2_with (go_at_call 32; refine (rin_any _ _ _ he).mono ?_; rintro e w' ⟨rfl, hw⟩; have hw2 := hw.symm; clear hw; subst hw2; rw [HIN.out])
      go_loopw [9] (fun i wq => ∃ q : Nat, p ≤ q ∧ q ≤ m0 ∧ i = .int .i64 (q : Int) ∧ Hid (∀ (j : Nat) b, q - p ≤ j → (rest.take k)[j]? = some b → blanks.contains b = true) ∧ wq = wr) (fun i _ => (intOf i).toNat)
      case atStart => exact ⟨m0, by have := HM0.out; omega, Nat.le_refl _, rfl, Lib.hid (fun j b hj hb => by
          have h1 := (List.getElem?_eq_some_iff.1 hb).1
          rw [List.length_take] at h1
          have := HM0.out; omega), rfl⟩
      case round =>
        obtain ⟨q, hpq, hqm, rfl, HJ, rfl⟩ := hrel
        have HTR := Lib.hid (show (∀ b, 0 < q - p → (rest.take k)[q - p - 1]? = some b → blanks.contains b = false) → Lib.trimRightS (rest.take k) blanks = rest.take (q - p) from fun h => by
          rw [Lib.trimRightS_take (rest.take k) blanks (q - p) (by rw [List.length_take]; have := HM0.out; omega) HJ.out h, List.take_take]
          congr 1; have := HM0.out; omega)
        have hexq : (⟨l.toArray⟩ : ByteArray).extract p q = ⟨(rest.take (q - p)).toArray⟩ := by
          have := extract_take l p (q - p)
          rwa [show p + (q - p) = q from by omega, HRR.out] at this
        by_cases hq : p < q
        · obtain ⟨q', rfl⟩ : ∃ q', q = q' + 1 := ⟨q - 1, by omega⟩
          have hlq : q' < l.length := by omega
          have hcellq : ((ByteArray.mk l.toArray)[q']'hlq) = l[q'] := rfl
          have HAQ := Lib.hid (show (rest.take k)[q' - p]? = some l[q'] from by
            rw [List.getElem?_take_of_lt (by have := HM0.out; omega), ← HRR.out, List.getElem?_drop, show p + (q' - p) = q' from by omega, List.getElem?_eq_getElem hlq])
          have hIq : (p : Int) < (q' : Int) + 1 := by omega
          have hIq2 : (q' : Int) < (l.length : Int) := by omega
          have hIq3 : (q' : Int) + 1 ≤ (l.length : Int) := by omega
          generalize l[q'] = d at *
          cases hbl : isB d
          · have HBL := Lib.hid hbl
            have HTRQ := Lib.hid (HTR.out (fun b _ hb => by
              rw [show q' + 1 - p - 1 = q' - p from by omega, HAQ.out] at hb
              rw [← Option.some.inj hb]; exact hbl))
            clear hbl
            have hex := hexq
            go_wp2_with (go_at_call 33; refine (rblank_any _ _).mono ?_; rintro e w' ⟨rfl, rfl⟩; rw [HBL.out])
            go_ret2
            refine ⟨?_, rfl⟩
            rw [HW.out, HTRQ.out]
            first | exact ret2 rfl rfl | (rw [Nat.sub_self, List.take_zero]; exact ret2 rfl rfl)
          · have HBL := Lib.hid hbl
            have HJ2 := Lib.hid (show ∀ (j : Nat) b, q' - p ≤ j → (rest.take k)[j]? = some b → blanks.contains b = true from fun j b hj hb => by
              by_cases hjj : j = q' - p
              · rw [hjj, HAQ.out] at hb
                rw [← Option.some.inj hb]; exact HBL.out
              · exact HJ.out j b (by omega) hb)
            clear hbl HJ HTR hexq
            go_wp2_with (go_at_call 33; refine (rblank_any _ _).mono ?_; rintro e w' ⟨rfl, rfl⟩; rw [HBL.out])
            go_roundw
            case rel => exact ⟨q', by omega, by omega, by go_num, HJ2, by first | rfl | trivial⟩
            case measure => (simp [intOf] <;> omega)
        · obtain rfl : q = p := by omega
          have HTRQ := Lib.hid (HTR.out (fun b h0 _ => by omega))
          have HBL := Lib.hid (show isB 32 = true from rfl)
          have hIq : ¬ (q : Int) < (q : Int) := by omega
          have hIq3 : (q : Int) ≤ (l.length : Int) := by omega
          have hex := hexq
          go_wp2_with (go_at_call 33; refine (rblank_any _ _).mono ?_; rintro e w' ⟨rfl, rfl⟩; rw [HBL.out])
          go_ret2
          refine ⟨?_, rfl⟩
          rw [HW.out, HTRQ.out]
          first | exact ret2 rfl rfl | (rw [Nat.sub_self, List.take_zero]; exact ret2 rfl rfl)
end Go.Proofs.YtiaiipmocamofaaDoor.Pc
