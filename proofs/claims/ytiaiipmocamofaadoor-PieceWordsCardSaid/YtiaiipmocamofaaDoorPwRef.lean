/- The walks of the reference's blank, in, Blanks, Number. -/
import Derived.Test.YtiaiipmocamofaaDoorPwWalks
namespace Go.Proofs.YtiaiipmocamofaaDoor.Pc
open Go.RowKit Bld
set_option linter.unusedVariables false
set_option linter.unusedSimpArgs false
theorem rblank_any (c : UInt8) (w : World) :
    Calls Tryd.prog 33 #[.int .u8 (c.toNat : Int)] w fun e w' => e = .returned (.bool (isB c)) ∧ w' = w := by
  have e1 : ((c.toNat : Int) == 32) = (c == 32) := b_eq c 32
  have e2 : ((c.toNat : Int) == 9) = (c == 9) := b_eq c 9
  have HB := Lib.hid (isB_iff c)
  generalize (c == 32) = b1 at *
  generalize (c == 9) = b2 at *
  cases b1 <;> cases b2 <;>
  · go_enter Tryd.func33, Tryd.ntmps33
    go_wp2
    go_ret
    exact ⟨by rw [HB.out]; rfl, rfl⟩
def hasB (s : List UInt8) (c : UInt8) : Bool := s.contains c
set_option maxHeartbeats 400000 in
theorem rin_any (s : List UInt8) (c : UInt8) (w : World) (hl : s.length ≤ 10000) :
    Calls Tryd.prog 32 #[S s, .int .u8 (c.toNat : Int)] w fun e w' => e = .returned (.bool (hasB s c)) ∧ w' = w := by
  have hsz := size_mk s
  go_enter Tryd.func32, Tryd.ntmps32
  go_wp2
  go_loopw [5] (fun i wr => ∃ k : Nat, k ≤ s.length ∧ i = .int .i64 k ∧ Hid (c ∉ s.take k) ∧ wr = w) (fun i _ => s.length - (intOf i).toNat)
  case atStart => exact ⟨0, Nat.zero_le _, rfl, Lib.hid (by simp), rfl⟩
  case round =>
    obtain ⟨k, hk, rfl, HNO, rfl⟩ := hrel
    by_cases hlt : k < s.length
    · have hcell : ((ByteArray.mk s.toArray)[k]'hlt) = s[k] := rfl
      have HS := Lib.hid (show c ≠ s[k] → c ∉ s.take (k + 1) from fun h => by
        rw [List.take_succ_eq_append_getElem hlt, List.mem_append]
        rintro (h1 | h1)
        · exact HNO.out h1
        · exact h (by simpa using h1))
      have HC := Lib.hid (show s[k] = c → hasB s c = true from fun h => by unfold hasB; rw [← h]; simp)
      have hI : (k : Int) < (s.length : Int) := by omega
      generalize s[k] = d at *
      have e1 : ((d.toNat : Int) == (c.toNat : Int)) = (d == c) := b_eq d c
      by_cases hd : d = c
      · have hd' : (d == c) = true := by simpa using hd
        have HD := Lib.hid hd
        clear hd
        rw [hd'] at e1
        clear hd'
        go_wp2
        go_ret
        exact ⟨ret1 (show Value.bool true = Value.bool (hasB s c) from by rw [HC.out HD.out]), rfl⟩
      · have hd' : (d == c) = false := by simpa using hd
        have HD := Lib.hid hd
        clear hd
        rw [hd'] at e1
        clear hd'
        go_wp2
        go_roundw
        case rel => exact ⟨k + 1, by omega, by go_num, Lib.hid (HS.out fun h => HD.out h.symm), by first | rfl | trivial⟩
        case measure => (simp [intOf] <;> omega)
    · obtain rfl : k = s.length := by omega
      have hI : ¬ (s.length : Int) < (s.length : Int) := by omega
      have HN := Lib.hid (show hasB s c = false from by
        have := HNO.out
        rw [List.take_length] at this
        unfold hasB
        simpa using this)
      clear HNO
      go_wp2
      go_ret
      exact ⟨ret1 (show Value.bool false = Value.bool (hasB s c) from by rw [HN.out]), rfl⟩
set_option maxHeartbeats 400000 in
theorem rblanks_any (l : List UInt8) (at_ : Int) (w : World) (hl : l.length ≤ 10000) :
    Calls Tryd.prog 15 #[S l, E at_] w fun e w' => e = .returned (E (blanksL l at_)) ∧ w' = w := by
  have hpl := fromL_le l.length at_
  obtain ⟨p, hp⟩ : ∃ p, fromL l.length at_ = p := ⟨_, rfl⟩
  rw [hp] at hpl
  obtain ⟨n, hn⟩ : ∃ n, run isB (l.drop p) = n := ⟨_, rfl⟩
  have hnl : p + n ≤ l.length := by have := run_le isB (l.drop p); rw [hn, List.length_drop] at this; omega
  have HAT := Lib.hid (run_at isB (l.drop p))
  rw [hn] at HAT
  have HW := Lib.hid (show blanksL l at_ = p + n from by unfold blanksL; rw [hp, hn])
  have CF := fun W => rfrom_any l at_ W (by omega)
  rw [hp] at CF
  have hsz := size_mk l
  clear hn hp
  go_enter Tryd.func15, Tryd.ntmps15
  go_wp2_with (first
    | (go_at_call 29; refine (CF _).mono ?_; rintro e w' ⟨rfl, rfl⟩))
  go_loopw [1] (fun i wr => ∃ k : Nat, k ≤ n ∧ i = .int .i64 ((p + k : Nat) : Int) ∧ wr = w) (fun i _ => l.length - (intOf i).toNat)
  case atStart => exact ⟨0, Nat.zero_le _, by go_num, rfl⟩
  case round =>
    obtain ⟨k, hk, rfl, rfl⟩ := hrel
    by_cases hlt : p + k < l.length
    · have hcell : ((ByteArray.mk l.toArray)[p + k]'hlt) = l[p + k] := rfl
      have hat : isB l[p + k] = decide (k < n) := by
        have := HAT.out k hk (by rw [List.length_drop]; omega)
        rwa [List.getElem_drop] at this
      have hI : ((p + k : Nat) : Int) < (l.length : Int) := by omega
      have HM := Lib.hid (show p + k + 1 = p + (k + 1) from by omega)
      generalize l[p + k] = c at *
      by_cases hkn : k < n
      · have hb : isB c = true := by rw [hat]; exact decide_eq_true hkn
        have HK := Lib.hid hkn
        clear hat hkn
        generalize p + k = m at *
        go_wp2_with (go_at_call 33; refine (rblank_any _ _).mono ?_; rintro e w' ⟨rfl, rfl⟩; rw [hb])
        go_roundw
        case rel => exact ⟨k + 1, HK.out, by rw [← HM.out]; go_num, by first | rfl | trivial⟩
        case measure => (simp [intOf] <;> omega)
      · have hb : isB c = false := by rw [hat]; exact decide_eq_false hkn
        have HK := Lib.hid (show k = n by omega)
        clear hat hkn
        generalize hm : p + k = m at *
        have HMM := Lib.hid hm
        clear hm
        go_wp2_with (go_at_call 33; refine (rblank_any _ _).mono ?_; rintro e w' ⟨rfl, rfl⟩; rw [hb])
        go_ret
        exact ⟨ret1 (show E m = E (blanksL l at_) from by rw [HW.out, ← HK.out, HMM.out]), rfl⟩
    · have HK := Lib.hid (show p + k = p + n by omega)
      have hI : ¬ ((p + k : Nat) : Int) < (l.length : Int) := by omega
      generalize p + k = m at *
      go_wp2
      go_ret
      exact ⟨ret1 (show E m = E (blanksL l at_) from by rw [HW.out, ← HK.out]), rfl⟩
end Go.Proofs.YtiaiipmocamofaaDoor.Pc
