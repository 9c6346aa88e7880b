/- Addresses: strings.Cut at one byte, Atoi, read: the walks. -/
import Derived.Test.YtcijhfdccbgcpaaDoorAdT
namespace Go.Proofs.YtcijhfdccbgcpaaDoor.Ad
open Go.RowKit Go.Shelf
set_option linter.unusedVariables false
set_option linter.unusedSimpArgs false
theorem ibyte (c : UInt8) : ∀ l : List UInt8, (Lib.indexByte l c = -1 ∧ cutB c l = (l, [], false)) ∨ (∃ k : Nat, k < l.length ∧ Lib.indexByte l c = (k : Int) ∧ cutB c l = (l.take k, l.drop (k + 1), true))
  | [] => by left; exact ⟨rfl, rfl⟩
  | b :: r => by
    unfold Lib.indexByte cutB
    by_cases h : b = c
    · right
      subst h
      exact ⟨0, by simp, by simp, by simp⟩
    · have hB : (b == c) = false := by rw [beq_eq_false_iff_ne]; exact h
      rw [hB, if_neg h]
      rcases ibyte c r with ⟨h1, h2⟩ | ⟨k, h0, h1, h2⟩
      · left
        rw [h1, h2]
        exact ⟨rfl, rfl⟩
      · right
        refine ⟨k + 1, by simp; omega, ?_, ?_⟩
        · rw [h1]
          have hn : ((k : Int) == -1) = false := by rw [beq_eq_false_iff_ne]; omega
          rw [hn]
          simp
        · rw [h2]; simp
theorem ret3 {a b c a' b' c' : Value} (h1 : a = a') (h2 : b = b') (h3 : c = c') : Ending.returned (.tuple #[a, b, c]) = .returned (.tuple #[a', b', c']) := by rw [h1, h2, h3]
theorem ex_take {l : List UInt8} (k : Nat) : (⟨l.toArray⟩ : ByteArray).extract 0 k = ⟨(l.take k).toArray⟩ := by
  rw [Go.Lib.extract_eq]; simp
theorem ex_drop {l : List UInt8} (k : Nat) : (⟨l.toArray⟩ : ByteArray).extract k l.length = ⟨(l.drop k).toArray⟩ := by
  rw [Go.Lib.extract_eq]
  simp only
  rw [List.take_of_length_le (by simp)]
abbrev CutR (c : UInt8) (l : List UInt8) : Ending := .returned (.tuple #[S (cutB c l).1, S (cutB c l).2.1, .bool (cutB c l).2.2])
set_option maxRecDepth 100000 in
theorem scut_any (l : List UInt8) (c : UInt8) (w : World) (hl : l.length ≤ 1000) :
    Calls Tryd.prog 44 #[S l, S [c]] w fun e w' => e = CutR c l ∧ Below w.heap.size w w' := by
  have hsz : (ByteArray.mk l.toArray).size = l.length := by simp [ByteArray.size]
  have hs1 : (ByteArray.mk #[c]).size = 1 := by rfl
  have HI : Hid (∀ w, Calls Tryd.prog 54 #[S l, .string ⟨#[c]⟩] w fun e w' => e = .returned (E (Lib.indexByte l c)) ∧ w' = w) := Lib.hid (fun w => by
    have h := Tryd.stringslite_Index_one ⟨l.toArray⟩ c w
    simpa using h)
  rcases ibyte c l with ⟨h1, h2⟩ | ⟨k, h0, h1, h2⟩
  · have HO := Lib.hid h2
    clear h2
    rw [h1] at HI
    go_enter Tryd.func44, Tryd.ntmps44
    go_wp2_with (go_at_call 54; refine (HI.out _).mono ?_; rintro e w' ⟨rfl, rfl⟩)
    go_ret3
    exact ⟨by unfold CutR; rw [HO.out]; rfl, Below.refl _ _⟩
  · have HO := Lib.hid h2
    clear h2
    rw [h1] at HI
    have e1 := ex_take (l := l) k
    have e2 := ex_drop (l := l) (k + 1)
    have hk : ((k : Nat) : Int) ≤ ((l.length : Nat) : Int) := by omega
    have hk1 : ((k : Nat) : Int) + 1 ≤ ((l.length : Nat) : Int) := by omega
    have hk2 : (((k : Nat) : Int) + 1).toNat = k + 1 := by omega
    go_enter Tryd.func44, Tryd.ntmps44
    go_wp2_with (go_at_call 54; refine (HI.out _).mono ?_; rintro e w' ⟨rfl, rfl⟩)
    go_region
    go_wp2
    go_ret3
    exact ⟨by unfold CutR; rw [HO.out]; rfl, (Below.refl _ _).drew⟩
set_option maxRecDepth 100000 in
theorem cut_any (l : List UInt8) (c : UInt8) (w : World) (hl : l.length ≤ 1000) :
    Calls Tryd.prog 29 #[S l, S [c]] w fun e w' => e = CutR c l ∧ Below w.heap.size w w' := by
  have HC := Lib.hid (fun w => scut_any l c w hl)
  unfold CutR at *
  go_enter Tryd.func29, Tryd.ntmps29
  go_wp2_with (go_at_call 44; refine (HC.out _).mono ?_; rintro e w' ⟨rfl, hb⟩; have HB := Lib.hid hb; clear hb)
  go_ret3
  exact ⟨rfl, HB.out⟩
theorem atoi_any (l : List UInt8) (w : World) (hL : Lay w) (hl : l.length ≤ 1000) :
    Calls Tryd.prog 46 #[S l] w fun e w' => ∃ ev, e = .returned (.tuple #[E (atoiV l), ev]) ∧ Below w.heap.size w w' := by
  have hsz : (ByteArray.mk l.toArray).size = l.length := by simp [ByteArray.size]
  have hd : (ByteArray.mk l.toArray).data.toList = l := by simp
  unfold atoiV
  cases h : Lib.atoiAll l with
  | ok v =>
    refine (Tryd.strconv_Atoi_ok ⟨l.toArray⟩ (by rw [hsz]; omega) v (by rw [hd]; exact h) w).mono ?_
    rintro e w' ⟨rfl, rfl | ⟨t, rfl⟩⟩
    · exact ⟨_, rfl, Below.refl _ _⟩
    · exact ⟨_, rfl, Go.Joins.below_bytesWorld _ _ _ _ (Nat.le_refl _)⟩
  | «syntax» =>
    obtain ⟨ev, hv, hev⟩ := hL.s
    refine (Tryd.strconv_Atoi_syntax ⟨l.toArray⟩ (by rw [hsz]; omega) (by rw [hd]; exact h) ev w hv hev).mono ?_
    rintro e w' ⟨N, rfl, _, _, hb⟩
    exact ⟨_, rfl, hb⟩
  | range =>
    obtain ⟨ev, hv, hev⟩ := hL.r
    refine (Tryd.strconv_Atoi_range ⟨l.toArray⟩ (by rw [hsz]; omega) (by rw [hd]; exact h) ev w hv hev).mono ?_
    rintro e w' ⟨N, rfl, _, _, hb⟩
    exact ⟨_, by rw [hd], hb⟩
theorem trim_any (l : List UInt8) (w : World) (hl : l.length ≤ 1000) :
    Calls Tryd.prog 45 #[S l, S [47]] w fun e w' => e = .returned (S (Lib.trimB l 47)) ∧ Below w.heap.size w w' := by
  have h := Tryd.strings_Trim_one ⟨l.toArray⟩ 47 (by decide) w (by simp [ByteArray.size]; omega)
  refine h.mono ?_
  rintro e w' ⟨rfl, rfl | rfl⟩
  · exact ⟨by simp, Below.refl _ _⟩
  · exact ⟨by simp, (Below.refl _ _).drew⟩
end Go.Proofs.YtcijhfdccbgcpaaDoor.Ad
