/- Patterns: strings.Cut at one byte, Atoi, Itoa: the contracts. -/
import Derived.Test.YtdjedjfanfbbcaaGreatDoorRxPu
import Derived.OwnWalk
import Derived.Lib.SmallJoins
namespace Go.Proofs.YtdjedjfanfbbcaaGreatDoor.Rx
open Go.RowKit Go.Shelf
open Go.Proofs.YtdjedjfanfbbcaaGreatDoor.Ad (cutB cutB_at cutB_none atoiV dec_len)
open Go.Proofs.YtdjedjfanfbbcaaGreatDoor.St (Tab)
set_option linter.unusedVariables false
set_option linter.unusedSimpArgs false
theorem ibyte (c : UInt8) : ∀ l : List UInt8, (Lib.indexByte l c = -1 ∧ cutB c l = (l, [], false)) ∨ (∃ k : Nat, k < l.length ∧ Lib.indexByte l c = (k : Int) ∧ cutB c l = (l.take k, l.drop (k + 1), true))
  | [] => by left; exact ⟨rfl, rfl⟩
  | b :: r => by
    unfold Lib.indexByte cutB
    by_cases h : b = c
    · right
      subst h
      exact ⟨0, by simp, by simp, by simp⟩
    · have hB : (b == c) = false := by rw [beq_eq_false_iff_ne]; exact h
      rw [hB, if_neg h]
      rcases ibyte c r with ⟨h1, h2⟩ | ⟨k, h0, h1, h2⟩
      · left
        rw [h1, h2]
        exact ⟨rfl, rfl⟩
      · right
        refine ⟨k + 1, by simp; omega, ?_, ?_⟩
        · rw [h1]
          have hn : ((k : Int) == -1) = false := by rw [beq_eq_false_iff_ne]; omega
          rw [hn]
          simp
        · rw [h2]; simp
theorem ret3 {a b c a' b' c' : Value} (h1 : a = a') (h2 : b = b') (h3 : c = c') : Ending.returned (.tuple #[a, b, c]) = .returned (.tuple #[a', b', c']) := by rw [h1, h2, h3]
theorem ex_take {l : List UInt8} (k : Nat) : (⟨l.toArray⟩ : ByteArray).extract 0 k = ⟨(l.take k).toArray⟩ := by
  rw [Go.Lib.extract_eq]; simp
theorem ex_drop {l : List UInt8} (k : Nat) : (⟨l.toArray⟩ : ByteArray).extract k l.length = ⟨(l.drop k).toArray⟩ := by
  rw [Go.Lib.extract_eq]
  simp only
  rw [List.take_of_length_le (by simp)]
abbrev CutR (c : UInt8) (l : List UInt8) : Ending := .returned (.tuple #[S (cutB c l).1, S (cutB c l).2.1, .bool (cutB c l).2.2])
set_option maxRecDepth 100000 in
theorem scut_any (l : List UInt8) (c : UInt8) (w : World) (hl : l.length ≤ 100000) :
    Calls Tryz.prog 90 #[S l, S [c]] w fun e w' => e = CutR c l ∧ Below w.heap.size w w' := by
  have hsz : (ByteArray.mk l.toArray).size = l.length := by simp [ByteArray.size]
  have hs1 : (ByteArray.mk #[c]).size = 1 := by rfl
  have HI : Hid (∀ w, Calls Tryz.prog 100 #[S l, .string ⟨#[c]⟩] w fun e w' => e = .returned (E (Lib.indexByte l c)) ∧ w' = w) := Lib.hid (fun w => by
    have h := Tryz.stringslite_Index_one ⟨l.toArray⟩ c w
    simpa using h)
  rcases ibyte c l with ⟨h1, h2⟩ | ⟨k, h0, h1, h2⟩
  · have HO := Lib.hid h2
    clear h2
    rw [h1] at HI
    go_enter Tryz.func90, Tryz.ntmps90
    go_wp2_with (go_at_call 100; refine (HI.out _).mono ?_; rintro e w' ⟨rfl, rfl⟩)
    go_ret3
    exact ⟨by unfold CutR; rw [HO.out]; rfl, Below.refl _ _⟩
  · have HO := Lib.hid h2
    clear h2
    rw [h1] at HI
    have e1 := ex_take (l := l) k
    have e2 := ex_drop (l := l) (k + 1)
    have hk : ((k : Nat) : Int) ≤ ((l.length : Nat) : Int) := by omega
    have hk1 : ((k : Nat) : Int) + 1 ≤ ((l.length : Nat) : Int) := by omega
    have hk2 : (((k : Nat) : Int) + 1).toNat = k + 1 := by omega
    go_enter Tryz.func90, Tryz.ntmps90
    go_wp2_with (go_at_call 100; refine (HI.out _).mono ?_; rintro e w' ⟨rfl, rfl⟩)
    go_region
    go_wp2
    go_ret3
    exact ⟨by unfold CutR; rw [HO.out]; rfl, (Below.refl _ _).drew⟩
set_option maxRecDepth 100000 in
theorem cut_any (l : List UInt8) (c : UInt8) (w : World) (hl : l.length ≤ 100000) :
    Calls Tryz.prog 77 #[S l, S [c]] w fun e w' => e = CutR c l ∧ Below w.heap.size w w' := by
  have HC := Lib.hid (fun w => scut_any l c w hl)
  unfold CutR at *
  go_enter Tryz.func77, Tryz.ntmps77
  go_wp2_with (go_at_call 90; refine (HC.out _).mono ?_; rintro e w' ⟨rfl, hb⟩; have HB := Lib.hid hb; clear hb)
  go_ret3
  exact ⟨rfl, HB.out⟩
/-- What the library's functions find in its variables. -/
structure Lay (w : World) : Prop where
  tab : Tab w
  tl : 0 < w.heap.size
  pow : Go.Lib.TabIs Tryz.prog w "internal/strconv.uint64pow10" .u64 Go.Lib.pow10Tab
  err : Errs w
theorem gPow : Tryz.prog.globalNamed "internal/strconv.uint64pow10" = some 1 := by kernel_rfl
theorem Lay.below {w w' : World} (h : Lay w) (hb : Below w.heap.size w w') : Lay w' :=
  ⟨h.tab.below hb h.tl, Nat.lt_of_lt_of_le h.tl hb.size, Go.Joins.tab_stays gPow h.pow hb (Nat.le_refl _), h.err.below hb⟩
theorem below_grow (w : World) (os : Array Obj) : Below w.heap.size w (Go.Sort.grow w os) := ⟨rfl, rfl, rfl, by simp, fun k hk => Go.Sort.heap_grow_old w os hk⟩
theorem itoa_any (n : Int) (h0 : -1 ≤ n) (h1 : n ≤ 999999999) (w : World) (hL : Lay w) :
    Calls Tryz.prog 29 #[E n] w fun e w' => e = .returned (S (Lib.itoa n)) ∧ Below w.heap.size w w' := by
  refine (Tryz.strconv_Itoa n (by omega) (by omega) w hL.pow).mono ?_
  rintro e w' ⟨rfl, k, os, rfl⟩
  exact ⟨rfl, (Go.Joins.below_draws w.heap.size w k).trans (below_grow (w.drewN k) os)⟩
/-- The error of Atoi. -/
def ErrIs (ok : Bool) (ev : Value) : Prop := if ok = true then ev = .nilIface else ∃ (te : TypeId) (pe : Value), ev = .iface te pe
theorem atoi_any (l : List UInt8) (w : World) (hL : Lay w) (hl : l.length ≤ 100000) :
    Calls Tryz.prog 60 #[S l] w fun e w' => ∃ ev, ErrIs (atoiK l) ev ∧ e = .returned (.tuple #[E (atoiV l), ev]) ∧ Below w.heap.size w w' := by
  have hsz : (ByteArray.mk l.toArray).size = l.length := by simp [ByteArray.size]
  have hd : (ByteArray.mk l.toArray).data.toList = l := by simp
  unfold atoiV atoiK
  cases h : Lib.atoiAll l with
  | ok v =>
    refine (Tryz.strconv_Atoi_ok ⟨l.toArray⟩ (by rw [hsz]; omega) v (by rw [hd]; exact h) w).mono ?_
    rintro e w' ⟨rfl, rfl | ⟨t, rfl⟩⟩
    · exact ⟨_, rfl, rfl, Below.refl _ _⟩
    · exact ⟨_, rfl, rfl, Go.Joins.below_bytesWorld _ _ _ _ (Nat.le_refl _)⟩
  | «syntax» =>
    obtain ⟨ev, hv, hev⟩ := hL.err.syn
    refine (Tryz.strconv_Atoi_syntax ⟨l.toArray⟩ (by rw [hsz]; omega) (by rw [hd]; exact h) ev w hv hev).mono ?_
    rintro e w' ⟨N, rfl, _, _, hb⟩
    exact ⟨_, ⟨_, _, rfl⟩, rfl, hb⟩
  | range =>
    obtain ⟨ev, hv, hev⟩ := hL.err.rng
    refine (Tryz.strconv_Atoi_range ⟨l.toArray⟩ (by rw [hsz]; omega) (by rw [hd]; exact h) ev w hv hev).mono ?_
    rintro e w' ⟨N, rfl, _, _, hb⟩
    exact ⟨_, ⟨_, _, rfl⟩, by rw [hd], hb⟩
end Go.Proofs.YtdjedjfanfbbcaaGreatDoor.Rx
