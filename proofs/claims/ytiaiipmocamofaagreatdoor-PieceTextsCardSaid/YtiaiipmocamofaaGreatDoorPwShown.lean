/- What the law PieceWords asks first; the reference's from. -/
import Derived.Test.YtiaiipmocamofaaGreatDoorPcTake
import Derived.Test.YtiaiipmocamofaaGreatDoorPwPlain
import Derived.Shelf.Strings.SlTrimAscii
namespace Go.Proofs.YtiaiipmocamofaaGreatDoor.Pc
open Go.RowKit Bld
set_option linter.unusedVariables false
set_option linter.unusedSimpArgs false

set_option maxHeartbeats 400000 in
theorem rfrom_any (l : List UInt8) (at_ : Int) (w : World) (hl : l.length ≤ 1000000) :
    Calls Tryz.prog 17 #[S l, E at_] w fun e w' => e = .returned (E (fromL l.length at_)) ∧ w = w' := by
  by_cases h1 : at_ < 0
  · go_enter Tryz.func17, Tryz.ntmps17
    go_wp2
    go_ret
    exact ⟨ret1 (by rw [show fromL l.length at_ = l.length from if_pos (Or.inl h1)]; rfl), rfl⟩
  · by_cases h2 : (l.length : Int) < at_
    · go_enter Tryz.func17, Tryz.ntmps17
      go_wp2
      go_ret
      exact ⟨ret1 (by rw [show fromL l.length at_ = l.length from if_pos (Or.inr h2)]; rfl), rfl⟩
    · have e0 : fromL l.length at_ = at_.toNat := if_neg (by omega)
      have EE := Lib.hid e0
      clear e0
      go_enter Tryz.func17, Tryz.ntmps17
      go_wp2
      go_ret
      exact ⟨ret1 (by rw [EE.out]; exact congrArg (Value.int .i64) (by omega)), rfl⟩

theorem b_eq (x y : UInt8) : (((x.toNat : Nat) : Int) == ((y.toNat : Nat) : Int)) = (x == y) := by
  rw [Bool.eq_iff_iff, beq_iff_eq, beq_iff_eq]
  exact ⟨fun h => UInt8.toNat_inj.1 (by omega), fun h => by rw [h]⟩
theorem b_eq10 (x : UInt8) : (((x.toNat : Nat) : Int) == 10) = (x == 10) := b_eq x 10
theorem b_eq92 (x : UInt8) : (((x.toNat : Nat) : Int) == 92) = (x == 92) := b_eq x 92
set_option maxRecDepth 100000 in
set_option maxHeartbeats 1000000 in
theorem shown_any (w : World) :
    Calls Tryz.prog 4 #[] w fun e w' => e = .returned (.bool true) ∧ Below w.heap.size w w' := by
  have h1 : takeL [97, 92, 47, 98, 47, 99] 0 47 = ([97, 47, 98], 5, 0) := by decide
  have h2 : giveL [97, 47, 98] 47 = ([97, 92, 47, 98], 0) := by decide
  have h3 : textL [111, 110, 101, 92, 10, 116, 119, 111, 10, 114, 101, 115, 116] 0 = ([111, 110, 101, 10, 116, 119, 111, 10], 9, 0) := by decide
  have HB := Below.refl w.heap.size w
  go_enter Tryz.func4, Tryz.ntmps4
  go_wp2_with (first | (go_at_call 9; refine (take_any [97, 92, 47, 98, 47, 99] 0 47 _ (by decide) (by decide) (by decide)).mono ?_; rintro e w' ⟨rfl, hb⟩; replace HB := HB.trans (hb.mono HB.size); clear hb; rw [h1]) | (go_at_call 10; refine (give_any [97, 47, 98] 47 _ (by decide)).mono ?_; rintro e w' ⟨rfl, hb⟩; replace HB := HB.trans (hb.mono HB.size); clear hb; rw [h2]) | (go_at_call 5; refine (text_any [111, 110, 101, 92, 10, 116, 119, 111, 10, 114, 101, 115, 116] 0 _ (by decide) (by decide) (by decide)).mono ?_; rintro e w' ⟨rfl, hb⟩; replace HB := HB.trans (hb.mono HB.size); clear hb; rw [h3]))
  go_ret
  exact ⟨rfl, HB⟩

theorem as_list (s : ByteArray) : ∃ l : List UInt8, s = ⟨l.toArray⟩ ∧ l.length = s.size := ⟨s.data.toList, (Lib.mk_data s).symm, Array.length_toList⟩
theorem as_byte {n : Int} (h : (Lit.int .u8 n).wf = true) : ∃ d : UInt8, n = d.toNat := by
  have h' : 0 ≤ n ∧ n ≤ 255 := by simpa [Lit.wf, IntKind.min, IntKind.max, IntKind.signed, IntKind.bits] using h
  refine ⟨UInt8.ofNat n.toNat, ?_⟩
  have e : (UInt8.ofNat n.toNat).toNat = n.toNat % 256 := rfl
  rw [e, Nat.mod_eq_of_lt (by omega)]; omega
theorem wf_i64 {n : Int} (h : (Lit.int .i64 n).wf = true) : -9223372036854775808 ≤ n ∧ n ≤ 9223372036854775807 := by
  simpa [Lit.wf, IntKind.min, IntKind.max, IntKind.signed, IntKind.bits] using h
theorem wf_u16 {n : Int} (h : (Lit.int .u16 n).wf = true) : 0 ≤ n ∧ n ≤ 65535 := by
  simpa [Lit.wf, IntKind.min, IntKind.max, IntKind.signed, IntKind.bits] using h

end Go.Proofs.YtiaiipmocamofaaGreatDoor.Pc
