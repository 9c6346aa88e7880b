/- Sets of bytes: walks of Has, Range, Not. -/
import Derived.Test.YtmlgbjdohijlnaaDoorSt1
namespace Go.Proofs.YtmlgbjdohijlnaaDoor.St
open Go.RowKit
set_option linter.unusedVariables false
set_option linter.unusedSimpArgs false

theorem has_bits {ws : List Nat} (h : Wf ws) (b : Nat) : (bits BinOp.and IntKind.u64 ((word ws (b / 64) : Int) / 2 ^ (b % 64)) 1 == 1) = mem ws b := by
  have hx := word_lt h (b / 64)
  generalize hxe : word ws (b / 64) = x at *
  have e1 : ((x : Int) / 2 ^ (b % 64)) = ((x / 2 ^ (b % 64) : Nat) : Int) := by simp
  have h2 : x / 2 ^ (b % 64) < 18446744073709551616 := Nat.lt_of_le_of_lt (Nat.div_le_self _ _) hx
  rw [e1, show (1 : Int) = ((1 : Nat) : Int) from rfl, u64_and_nat _ _ h2 (by decide), nat_mask1]
  unfold mem
  rw [Nat.testBit_eq_decide_div_mod_eq]
  rw [show word ws (b / 64) = x from hxe]
  generalize x / 2 ^ (b % 64) = t
  rw [Bool.eq_iff_iff]
  simp only [beq_iff_eq, decide_eq_true_eq]
  omega
theorem i64_and63 (n : Int) : bits .and .i64 n 63 = n % 64 := by
  have h63 : (BitVec.ofInt 64 63).toNat = 2 ^ 6 - 1 := by decide
  have key : (BitVec.ofInt 64 n &&& BitVec.ofInt 64 63).toNat = (n % ((2 ^ 64 : Nat) : Int)).toNat % 2 ^ 6 := by
    rw [BitVec.toNat_and, BitVec.toNat_ofInt, h63, Nat.and_two_pow_sub_one_eq_mod]
  show IntKind.i64.wrap ((BitVec.ofInt 64 n &&& BitVec.ofInt 64 63).toNat : Nat) = n % 64
  rw [key, IntKind.wrap_i64]
  omega
theorem and63 (m : Nat) : bits BinOp.and IntKind.i64 (m : Int) 63 = ((m % 64 : Nat) : Int) := by
  rw [i64_and63]; omega

set_option maxHeartbeats 400000 in
theorem has_any (ws : List Nat) (b : UInt8) (w : World) (h : Wf ws) :
    Calls Tryd.prog 16 #[SV ws, .int .u8 b.toNat] w fun e w' => e = .returned (.bool (mem ws b.toNat)) ∧ Below w.heap.size w w' := by
  have hb := b.toNat_lt
  have h1 : (b.toNat : Int) / 64 < 4 := by omega
  have h0 : 0 ≤ (b.toNat : Int) / 64 := by omega
  have hx := word_get h (i := b.toNat / 64) (by omega)
  have HB := Lib.hid (has_bits h b.toNat)
  clear h
  go_enter Tryd.func16, Tryd.ntmps16
  go_wp2
  go_ret
  exact ⟨by rw [← HB.out]; rfl, (Below.refl _ w).alloc (Nat.le_refl _) _⟩

set_option maxHeartbeats 400000 in
theorem range_any (a b : UInt8) (w : World) :
    Calls Tryd.prog 20 #[.int .u8 a.toNat, .int .u8 b.toNat] w fun e w' => e = .returned (SV (rangeW a.toNat b.toNat)) ∧ Below w.heap.size w w' := by
  have ha := a.toNat_lt
  have hb := b.toNat_lt
  generalize a.toNat = a at *
  generalize b.toNat = b at *
  go_enter Tryd.func20, Tryd.ntmps20
  go_wp2
  go_loopw [5] (fun i wr => ∃ k : Nat, k ≤ b + 1 - a ∧ i = .int .i64 ((a + k : Nat) : Int) ∧ SB wr w.heap.size (rangeN a k) ∧ Below w.heap.size w wr) (fun i _ => b + 1 - (intOf i).toNat)
  case atStart => exact ⟨0, Nat.zero_le _, rfl, heap_alloc_new w _, (Below.refl _ w).alloc (Nat.le_refl _) _⟩
  case round =>
    obtain ⟨k, hk, rfl, hS, hB⟩ := hrel
    obtain ⟨hw, _⟩ := rangeN_spec a k (by omega)
    have HSN := Lib.hid (show rangeN a (k + 1) = add1 (rangeN a k) (a + k) from rfl)
    by_cases hlt : a + k ≤ b
    · have en : (((a + k : Nat) : Int) / 64).toNat = (a + k) / 64 := by omega
      have c1' := hS.cell hw (i := (a + k) / 64) (by omega)
      have f1' := Lib.frozen_of_heap hS ((a + k) / 64)
      have c1 := c1'
      have f1 := f1'
      rw [← en] at c1 f1
      have h0 : 0 ≤ ((a + k : Nat) : Int) / 64 := by omega
      have h1 : ((a + k : Nat) : Int) / 64 < 4 := by omega
      have ho := or_word hw ((a + k) / 64) (a + k)
      have ha63 := and63 (a + k)
      have hm64 : (a + k) % 64 < 64 := by omega
      have hI : ((a + k : Nat) : Int) ≤ (b : Int) := by omega
      clear en
      generalize rangeN a k = ws at *
      generalize hm : a + k = m at *
      go_wp2
      go_region
      go_wp2
      go_roundw
      case rel => exact ⟨k + 1, by omega, by go_num, by rw [HSN.out]; exact SB.set hS _ _, hB.drew.setCell (Nat.le_refl _) _⟩
      case measure => simp [intOf]; omega
    · have hI : (b : Int) < ((a + k : Nat) : Int) := by omega
      have HRW := Lib.hid (show rangeN a k = rangeW a b by unfold rangeW; congr 1; omega)
      generalize rangeN a k = ws at *
      generalize hm : a + k = m at *
      have g0 := hS.cell hw (i := 0) (by omega)
      have g1 := hS.cell hw (i := 1) (by omega)
      have g2 := hS.cell hw (i := 2) (by omega)
      have g3 := hS.cell hw (i := 3) (by omega)
      have f0 := Lib.frozen_of_heap hS 0
      have f1 := Lib.frozen_of_heap hS 1
      have f2 := Lib.frozen_of_heap hS 2
      have f3 := Lib.frozen_of_heap hS 3
      have HSV := Lib.hid (SV_eq hw)
      have hS4 := hS.again hw
      have hB4 := below_again hB (Nat.le_refl _) (.int .u64 (word ws 0 : Int)) (.int .u64 (word ws 1 : Int)) (.int .u64 (word ws 2 : Int)) (.int .u64 (word ws 3 : Int))
      clear hS
      go_wp2
      generalize (((wr.setCell { block := w.heap.size, off := 0 } (Value.int IntKind.u64 ↑(word ws 0))).setCell { block := w.heap.size, off := 1 } (Value.int IntKind.u64 ↑(word ws 1))).setCell { block := w.heap.size, off := 2 } (Value.int IntKind.u64 ↑(word ws 2))).setCell { block := w.heap.size, off := 3 } (Value.int IntKind.u64 ↑(word ws 3)) = W at *
      have k0 := hS4.cell hw (i := 0) (by omega)
      have k1 := hS4.cell hw (i := 1) (by omega)
      have k2 := hS4.cell hw (i := 2) (by omega)
      have k3 := hS4.cell hw (i := 3) (by omega)
      exact bodyPost_ret (v := SV ws) (by rw [HSV.out]; simp [results, Tryd.results20, go_sem, k0, k1, k2, k3]) rfl ⟨by rw [← HRW.out], hB4⟩
end Go.Proofs.YtmlgbjdohijlnaaDoor.St
