/- Sets of bytes: walks of Has, Range, Not. -/
import Derived.Test.YtdjedjfanfbbcaaDoorSt1
namespace Go.Proofs.YtdjedjfanfbbcaaDoor.St
open Go.RowKit
set_option linter.unusedVariables false
set_option linter.unusedSimpArgs false

theorem has_bits {ws : List Nat} (h : Wf ws) (b : Nat) : (bits BinOp.and IntKind.u64 ((word ws (b / 64) : Int) / 2 ^ (b % 64)) 1 == 1) = mem ws b := by
  have hx := word_lt h (b / 64)
  generalize hxe : word ws (b / 64) = x at *
  have e1 : ((x : Int) / 2 ^ (b % 64)) = ((x / 2 ^ (b % 64) : Nat) : Int) := by simp
  have h2 : x / 2 ^ (b % 64) < 18446744073709551616 := Nat.lt_of_le_of_lt (Nat.div_le_self _ _) hx
  rw [e1, show (1 : Int) = ((1 : Nat) : Int) from rfl, u64_and_nat _ _ h2 (by decide), nat_mask1]
  unfold mem
  rw [Nat.testBit_eq_decide_div_mod_eq]
  rw [show word ws (b / 64) = x from hxe]
  generalize x / 2 ^ (b % 64) = t
  rw [Bool.eq_iff_iff]
  simp only [beq_iff_eq, decide_eq_true_eq]
  omega
theorem i64_and63 (n : Int) : bits .and .i64 n 63 = n % 64 := by
  have h63 : (BitVec.ofInt 64 63).toNat = 2 ^ 6 - 1 := by decide
  have key : (BitVec.ofInt 64 n &&& BitVec.ofInt 64 63).toNat = (n % ((2 ^ 64 : Nat) : Int)).toNat % 2 ^ 6 := by
    rw [BitVec.toNat_and, BitVec.toNat_ofInt, h63, Nat.and_two_pow_sub_one_eq_mod]
  show IntKind.i64.wrap ((BitVec.ofInt 64 n &&& BitVec.ofInt 64 63).toNat : Nat) = n % 64
  rw [key, IntKind.wrap_i64]
  omega
theorem and63 (m : Nat) : bits BinOp.and IntKind.i64 (m : Int) 63 = ((m % 64 : Nat) : Int) := by
  rw [i64_and63]; omega

end Go.Proofs.YtdjedjfanfbbcaaDoor.St
