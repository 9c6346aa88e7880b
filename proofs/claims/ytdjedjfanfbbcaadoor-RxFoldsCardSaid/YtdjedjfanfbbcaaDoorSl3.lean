/- Sets of bytes: walks of Not, Or, Size. -/
import Derived.Test.YtdjedjfanfbbcaaDoorSl2
namespace Go.Proofs.YtdjedjfanfbbcaaDoor.St
open Go.RowKit
set_option linter.unusedVariables false
set_option linter.unusedSimpArgs false

theorem two_new (w : World) (a b : Obj) : ((w.alloc a).alloc b).heap[w.heap.size]? = some a ∧ ((w.alloc a).alloc b).heap[w.heap.size + 1]? = some b := by
  have hs : (w.alloc a).heap.size = w.heap.size + 1 := by show (w.heap.push a).size = _; simp
  refine ⟨?_, ?_⟩
  · rw [heap_alloc_old _ _ (by rw [hs]; exact Nat.lt_succ_self _)]; exact heap_alloc_new w a
  · rw [← hs]; exact heap_alloc_new _ b
theorem alloc_le (w : World) (a : Obj) : w.heap.size ≤ (w.alloc a).heap.size := by show w.heap.size ≤ (w.heap.push a).size; simp
theorem not_word (x : Nat) (h : x < 2 ^ 64) : bits BinOp.xor IntKind.u64 (if IntKind.u64.signed = true then -1 else IntKind.u64.max) (x : Int) = ((2 ^ 64 - 1 - x : Nat) : Int) := by
  show bits BinOp.xor IntKind.u64 ((18446744073709551615 : Nat) : Int) (x : Int) = _
  rw [u64_xor_nat _ _ (by decide) h]
  congr 1
  apply Nat.eq_of_testBit_eq
  intro j
  rw [Nat.testBit_xor, show 18446744073709551615 = 2 ^ 64 - 1 from rfl, Nat.testBit_two_pow_sub_one, show 2 ^ 64 - 1 - x = 2 ^ 64 - (x + 1) from by omega, Nat.testBit_two_pow_sub_succ h]
  by_cases hj : j < 64
  · simp [hj]
  · have : x.testBit j = false := Nat.testBit_lt_two_pow (Nat.lt_of_lt_of_le h (Nat.pow_le_pow_right (by decide) (by omega)))
    simp [hj, this]
/-- Four words are put in a block. -/
def put4 (w : World) (b : Nat) (vs : List Nat) : World :=
  ((((w.setCell ⟨b, 0, none⟩ (.int .u64 (word vs 0 : Int))).setCell ⟨b, 1, none⟩ (.int .u64 (word vs 1 : Int))).setCell ⟨b, 2, none⟩ (.int .u64 (word vs 2 : Int))).setCell ⟨b, 3, none⟩ (.int .u64 (word vs 3 : Int)))
theorem put4_eq (w : World) (b : Nat) (vs : List Nat) : ((((w.setCell ⟨b, 0, none⟩ (.int .u64 (word vs 0 : Int))).setCell ⟨b, 1, none⟩ (.int .u64 (word vs 1 : Int))).setCell ⟨b, 2, none⟩ (.int .u64 (word vs 2 : Int))).setCell ⟨b, 3, none⟩ (.int .u64 (word vs 3 : Int))) = put4 w b vs := rfl
theorem SB.put {w : World} {b : Nat} {zs vs : List Nat} (h : SB w b zs) (hz : Wf zs) (hv : Wf vs) : SB (put4 w b vs) b vs := by
  have hq : (((zs.set 0 (word vs 0)).set 1 (word vs 1)).set 2 (word vs 2)).set 3 (word vs 3) = vs := by
    obtain ⟨hl, _⟩ := hz
    obtain ⟨hl', _⟩ := hv
    match zs, vs, hl, hl' with
    | [_, _, _, _], [_, _, _, _], _, _ => rfl
  have e := SB.set (SB.set (SB.set (SB.set h 0 (word vs 0)) 1 (word vs 1)) 2 (word vs 2)) 3 (word vs 3)
  rw [hq] at e
  unfold put4
  exact e
theorem put4_below {B : Nat} {w0 w : World} {b : Nat} (h : Below B w0 w) (hb : B ≤ b) (vs : List Nat) : Below B w0 (put4 w b vs) := below_again h hb _ _ _ _
theorem put4_other {w : World} {b b' : Nat} {o : Obj} (h : w.heap[b']? = some o) (hb : b ≠ b') (vs : List Nat) : (put4 w b vs).heap[b']? = some o := by
  unfold put4
  exact heap_set_other (heap_set_other (heap_set_other (heap_set_other h hb 0 _) hb 1 _) hb 2 _) hb 3 _
end Go.Proofs.YtdjedjfanfbbcaaDoor.St
