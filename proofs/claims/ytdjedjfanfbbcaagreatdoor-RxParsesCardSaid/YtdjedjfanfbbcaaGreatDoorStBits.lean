/- The bits of a word, rising: plain facts. -/
import Derived.Test.YtdjedjfanfbbcaaGreatDoorStPlain
import Derived.Lib.TrailingZeros
namespace Go.Proofs.YtdjedjfanfbbcaaGreatDoor.St
set_option linter.unusedVariables false
set_option linter.unusedSimpArgs false
def bl (x : Nat) : List Nat := (List.range 64).filter fun j => x.testBit j
theorem bl_zero : bl 0 = [] := by
  unfold bl; rw [List.filter_eq_nil_iff]; intro j _; simp
theorem clear_low {x k m : Nat} (h : x = 2 ^ k * (2 * m + 1)) : ∀ j, (x &&& (x - 1)).testBit j = (x.testBit j && !(j == k)) ∧ (j < k → x.testBit j = false) ∧ x.testBit k = true := by
  intro j
  have hp := Nat.two_pow_pos k
  have h1 : x - 1 = 2 ^ k * (2 * m) + (2 ^ k - 1) := by rw [h, Nat.mul_add]; omega
  have t2 : ∀ i, (2 * m + 1).testBit i = (i == 0 || (2 * m).testBit i) := by
    intro i
    cases i with
    | zero => simp
    | succ i => simp only [Nat.testBit_succ]; rw [show (2 * m + 1) / 2 = m from by omega, show 2 * m / 2 = m from by omega]; simp
  have hx : ∀ j, x.testBit j = (decide (j ≥ k) && (2 * m + 1).testBit (j - k)) := fun j => by rw [h, Nat.testBit_two_pow_mul]
  refine ⟨?_, ?_, ?_⟩
  · rw [Nat.testBit_and, h1, Nat.testBit_two_pow_mul_add _ (by omega), hx j, t2]
    by_cases hj : j < k
    · rw [if_pos hj]; simp [Nat.not_le.2 hj]
    · rw [if_neg hj]
      have e : (j - k == 0) = (j == k) := by rw [Bool.eq_iff_iff]; simp; omega
      rw [e]
      by_cases hjk : j = k
      · subst hjk; simp
      · have : (j == k) = false := by simp [hjk]
        simp [this, Nat.not_lt.1 hj]
  · intro hj; rw [hx j]; simp [Nat.not_le.2 hj]
  · rw [hx k]; simp
theorem bl_step {x : Nat} (h : x < 2 ^ 64) (h0 : x ≠ 0) : bl x = Lib.ctz 64 x :: bl (x &&& (x - 1)) ∧ Lib.ctz 64 x < 64 := by
  obtain ⟨m, hm, hk⟩ := Lib.ctzFrom_spec 64 x (by omega) h
  have hc : Lib.ctz 64 x = Lib.ctzFrom 64 x := by unfold Lib.ctz; rw [if_neg h0]
  rw [hc]
  generalize Lib.ctzFrom 64 x = k at *
  refine ⟨?_, hk⟩
  have hcl := clear_low hm
  unfold bl
  rw [show 64 = k + (1 + (63 - k)) from by omega, List.range_add, List.range_add]
  simp only [List.filter_append, List.map_append, List.filter_map]
  have z1 : (List.range k).filter (fun j => x.testBit j) = [] := by
    rw [List.filter_eq_nil_iff]; intro j hj; rw [(hcl j).2.1 (List.mem_range.1 hj)]; simp
  have z2 : (List.range k).filter (fun j => (x &&& (x - 1)).testBit j) = [] := by
    rw [List.filter_eq_nil_iff]; intro j hj; rw [(hcl j).1, (hcl j).2.1 (List.mem_range.1 hj)]; simp
  rw [z1, z2]
  have e1 : (List.range 1) = [0] := rfl
  rw [e1]
  simp only [List.nil_append, List.filter_cons, List.filter_nil, Function.comp_def, List.map_cons, List.map_nil, Nat.add_zero, (hcl k).2.2, (hcl k).1]
  simp only [Bool.and_eq_true, beq_self_eq_true, Bool.not_true, Bool.and_false, if_true, List.map_cons, List.map_nil, List.cons_append, List.nil_append, Nat.add_zero]
  rw [if_neg (by simp)]
  simp only [List.map_nil, List.nil_append]
  congr 2
  congr 1
  apply List.filter_congr
  intro j _
  rw [(hcl _).1]
  have : (k + (1 + j) == k) = false := by simp
  rw [this]; simp
theorem clear_lt {x : Nat} (h : x < 2 ^ 64) : x &&& (x - 1) < 2 ^ 64 := Nat.lt_of_le_of_lt Nat.and_le_left h
/-- The bytes of n words from word k on. -/
def tl (ws : List Nat) (k : Nat) : Nat → List Nat
  | 0 => []
  | n + 1 => (bl (word ws k)).map (k * 64 + ·) ++ tl ws (k + 1) n
theorem tl_spec (ws : List Nat) : ∀ n k, tl ws k n = ((List.range (n * 64)).map (k * 64 + ·)).filter (mem ws)
  | 0, k => rfl
  | n + 1, k => by
    rw [tl, tl_spec ws n (k + 1), show (n + 1) * 64 = 64 + n * 64 from by omega, List.range_add, List.map_append, List.filter_append, List.map_map]
    congr 1
    · rw [List.filter_map]
      unfold bl
      congr 1
      apply List.filter_congr
      intro j hj
      exact (mem_bit (List.mem_range.1 hj)).symm
    · congr 2
      funext j; simp; omega
theorem tl_four (ws : List Nat) : tl ws 0 4 = bytesN ws := by
  rw [tl_spec]; unfold bytesN
  rw [show (fun x => 0 * 64 + x) = (id : Nat → Nat) from by funext x; simp, List.map_id, show 4 * 64 = 256 from rfl]
theorem bytesN_lt {ws : List Nat} {b : Nat} (h : b ∈ bytesN ws) : b < 256 := by
  unfold bytesN at h; exact List.mem_range.1 (List.mem_filter.1 h).1
theorem bytesN_len (ws : List Nat) : (bytesN ws).length ≤ 256 := by
  unfold bytesN; exact Nat.le_trans (List.length_filter_le _ _) (by simp)
/-- The bytes of a set, as a text. -/
def bytesL (ws : List Nat) : List UInt8 := (bytesN ws).map UInt8.ofNat
theorem bytesL_len (ws : List Nat) : (bytesL ws).length = (bytesN ws).length := by unfold bytesL; simp
theorem bytesL_of {ws : List Nat} {l : List UInt8} (h : l.map UInt8.toNat = bytesN ws) : l = bytesL ws := by
  unfold bytesL; rw [← h, List.map_map]
  symm
  apply List.map_id''
  intro x; simp
theorem ofNat_toNat {n : Nat} (h : n < 256) : (UInt8.ofNat n).toNat = n := by simp [UInt8.toNat_ofNat]; omega
end Go.Proofs.YtdjedjfanfbbcaaGreatDoor.St
