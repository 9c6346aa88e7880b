/- Blanks, numbers and words in a text: plain facts. -/
import Derived.Test.YtiaiipmocamofaaGreatDoorPcPlain
import Derived.Lib.ParseIntB
import Derived.Lib.SlTrimSet
namespace Go.Proofs.YtiaiipmocamofaaGreatDoor.Pc
set_option linter.unusedVariables false
set_option linter.unusedSimpArgs false
def blanks : List UInt8 := [32, 9]
def digits : List UInt8 := [48, 49, 50, 51, 52, 53, 54, 55, 56, 57]
def isB (c : UInt8) : Bool := blanks.contains c
def isD (c : UInt8) : Bool := digits.contains c
theorem isB_iff (c : UInt8) : isB c = (c == 32 || c == 9) := by
  show (c == 32 || (c == 9 || false)) = _
  rw [Bool.or_false]
theorem isD_iff (c : UInt8) : isD c = (decide (48 ≤ c.toNat) && decide (c.toNat ≤ 57)) := by
  have h : ∀ n, n < 256 → isD (UInt8.ofNat n) = (decide (48 ≤ (UInt8.ofNat n).toNat) && decide ((UInt8.ofNat n).toNat ≤ 57)) := by decide +kernel
  have := h c.toNat (UInt8.toNat_lt c)
  rwa [UInt8.ofNat_toNat] at this
/-- How many bytes from the front on are of a kind. -/
def run (p : UInt8 → Bool) (l : List UInt8) : Nat := (l.takeWhile p).length
theorem run_le (p : UInt8 → Bool) (l : List UInt8) : run p l ≤ l.length := (List.takeWhile_prefix p).length_le
theorem run_drop (p : UInt8 → Bool) : ∀ l : List UInt8, l.dropWhile p = l.drop (run p l)
  | [] => rfl
  | c :: r => by
    unfold run
    cases h : p c
    · simp [List.takeWhile_cons, List.dropWhile_cons, h]
    · simp only [List.takeWhile_cons, List.dropWhile_cons, h, if_true, List.length_cons, List.drop_succ_cons]
      exact run_drop p r
theorem run_take (p : UInt8 → Bool) : ∀ l : List UInt8, l.takeWhile p = l.take (run p l)
  | [] => rfl
  | c :: r => by
    unfold run
    cases h : p c
    · simp [List.takeWhile_cons, h]
    · simp only [List.takeWhile_cons, h, if_true, List.length_cons, List.take_succ_cons]
      congr 1
      exact run_take p r
/-- At place k of the run. -/
theorem run_at (p : UInt8 → Bool) : ∀ (l : List UInt8) (k : Nat) (hk : k ≤ run p l) (hl : k < l.length), p l[k] = decide (k < run p l)
  | [], _, _, hl => by simp at hl
  | c :: r, k, hk, hl => by
    unfold run at hk ⊢
    cases h : p c
    · rw [List.takeWhile_cons, h] at hk ⊢
      simp at hk
      subst hk
      simp [h]
    · rw [List.takeWhile_cons, h] at hk ⊢
      simp only [if_true, List.length_cons] at hk ⊢
      match k, hk, hl with
      | 0, _, _ => simp [h]
      | k + 1, hk, hl =>
        have := run_at p r k (by unfold run; omega) (by simpa using hl)
        rw [List.getElem_cons_succ, this]
        unfold run
        simp
theorem run_end (p : UInt8 → Bool) {l : List UInt8} {k : Nat} (hk : k ≤ run p l) (hl : ¬ k < l.length) : k = run p l ∧ k = l.length := by
  have := run_le p l
  omega
def blanksL (l : List UInt8) (at_ : Int) : Nat := fromL l.length at_ + run isB (l.drop (fromL l.length at_))
theorem blanks_trim (l : List UInt8) (k : Nat) (hk : k ≤ l.length) : l.length - (Lib.trimLeftS (l.drop k) blanks).length = k + run isB (l.drop k) := by
  unfold Lib.trimLeftS
  have := run_le isB (l.drop k)
  rw [show (fun x => blanks.contains x) = isB from rfl, run_drop, List.length_drop, List.length_drop]
  rw [List.length_drop] at this
  omega
/-- What digits spell. -/
def valN (acc : Nat) (ds : List UInt8) : Nat := ds.foldl (fun n c => n * 10 + (c.toNat - 48)) acc
def satN (acc : Nat) (ds : List UInt8) : Nat := ds.foldl (fun n c => min (n * 10 + (c.toNat - 48)) 1000000000) acc
theorem valN_le (ds : List UInt8) : ∀ acc, acc ≤ valN acc ds := by
  induction ds with
  | nil => intro acc; exact Nat.le_refl _
  | cons c r ih =>
    intro acc
    show acc ≤ valN (acc * 10 + (c.toNat - 48)) r
    exact Nat.le_trans (by omega) (ih _)
theorem satN_val (ds : List UInt8) : ∀ acc, satN (min acc 1000000000) ds = min (valN acc ds) 1000000000 := by
  induction ds with
  | nil => intro acc; rfl
  | cons c r ih =>
    intro acc
    show satN (min (min acc 1000000000 * 10 + (c.toNat - 48)) 1000000000) r = min (valN (acc * 10 + (c.toNat - 48)) r) 1000000000
    rw [← ih]
    congr 1
    omega
theorem parse_digits (ds : List UInt8) : ∀ acc, (∀ c ∈ ds, isD c = true) → acc ≤ 18446744073709551615 →
    (Lib.parseUintM (2 ^ 64 - 1) acc ds = .ok (valN acc ds) ∧ valN acc ds ≤ 18446744073709551615) ∨ (Lib.parseUintM (2 ^ 64 - 1) acc ds = .range ∧ 999999999 < valN acc ds) := by
  induction ds with
  | nil => intro acc _ h; exact Or.inl ⟨rfl, h⟩
  | cons c r ih =>
    intro acc hd h
    have hc := hd c (by simp)
    rw [isD_iff, Bool.and_eq_true, decide_eq_true_eq, decide_eq_true_eq] at hc
    have hv : valN acc (c :: r) = valN (acc * 10 + (c.toNat - 48)) r := rfl
    have hle := valN_le r (acc * 10 + (c.toNat - 48))
    rw [hv]
    unfold Lib.parseUintM
    rw [if_pos hc]
    by_cases h1 : 1844674407370955162 ≤ acc
    · rw [if_pos h1]; exact Or.inr ⟨rfl, by omega⟩
    · rw [if_neg h1]
      by_cases h2 : 2 ^ 64 - 1 < acc * 10 + (c.toNat - 48)
      · rw [if_pos h2]; exact Or.inr ⟨rfl, by omega⟩
      · rw [if_neg h2]
        exact ih _ (fun x hx => hd x (by simp [hx])) (by omega)
def big (v : Nat) : Bool := decide (999999999 < v)
def numL (l : List UInt8) (at_ : Int) : Nat × Nat × Int :=
  let k := fromL l.length at_
  let n := run isD (l.drop k)
  if n = 0 then (0, k, 3) else if big (valN 0 ((l.drop k).take n)) = true then (0, k, 1) else (valN 0 ((l.drop k).take n), k + n, 0)
def inWord (ends : List UInt8) (c : UInt8) : Bool := !(c == 10) && !ends.contains c
def wordL (l : List UInt8) (at_ : Int) (ends : List UInt8) : List UInt8 × Nat :=
  let k := fromL l.length at_
  let n := run (inWord ends) (l.drop k)
  (Lib.trimRightS ((l.drop k).take n) blanks, k + n)
theorem take_all {p : UInt8 → Bool} : ∀ l : List UInt8, ∀ c ∈ l.take (run p l), p c = true
  | [], c, hc => by simp at hc
  | d :: r, c, hc => by
    unfold run at hc
    cases h : p d
    · rw [List.takeWhile_cons, h] at hc
      simp at hc
    · rw [List.takeWhile_cons, h] at hc
      simp only [if_true, List.length_cons, List.take_succ_cons, List.mem_cons] at hc
      rcases hc with rfl | hc
      · exact h
      · exact take_all r c hc
end Go.Proofs.YtiaiipmocamofaaGreatDoor.Pc
