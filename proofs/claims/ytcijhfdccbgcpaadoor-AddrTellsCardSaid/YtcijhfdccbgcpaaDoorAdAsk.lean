/- Lines that are meant: plain functions. -/
import Derived.Test.YtcijhfdccbgcpaaDoorAdPlain
namespace Go.Proofs.YtcijhfdccbgcpaaDoor.Ad
set_option linter.unusedVariables false
set_option linter.unusedSimpArgs false
/-- A line: its number, whether it is the last one, what is found in it. -/
structure L3 where
  n : Int
  last : Bool
  has : List Bool
def hits (a : A3) (l : L3) : Bool :=
  if a.k = 0 then true else if a.k = 1 then decide (l.n = a.n) else if a.k = 2 then l.last
  else if a.k = 3 then decide (l.n = a.n) || decide (0 < a.m ∧ a.n < l.n ∧ (l.n - a.n) % a.m = 0)
  else if a.k = 4 then decide (0 ≤ a.n) && (l.has[a.n.toNat]?).getD false
  else false
structure S2 where
  op : Bool
  to : Int
  deriving DecidableEq, Repr
/-- The line up to which a range goes that begins at one. -/
def toL (b : A3) (n : Int) : Int :=
  if b.k = 1 then b.n else if b.k = 5 then n + b.n else if b.k = 6 then (if 0 < b.n ∧ n % b.n ≠ 0 then n + b.n - n % b.n else n) else 0
def begun (b : A3) (l : L3) : S2 :=
  if b.k = 2 then ⟨!l.last, 0⟩ else if b.k = 4 then ⟨true, 0⟩ else if l.n < toL b l.n then ⟨true, toL b l.n⟩ else ⟨false, 0⟩
def over (b : A3) (s : S2) (l : L3) : Bool :=
  if b.k = 1 then decide (l.n = s.to) else if b.k = 2 then l.last else if b.k = 4 then hits b l else decide (s.to ≤ l.n)
def first (a : A3) (s : S2) (l : L3) : S2 := if s.op = false ∧ a.k = 1 ∧ a.n = 0 ∧ l.n = 1 then ⟨true, 0⟩ else s
def askL (a b : A3) (s : S2) (l : L3) : Bool × S2 :=
  if b.k = 0 then (hits a l, s)
  else if (first a s l).op = false then (if hits a l then (true, begun b l) else (false, first a s l))
  else if b.k = 1 ∧ (first a s l).to < l.n then (hits a l, ⟨false, 0⟩)
  else if over b (first a s l) l then (true, ⟨false, 0⟩) else (true, first a s l)
def askN (a b : A3) (n : Bool) (s : S2) (l : L3) : Bool × S2 := ((askL a b s l).1 != n, (askL a b s l).2)

/-! ### From one number to another one -/
def spanS (a to i : Int) : S2 := if a < i ∧ i ≤ to then ⟨true, to⟩ else ⟨false, 0⟩
theorem ask_span (a to i : Int) (ha : 1 ≤ a) (hi : 1 ≤ i) (last : Bool) (has : List Bool) :
    askL ⟨1, a, 0⟩ ⟨1, to, 0⟩ (spanS a to i) ⟨i, last, has⟩ = (decide (i = a) || decide (a < i ∧ i ≤ to), spanS a to (i + 1)) := by
  have h1 : first ⟨1, a, 0⟩ (spanS a to i) ⟨i, last, has⟩ = spanS a to i := by
    unfold first; rw [if_neg (by rintro ⟨_, _, h, _⟩; simp only at h; omega)]
  unfold askL
  rw [h1, if_neg (by simp)]
  unfold spanS
  by_cases hc : a < i ∧ i ≤ to
  · rw [if_pos hc]
    simp only [Bool.true_eq_false, if_false]
    rw [if_neg (by omega)]
    have ho : over ⟨1, to, 0⟩ ⟨true, to⟩ ⟨i, last, has⟩ = decide (i = to) := by unfold over; simp
    rw [ho]
    by_cases h2 : i = to
    · rw [if_pos (by simpa using h2), if_neg (by omega)]
      simp [hc]
    · rw [if_neg (by simpa using h2), if_pos (by omega)]
      simp [hc]
  · rw [if_neg hc]
    simp only [if_true]
    have hh : hits ⟨1, a, 0⟩ ⟨i, last, has⟩ = decide (i = a) := by unfold hits; simp
    rw [hh]
    by_cases h2 : i = a
    · rw [if_pos (by simpa using h2)]
      unfold begun toL
      simp only [if_neg (by decide : ¬ (1 : Int) = 2), if_neg (by decide : ¬ (1 : Int) = 4), if_true]
      by_cases h3 : i < to
      · rw [if_pos h3, if_pos (by omega)]; simp [h2]
      · rw [if_neg h3, if_neg (by omega)]; simp [h2]
    · rw [if_neg (by simpa using h2), if_neg (by omega)]
      simp [h2]
      omega

/-! ### To the last one -/
def lastS (a i : Int) : S2 := ⟨decide (a < i), 0⟩
theorem ask_last (a i n : Int) (ha : 1 ≤ a) (hi : 1 ≤ i) (hn : i ≤ n) (has : List Bool) :
    askL ⟨1, a, 0⟩ ⟨2, 0, 0⟩ (lastS a i) ⟨i, decide (i = n), has⟩ = (decide (a ≤ i), ⟨decide (a ≤ i ∧ i < n), 0⟩) := by
  have h1 : first ⟨1, a, 0⟩ (lastS a i) ⟨i, decide (i = n), has⟩ = lastS a i := by
    unfold first; rw [if_neg (by rintro ⟨_, _, h, _⟩; simp only at h; omega)]
  unfold askL
  rw [h1, if_neg (by simp)]
  unfold lastS
  by_cases hc : a < i
  · rw [if_neg (by simpa using hc), if_neg (by simp)]
    have ho : over ⟨2, 0, 0⟩ ⟨decide (a < i), 0⟩ ⟨i, decide (i = n), has⟩ = decide (i = n) := by unfold over; simp
    rw [ho]
    by_cases h2 : i = n
    · rw [if_pos (by simpa using h2), decide_eq_true (by omega : a ≤ i), decide_eq_false (by omega : ¬ (a ≤ i ∧ i < n))]
    · rw [if_neg (by simpa using h2), decide_eq_true (by omega : a ≤ i), decide_eq_true (by omega : a ≤ i ∧ i < n), decide_eq_true hc]
  · rw [if_pos (by simpa using hc)]
    have hh : hits ⟨1, a, 0⟩ ⟨i, decide (i = n), has⟩ = decide (i = a) := by unfold hits; simp
    rw [hh]
    by_cases h2 : i = a
    · rw [if_pos (by simpa using h2), decide_eq_true (by omega : a ≤ i)]
      unfold begun
      rw [if_pos rfl]
      have e : (!decide (i = n)) = decide (a ≤ i ∧ i < n) := by
        by_cases h3 : i = n
        · rw [decide_eq_true h3, decide_eq_false (by omega : ¬ (a ≤ i ∧ i < n))]; rfl
        · rw [decide_eq_false h3, decide_eq_true (by omega : a ≤ i ∧ i < n)]; rfl
      rw [← e]
    · rw [if_neg (by simpa using h2), decide_eq_false (by omega : ¬ a ≤ i), decide_eq_false (by omega : ¬ (a ≤ i ∧ i < n)), decide_eq_false hc]

/-! ### So many behind it -/
def plusS (left i : Int) : S2 := if 0 < left then ⟨true, i - 1 + left⟩ else ⟨false, 0⟩
theorem ask_plus (k m left i : Int) (hk : 1 ≤ k) (hm : 0 ≤ m) (hl : 0 ≤ left) (hi : 1 ≤ i) (last : Bool) (has : List Bool) :
    askL ⟨3, 0, k⟩ ⟨5, m, 0⟩ (plusS left i) ⟨i, last, has⟩ =
      if 0 < left then (true, plusS (left - 1) (i + 1)) else if i % k = 0 then (true, plusS m (i + 1)) else (false, plusS 0 (i + 1)) := by
  have h1 : first ⟨3, 0, k⟩ (plusS left i) ⟨i, last, has⟩ = plusS left i := by
    unfold first; rw [if_neg (by rintro ⟨_, h, _⟩; simp at h)]
  unfold askL
  rw [h1, if_neg (by simp)]
  unfold plusS
  by_cases hc : 0 < left
  · rw [if_pos hc, if_pos hc]
    simp only [Bool.true_eq_false, if_false]
    rw [if_neg (by simp)]
    have ho : over ⟨5, m, 0⟩ ⟨true, i - 1 + left⟩ ⟨i, last, has⟩ = decide (i - 1 + left ≤ i) := by unfold over; simp
    rw [ho]
    by_cases h2 : left = 1
    · rw [if_pos (by simp; omega), if_neg (by omega)]
    · rw [if_neg (by simp; omega), if_pos (by omega)]
      congr 2; omega
  · rw [if_neg hc, if_neg hc]
    simp only [if_true]
    have hh : hits ⟨3, 0, k⟩ ⟨i, last, has⟩ = decide (i % k = 0) := by
      unfold hits
      have n0 : ¬ i = 0 := by omega
      simp only [if_neg (by decide : ¬ (3 : Int) = 0), if_neg (by decide : ¬ (3 : Int) = 1), if_neg (by decide : ¬ (3 : Int) = 2), if_true]
      rw [decide_eq_false n0, Bool.false_or, Int.sub_zero]
      by_cases h3 : i % k = 0
      · rw [decide_eq_true h3, decide_eq_true ⟨by omega, by omega, h3⟩]
      · rw [decide_eq_false h3, decide_eq_false (fun q => h3 q.2.2)]
    rw [hh]
    by_cases h2 : i % k = 0
    · rw [if_pos (by simpa using h2), if_pos h2]
      unfold begun toL
      simp only [if_neg (by decide : ¬ (5 : Int) = 2), if_neg (by decide : ¬ (5 : Int) = 4), if_neg (by decide : ¬ (5 : Int) = 1), if_true]
      by_cases h3 : 0 < m
      · rw [if_pos (by omega), if_pos h3]
        congr 2; omega
      · rw [if_neg (by omega), if_neg h3]
    · rw [if_neg (by simpa using h2), if_neg h2, if_neg (by omega)]

/-! ### To a pattern -/
def zeroS (i : Nat) (ov : Bool) : S2 := if i = 0 then ⟨false, 0⟩ else ⟨!ov, 0⟩
theorem ask_zero (from_ : Bool) (i : Nat) (ov h : Bool) (last : Bool) (h0 : i = 0 → ov = false) :
    askL ⟨1, if from_ then 1 else 0, 0⟩ ⟨4, 0, 0⟩ (zeroS i ov) ⟨(i : Int) + 1, last, [h]⟩ = (!ov, zeroS (i + 1) (ov || (h && (decide (0 < i) || !from_)))) := by
  unfold askL
  rw [if_neg (by simp)]
  have hb : hits ⟨4, 0, 0⟩ ⟨(i : Int) + 1, last, [h]⟩ = h := by unfold hits; simp
  by_cases hi : i = 0
  · subst hi
    rw [h0 rfl]
    cases from_
    · have e : first ⟨1, 0, 0⟩ (zeroS 0 false) ⟨((0 : Nat) : Int) + 1, last, [h]⟩ = ⟨true, 0⟩ := by unfold first zeroS; simp
      simp only [Bool.false_eq_true, if_false]
      rw [e]
      simp only [Bool.true_eq_false, if_false]
      rw [if_neg (by simp)]
      have ho : over ⟨4, 0, 0⟩ ⟨true, 0⟩ ⟨((0 : Nat) : Int) + 1, last, [h]⟩ = h := by unfold over; simp; exact hb
      rw [ho]
      cases h <;> simp [zeroS]
    · have e : first ⟨1, 1, 0⟩ (zeroS 0 false) ⟨((0 : Nat) : Int) + 1, last, [h]⟩ = ⟨false, 0⟩ := by unfold first zeroS; simp
      simp only [if_true]
      rw [e]
      have hh : hits ⟨1, 1, 0⟩ ⟨((0 : Nat) : Int) + 1, last, [h]⟩ = true := by unfold hits; simp
      simp only [if_true, hh]
      unfold begun zeroS
      simp
  · have e : first ⟨1, if from_ then 1 else 0, 0⟩ (zeroS i ov) ⟨(i : Int) + 1, last, [h]⟩ = zeroS i ov := by
      unfold first
      rw [if_neg (by rintro ⟨_, _, _, q⟩; simp only at q; omega)]
    rw [e]
    have hz : zeroS i ov = ⟨!ov, 0⟩ := by unfold zeroS; rw [if_neg hi]
    rw [hz]
    have hp : decide (0 < i) = true := by simpa using (by omega : 0 < i)
    cases ov
    · simp only [Bool.not_false, Bool.true_eq_false, if_false]
      rw [if_neg (by simp)]
      have ho : over ⟨4, 0, 0⟩ ⟨true, 0⟩ ⟨(i : Int) + 1, last, [h]⟩ = h := by unfold over; simp; exact hb
      rw [ho, hp]
      cases h <;> simp [zeroS]
    · simp only [Bool.not_true, if_true]
      have hh : hits ⟨1, if from_ then 1 else 0, 0⟩ ⟨(i : Int) + 1, last, [h]⟩ = false := by
        unfold hits
        simp only [if_neg (by decide : ¬ (1 : Int) = 0), if_true]
        cases from_ <;> simp <;> omega
      rw [hh]
      simp [zeroS]
end Go.Proofs.YtcijhfdccbgcpaaDoor.Ad
