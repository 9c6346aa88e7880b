/- Lines of text, and how they are told: plain facts. -/
import Derived.Test.YtiaiipmocamofaaGreatDoorPwPlain
namespace Go.Proofs.YtiaiipmocamofaaGreatDoor.Pc
set_option linter.unusedVariables false
set_option linter.unusedSimpArgs false

/-- The reference's Text from a place on, with what is out. -/
def rtx : List UInt8 → List UInt8 → Option (List UInt8 × Nat)
  | [], out => some (out ++ [10], 0)
  | [c], out => if c = 10 then some (out ++ [10], 1) else if c = 92 then none else some (out ++ [c] ++ [10], 1)
  | c :: e :: r, out =>
    if c = 10 then some (out ++ [10], 1)
    else if c = 92 then (rtx r (out ++ [e])).map fun x => (x.1, x.2 + 2)
    else (rtx (e :: r) (out ++ [c])).map fun x => (x.1, x.2 + 1)
/-- What Text answers, from what its loop comes to at a place. -/
def tin (p k : Nat) (x : Option (List UInt8 × Nat)) : List UInt8 × Nat × Int := match x with
  | none => ([], p, 120)
  | some y => (y.1, k + y.2, 0)
theorem tin_map (p k n : Nat) (x : Option (List UInt8 × Nat)) : tin p k (x.map fun y => (y.1, y.2 + n)) = tin p (k + n) x := by
  cases x
  · rfl
  · simp [tin]; omega
def rtextL (l : List UInt8) (at_ : Int) : List UInt8 × Nat × Int := tin (fromL l.length at_) (fromL l.length at_) (rtx (l.drop (fromL l.length at_)) [])

/-- The program's Text and the reference's. -/
theorem text_rtx : ∀ (n : Nat) (l acc : List UInt8), l.length ≤ n →
    (if Go.Lib.hasPrefix (l.drop (pairsL textStep l acc).1) [92] then none else some ((pairsL textStep l acc).2 ++ [10], if (pairsL textStep l acc).1 < l.length then (pairsL textStep l acc).1 + 1 else (pairsL textStep l acc).1)) = rtx l acc
  | _, [], acc, _ => by simp [pairsL, rtx, Go.Lib.hasPrefix]
  | n + 1, [c], acc, _ => by
    by_cases ha : c = 10
    · subst ha; simp [pairsL, rtx, textStep, hasPrefix_one]
    · by_cases hb : c = 92
      · subst hb; simp [pairsL, rtx, textStep, hasPrefix_one]
      · simp [pairsL, rtx, textStep, hasPrefix_one, ha, hb]
  | n + 1, c :: e :: r, acc, h => by
    by_cases ha : c = 10
    · subst ha; simp [pairsL, rtx, textStep, hasPrefix_one]
    · by_cases hb : c = 92
      · subst hb
        have ih := text_rtx n r (acc ++ [e]) (by simp at h; omega)
        simp only [rtx, if_neg ha, if_true]
        rw [← ih]
        have hs : textStep acc [92, e] = some (acc ++ [e]) := by simp [textStep]
        simp only [pairsL, if_true, hs, List.drop_succ_cons]
        split
        · rfl
        · simp only [List.length_cons, Option.map_some, Option.some.injEq, Prod.mk.injEq, true_and]
          split <;> split <;> omega
      · have ih := text_rtx n (e :: r) (acc ++ [c]) (by simp at h ⊢; omega)
        simp only [rtx, if_neg ha, if_neg hb]
        rw [← ih]
        have hs : textStep acc [c] = some (acc ++ [c]) := by simp [textStep, ha, hb]
        simp only [pairsL, if_neg hb, hs, List.drop_succ_cons]
        split
        · rfl
        · simp only [List.length_cons, Option.map_some, Option.some.injEq, Prod.mk.injEq, true_and]
          split <;> split <;> omega
theorem text_same (l : List UInt8) (at_ : Int) : textL l at_ = rtextL l at_ := by
  unfold rtextL
  rw [← text_rtx _ _ _ (Nat.le_refl _)]
  unfold textL
  simp only
  split <;> rfl
/-- At place k. -/
theorem rtx_at {l out : List UInt8} {k : Nat} (h : k < l.length) :
    (l[k] = 10 → rtx (l.drop k) out = some (out ++ [10], 1)) ∧ (l[k] = 92 → k + 1 = l.length → rtx (l.drop k) out = none) ∧
    (∀ h2 : k + 1 < l.length, l[k] = 92 → rtx (l.drop k) out = (rtx (l.drop (k + 2)) (out ++ [l[k + 1]])).map fun x => (x.1, x.2 + 2)) ∧
    (l[k] ≠ 10 → l[k] ≠ 92 → rtx (l.drop k) out = (rtx (l.drop (k + 1)) (out ++ [l[k]])).map fun x => (x.1, x.2 + 1)) := by
  rw [List.drop_eq_getElem_cons h]
  by_cases h2 : k + 1 < l.length
  · have e2 : l.drop (k + 1) = l[k + 1] :: l.drop (k + 2) := List.drop_eq_getElem_cons h2
    rw [e2]
    refine ⟨fun q => by simp [rtx, q], fun _ q => by omega, fun _ q => by simp [rtx, q], fun q1 q2 => by simp [rtx, q1, q2]⟩
  · have e2 : l.drop (k + 1) = [] := List.drop_of_length_le (by omega)
    rw [e2]
    refine ⟨fun q => by simp [rtx, q], fun q _ => by simp [rtx, q], fun q => absurd q h2, fun q1 q2 => by simp [rtx, q1, q2]⟩

/-! ### Untext -/
def esc (c : UInt8) : Bool := c == 92 || c == 10
/-- What the replacer makes of a text. -/
def repL : List UInt8 → List UInt8
  | [] => []
  | c :: r => (if esc c then [92, c] else [c]) ++ repL r
theorem repL_append (a b : List UInt8) : repL (a ++ b) = repL a ++ repL b := by
  induction a with
  | nil => rfl
  | cons c r ih => simp [repL, ih]
theorem repL_len (l : List UInt8) : (repL l).length = l.length + (l.countP esc) := by
  induction l with
  | nil => rfl
  | cons c r ih =>
    cases h : esc c
    · simp [repL, ih, h]; omega
    · simp [repL, ih, h]; omega
theorem repL_none {l : List UInt8} (h : l.countP esc = 0) : repL l = l := by
  induction l with
  | nil => rfl
  | cons c r ih =>
    rw [List.countP_cons] at h
    have h1 : esc c = false := by cases hc : esc c <;> simp_all
    have h2 : r.countP esc = 0 := by omega
    simp [repL, h1, ih h2]
def head (l : List UInt8) : Bool := match l with | [] => false | c :: _ => isB c
theorem trimLeft_head (l : List UInt8) : (l = Lib.trimLeftS l blanks) ↔ head l = false := by
  unfold Lib.trimLeftS
  rw [show (fun x => blanks.contains x) = isB from rfl]
  cases l with
  | nil => simp [head]
  | cons c r =>
    cases h : isB c
    · simp [head, List.dropWhile_cons, h]
    · simp only [head, h, List.dropWhile_cons, if_true, Bool.true_eq_false, iff_false]
      intro e
      have h1 := (List.dropWhile_suffix isB (l := r)).length_le
      have h2 := congrArg List.length e
      simp only [List.length_cons] at h2
      omega
theorem rep_head (l : List UInt8) : head (repL l) = head l := by
  cases l with
  | nil => rfl
  | cons c r =>
    cases h : esc c
    · simp [repL, h, head]
    · have hc : isB c = false := by
        unfold esc at h
        rw [Bool.or_eq_true, beq_iff_eq, beq_iff_eq] at h
        rcases h with h | h <;> subst h <;> decide
      simp only [repL, h, if_true, head, List.cons_append, hc]
      decide
/-- What Untext makes of the lines ahead of the last newline. -/
def unL (t : List UInt8) : List UInt8 := if head t then 92 :: repL t else repL t
def untextL (l : List UInt8) : List UInt8 × Int := if Go.Lib.hasSuffix l [10] then (unL (l.take (l.length - 1)), 0) else ([], 1)
theorem unL_len (t : List UInt8) : (unL t).length ≤ 2 * t.length := by
  unfold unL
  have h1 := repL_len t
  have h2 := List.countP_le_length (p := esc) (l := t)
  split
  · rename_i h
    match t, h with
    | c :: r, h =>
      have h3 : esc c = false := by
        cases hc : esc c
        · rfl
        · exfalso
          have h' : isB c = true := h
          unfold esc at hc
          rw [Bool.or_eq_true, beq_iff_eq, beq_iff_eq] at hc
          rcases hc with hc | hc <;> rw [hc] at h' <;> exact absurd h' (by decide)
      have h4 := List.countP_le_length (p := esc) (l := r)
      rw [List.countP_cons_of_neg (by simp [h3])] at h1
      simp only [List.length_cons] at h1 ⊢
      omega
  · omega
/-- What the reference's loop adds at place k. -/
def unAdd (k : Nat) (c : UInt8) : List UInt8 := if esc c || (k == 0 && isB c) then [92, c] else [c]
def unFrom (k : Nat) : List UInt8 → List UInt8
  | [] => []
  | c :: r => unAdd k c ++ unFrom (k + 1) r
theorem unFrom_succ (l : List UInt8) : ∀ k, unFrom (k + 1) l = repL l := by
  induction l with
  | nil => intro k; rfl
  | cons c r ih =>
    intro k
    simp only [unFrom, repL, ih]
    unfold unAdd
    simp
theorem unFrom_zero (l : List UInt8) : unFrom 0 l = unL l := by
  cases l with
  | nil => rfl
  | cons c r =>
    simp only [unFrom, unFrom_succ]
    unfold unAdd unL
    cases h : esc c
    · cases h2 : isB c <;> simp [head, repL, h, h2]
    · have h2 : isB c = false := by
        unfold esc at h
        rw [Bool.or_eq_true, beq_iff_eq, beq_iff_eq] at h
        rcases h with h | h <;> subst h <;> decide
      simp [head, repL, h, h2]
theorem unFrom_take {l : List UInt8} {k : Nat} (h : k < l.length) : unFrom 0 (l.take (k + 1)) = unFrom 0 (l.take k) ++ unAdd k l[k] := by
  have hh : ∀ (a : List UInt8) (j : Nat) (c : UInt8), unFrom j (a ++ [c]) = unFrom j a ++ unAdd (j + a.length) c := by
    intro a
    induction a with
    | nil => intro j c; simp [unFrom]
    | cons x r ih => intro j c; simp [unFrom, ih, Nat.add_assoc, Nat.add_comm 1]
  rw [List.take_succ_eq_append_getElem h, hh]
  simp [Nat.min_eq_left (Nat.le_of_lt h)]
theorem suffix_ten (l : List UInt8) : Go.Lib.hasSuffix l [10] = true ↔ ∃ t, l = t ++ [10] := by
  unfold Go.Lib.hasSuffix
  rw [List.isSuffixOf_iff_suffix]
  constructor
  · rintro ⟨t, h⟩; exact ⟨t, h.symm⟩
  · rintro ⟨t, h⟩; exact ⟨t, h.symm⟩

/-! ### What is untold is told -/
theorem rtx_rep (rest : List UInt8) : ∀ (n : Nat) (t out : List UInt8), t.length ≤ n →
    rtx (repL t ++ 10 :: rest) out = some (out ++ t ++ [10], (repL t).length + 1) ∧ rtx (repL t) out = some (out ++ t ++ [10], (repL t).length)
  | _, [], out, _ => by
    constructor
    · cases rest <;> simp [repL, rtx]
    · simp [repL, rtx]
  | n + 1, c :: r, out, h => by
    obtain ⟨i1, i2⟩ := rtx_rep rest n r (out ++ [c]) (by simpa using h)
    cases hc : esc c
    · have h10 : c ≠ 10 := by rintro rfl; exact absurd hc (by decide)
      have h92 : c ≠ 92 := by rintro rfl; exact absurd hc (by decide)
      have hx : repL (c :: r) = c :: repL r := by simp [repL, hc]
      have gen : ∀ q : List UInt8, q ≠ [] → rtx (c :: q) out = (rtx q (out ++ [c])).map fun x => (x.1, x.2 + 1) := by
        intro q hq
        match q, hq with
        | e :: q, _ => simp [rtx, h10, h92]
      rw [hx]
      constructor
      · rw [List.cons_append, gen _ (by simp), i1]; simp
      · cases hq : repL r with
        | nil =>
          have hr : r = [] := by
            cases r with
            | nil => rfl
            | cons d s => simp only [repL] at hq; split at hq <;> simp at hq
          subst hr
          simp [rtx, h10, h92]
        | cons e q =>
          rw [gen _ (by simp), ← hq, i2]; simp
    · have hx : repL (c :: r) = 92 :: c :: repL r := by simp [repL, hc]
      rw [hx]
      constructor
      · simp only [List.cons_append, rtx]
        rw [if_neg (by decide), if_pos trivial, i1]; simp
      · simp only [rtx]
        rw [if_neg (by decide), if_pos trivial, i2]; simp
theorem rtx_un (rest t : List UInt8) :
    rtx (unL t ++ 10 :: rest) [] = some (t ++ [10], (unL t).length + 1) ∧ rtx (unL t) [] = some (t ++ [10], (unL t).length) := by
  unfold unL
  cases hb : head t
  · simpa using rtx_rep rest _ t [] (Nat.le_refl _)
  · match t, hb with
    | c :: r, hb =>
      have hc : isB c = true := hb
      have he : esc c = false := by
        cases he : esc c
        · rfl
        · exfalso
          unfold esc at he
          rw [Bool.or_eq_true, beq_iff_eq, beq_iff_eq] at he
          rcases he with he | he <;> subst he <;> exact absurd hc (by decide)
      have hx : repL (c :: r) = c :: repL r := by simp [repL, he]
      obtain ⟨i1, i2⟩ := rtx_rep rest _ r [c] (Nat.le_refl _)
      rw [hx]
      simp only [if_true, List.cons_append]
      constructor
      · simp only [rtx]
        rw [if_neg (by decide), if_pos trivial]
        simp only [List.nil_append]
        rw [i1]; simp
      · simp only [rtx]
        rw [if_neg (by decide), if_pos trivial]
        simp only [List.nil_append]
        rw [i2]; simp
theorem text_un (rest t : List UInt8) :
    textL (unL t ++ 10 :: rest) 0 = (t ++ [10], (unL t).length + 1, 0) ∧ textL (unL t) 0 = (t ++ [10], (unL t).length, 0) := by
  have hf : ∀ n, fromL n 0 = 0 := fun n => by unfold fromL; rw [if_neg (by omega)]; rfl
  obtain ⟨h1, h2⟩ := rtx_un rest t
  rw [text_same, text_same]
  unfold rtextL
  rw [hf, hf, List.drop_zero, List.drop_zero, h1, h2]
  simp [tin]
end Go.Proofs.YtiaiipmocamofaaGreatDoor.Pc
