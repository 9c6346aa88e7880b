/- Texts that tell bytes: plain facts. -/
import Derived.Test.YtpgglnibfojdgaaGreatDoorRpPlain
namespace Go.Proofs.YtpgglnibfojdgaaGreatDoor.Tr
set_option linter.unusedVariables false
set_option linter.unusedSimpArgs false
/-- Which bytes a text tells, from its place k on; or where what is wrong begins. -/
def prs (l : List UInt8) (k : Nat) (out : List UInt8) : List UInt8 × Nat × Int :=
  match l with
  | [] => (out, 0, 0)
  | c :: r =>
    if c = 10 then ([], k, 100)
    else if c = 92 then
      (match r with
      | [] => ([], k, 100)
      | d :: r' => if d = 110 then prs r' (k + 2) (out ++ [10]) else if d = 92 ∨ d = 47 then prs r' (k + 2) (out ++ [d]) else ([], k, 100))
    else prs r (k + 1) (out ++ [c])
termination_by l.length
theorem prs_nil (k : Nat) (out : List UInt8) : prs [] k out = (out, 0, 0) := by rw [prs.eq_def]
theorem prs_ten (r : List UInt8) (k : Nat) (out : List UInt8) : prs (10 :: r) k out = ([], k, 100) := by rw [prs.eq_def]; simp
theorem prs_end (k : Nat) (out : List UInt8) : prs [92] k out = ([], k, 100) := by rw [prs.eq_def]; simp
theorem prs_n (r : List UInt8) (k : Nat) (out : List UInt8) : prs (92 :: 110 :: r) k out = prs r (k + 2) (out ++ [10]) := by rw [prs.eq_def]; simp
theorem prs_esc (d : UInt8) (h : d = 92 ∨ d = 47) (r : List UInt8) (k : Nat) (out : List UInt8) : prs (92 :: d :: r) k out = prs r (k + 2) (out ++ [d]) := by
  rw [prs.eq_def]
  have hn : d ≠ 110 := by rcases h with rfl | rfl <;> decide
  simp [hn, h]
theorem prs_bad (d : UInt8) (h1 : d ≠ 110) (h2 : d ≠ 92) (h3 : d ≠ 47) (r : List UInt8) (k : Nat) (out : List UInt8) : prs (92 :: d :: r) k out = ([], k, 100) := by
  rw [prs.eq_def]; simp [h1, h2, h3]
theorem prs_one (c : UInt8) (h1 : c ≠ 10) (h2 : c ≠ 92) (r : List UInt8) (k : Nat) (out : List UInt8) : prs (c :: r) k out = prs r (k + 1) (out ++ [c]) := by
  rw [prs.eq_def]; simp [h1, h2]
def pr1 (c : UInt8) : List UInt8 := if c = 10 then [92, 110] else if c = 92 then [92, 92] else [c]
def printL (l : List UInt8) : List UInt8 := l.flatMap pr1
theorem prs_print (s : List UInt8) : ∀ k out, prs (printL s) k out = (out ++ s, 0, 0) := by
  induction s with
  | nil => intro k out; simp [printL, prs_nil]
  | cons c r ih =>
    intro k out
    have e : printL (c :: r) = pr1 c ++ printL r := rfl
    rw [e]
    unfold pr1
    by_cases h1 : c = 10
    · subst h1
      rw [if_pos rfl]
      simp only [List.cons_append, List.nil_append]
      rw [prs_n, ih]; simp
    · rw [if_neg h1]
      by_cases h2 : c = 92
      · subst h2
        rw [if_pos rfl]
        simp only [List.cons_append, List.nil_append]
        rw [prs_esc 92 (Or.inl rfl), ih]; simp
      · rw [if_neg h2]
        simp only [List.cons_append, List.nil_append]
        rw [prs_one c h1 h2, ih]; simp
theorem print_len (s : List UInt8) : (printL s).length ≤ 2 * s.length := by
  induction s with
  | nil => simp [printL]
  | cons c r ih =>
    have e : printL (c :: r) = pr1 c ++ printL r := rfl
    have h : (pr1 c).length ≤ 2 := by
      unfold pr1
      by_cases h1 : c = 10
      · rw [if_pos h1]; simp
      · rw [if_neg h1]
        by_cases h2 : c = 92
        · rw [if_pos h2]; simp
        · rw [if_neg h2]; simp
    rw [e, List.length_append, List.length_cons]; omega
theorem print_snoc {s : List UInt8} {k : Nat} (h : k < s.length) : printL (s.take (k + 1)) = printL (s.take k) ++ pr1 s[k] := by
  rw [List.take_succ_eq_append_getElem h]
  unfold printL
  rw [List.flatMap_append]; simp
def t1 : Rp.Two := ⟨10, 92, 92, 110, 92, 92, by decide⟩
theorem rep_print (l : List UInt8) : t1.rep l = printL l := by
  induction l with
  | nil => rfl
  | cons c r ih =>
    have e : printL (c :: r) = pr1 c ++ printL r := rfl
    rw [e]
    simp only [Rp.Two.rep, ih]
    congr 1
/-- What stands at a place. -/
theorem prs_at {l : List UInt8} {k : Nat} (out : List UInt8) (h : k < l.length) : prs (l.drop k) k out = prs (l[k] :: l.drop (k + 1)) k out := by
  rw [List.drop_eq_getElem_cons h]
theorem prs_at2 {l : List UInt8} {k : Nat} (out : List UInt8) (h : k + 1 < l.length) : prs (l.drop k) k out = prs (l[k] :: l[k + 1] :: l.drop (k + 2)) k out := by
  rw [List.drop_eq_getElem_cons (by omega : k < l.length), List.drop_eq_getElem_cons h]
end Go.Proofs.YtpgglnibfojdgaaGreatDoor.Tr
