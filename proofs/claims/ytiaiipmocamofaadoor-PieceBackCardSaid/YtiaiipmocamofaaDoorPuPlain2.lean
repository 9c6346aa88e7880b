/- What is given is taken, what is untold is told: plain. -/
import Derived.Test.YtiaiipmocamofaaDoorPcPlain2
import Derived.Test.YtiaiipmocamofaaDoorPuPlain
namespace Go.Proofs.YtiaiipmocamofaaDoor.Pc
set_option linter.unusedVariables false
set_option linter.unusedSimpArgs false
theorem give_back (l rest : List UInt8) (d : UInt8) : giveL l d = ([], 1) ∨ ∃ u, giveL l d = (u, 0) ∧ u.length ≤ 2 * l.length ∧ takeL (u ++ [d] ++ rest) 0 d = (l, u.length + 1, 0) := by
  rcases give_cases l d with h | ⟨u, hg, ht⟩
  · exact Or.inl h
  · refine Or.inr ⟨u, hg, ?_, ?_⟩
    · have := give_len l d
      rw [hg] at this
      exact this
    · rcases take_ends (u ++ [d]) d with h | ⟨t, n, hn, _, _, _, hr⟩
      · rw [ht] at h
        have := congrArg (fun z => z.2.2) h
        simp at this
      · rw [ht] at hn
        have e1 : t = l := (congrArg (fun z => z.1) hn).symm
        have e2 : n = u.length + 1 := (congrArg (fun z => z.2.1) hn).symm
        have := hr rest
        rw [List.take_of_length_le (by rw [e2]; simp)] at this
        rw [this, e1, e2]
theorem untext_back (l rest : List UInt8) : untextL l = ([], 1) ∨ ∃ u, untextL l = (u, 0) ∧ u.length ≤ 2 * l.length ∧ textL (u ++ [10] ++ rest) 0 = (l, u.length + 1, 0) ∧ textL u 0 = (l, u.length, 0) := by
  unfold untextL
  cases h : Go.Lib.hasSuffix l [10]
  · exact Or.inl rfl
  · obtain ⟨t, rfl⟩ := (suffix_ten l).1 h
    have e : (t ++ [10]).take ((t ++ [10]).length - 1) = t := by simp
    rw [e]
    obtain ⟨h1, h2⟩ := text_un rest t
    refine Or.inr ⟨unL t, rfl, ?_, ?_, h2⟩
    · have := unL_len t
      simp; omega
    · simpa using h1
end Go.Proofs.YtiaiipmocamofaaDoor.Pc
