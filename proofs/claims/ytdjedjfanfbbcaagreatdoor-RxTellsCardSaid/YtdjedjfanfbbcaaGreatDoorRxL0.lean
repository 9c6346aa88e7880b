/- Patterns: texts and their reading back: plain facts. -/
import Derived.Test.YtdjedjfanfbbcaaGreatDoorRxArg
import Derived.Test.YtdjedjfanfbbcaaGreatDoorRxFo
import Derived.Test.YtdjedjfanfbbcaaGreatDoorRxGr
namespace Go.Proofs.YtdjedjfanfbbcaaGreatDoor.Rx
open Go.RowKit Go.Shelf
open Tr
open Go.Proofs.YtdjedjfanfbbcaaGreatDoor.St (Wf word zeroW Tab SV SV_eq)
set_option linter.unusedVariables false
set_option linter.unusedSimpArgs false
/-- What is told is not too long. -/
theorem textL_len (l : List Nd) : (textL l).length ≤ 100000 := by
  unfold textL
  cases hp : patOf l with
  | none => exact Nat.zero_le _
  | some t =>
    obtain ⟨rfl, hg⟩ := patOf_some hp
    have := text_len _ t hg.1
    have := hg.2.1
    show (textT t).length ≤ _
    omega
theorem may_some {l : List Nd} (h : mayL l = true) : ∃ t, patOf l = some t ∧ l = t.nodes 0 ∧ Good t ∧ textL l = textT t := by
  unfold mayL at h
  obtain ⟨t, ht⟩ := Option.isSome_iff_exists.1 h
  obtain ⟨h1, h2⟩ := patOf_some ht
  exact ⟨t, ht, h1, h2, by unfold textL; rw [ht]⟩
theorem may_none {l : List Nd} (h : mayL l = false) : textL l = [] := by
  unfold mayL at h
  have : patOf l = none := by
    cases hp : patOf l with
    | none => rfl
    | some t => rw [hp] at h; cases h
  unfold textL
  rw [this]
theorem parse_back {l : List Nd} (hw : ∀ n ∈ l, Wf n.s) (h : mayL l = true) : parseL (textL l) = some l := by
  obtain ⟨t, _, h1, h2, h3⟩ := may_some h
  rw [h3]
  rw [parse_text h2 (sets_nodes t 0 (by rw [← h1]; exact hw)), h1]
end Go.Proofs.YtdjedjfanfbbcaaGreatDoor.Rx
