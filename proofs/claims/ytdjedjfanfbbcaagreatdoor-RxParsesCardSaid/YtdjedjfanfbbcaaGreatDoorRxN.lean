/- Patterns: the reader of one node, whole. -/
import Derived.Test.YtdjedjfanfbbcaaGreatDoorRxNx
import Derived.Test.YtdjedjfanfbbcaaGreatDoorRxNy
import Derived.Test.YtdjedjfanfbbcaaGreatDoorRxNg
import Derived.Test.YtdjedjfanfbbcaaGreatDoorRxNw
namespace Go.Proofs.YtdjedjfanfbbcaaGreatDoor.Rx
open Go.RowKit Go.Shelf
set_option linter.unusedVariables false
set_option linter.unusedSimpArgs false
theorem node_any (w0 : World) (b : Nat) (hL : Lay w0) : ∀ left : Nat, left ≤ 1000 → Below1 w0 b left
  | 0, _ => fun r v w h hr => node_out w0 b 0 r.rest r.l r.g r.bad v w h (Or.inr (Or.inr (Or.inl rfl)))
  | left + 1, hle => by
    have IH := node_any w0 b hL left (by omega)
    rintro ⟨s, l, g, bad⟩ v w h hr
    by_cases hc : bad = true ∨ s = [] ∨ left + 1 = 0 ∨ 120 < l.length
    · exact node_out w0 b (left + 1) s l g bad v w h hc
    have hb : bad = false := by
      cases bad
      · rfl
      · exact absurd (Or.inl rfl) hc
    subst hb
    have hl : l.length ≤ 120 := by
      rcases Nat.lt_or_ge 120 l.length with q | q
      · exact absurd (Or.inr (Or.inr (Or.inr q))) hc
      · exact q
    obtain ⟨c, t, hs⟩ : ∃ c t, s = c :: t := by
      cases s with
      | nil => exact absurd (Or.inr (Or.inl rfl)) hc
      | cons c t => exact ⟨c, t, rfl⟩
    have h1 := hr.len
    have h2 := hr.g0
    have h3 := hr.g1
    dsimp only at h1 h2 h3
    by_cases k101 : c = 101
    · exact node_e w0 b left _ c t s l g v w hs h hL h1 hl h2 h3 rfl (by omega) IH k101
    by_cases k91 : c = 91
    · exact node_s w0 b left _ c t s l g v w hs h hL h1 hl h2 h3 rfl (by omega) IH k91
    by_cases k94 : c = 94
    · exact node_b w0 b left _ c t s l g v w hs h hL h1 hl h2 h3 rfl (by omega) IH k94
    by_cases k36 : c = 36
    · exact node_d w0 b left _ c t s l g v w hs h hL h1 hl h2 h3 rfl (by omega) IH k36
    by_cases k38 : c = 38
    · exact node_c w0 b left _ c t s l g v w hs h hL h1 hl h2 h3 rfl (by omega) IH k38
    by_cases k124 : c = 124
    · exact node_a w0 b left _ c t s l g v w hs h hL h1 hl h2 h3 rfl (by omega) IH k124
    by_cases k42 : c = 42
    · exact node_m w0 b left _ c t s l g v w hs h hL h1 hl h2 h3 rfl (by omega) IH k42
    by_cases k40 : c = 40
    · exact node_g w0 b left _ c t s l g v w hs h hL h1 hl h2 h3 rfl (by omega) IH k40
    by_cases k92 : c = 92
    · cases ht : t with
      | nil => exact node_r w0 b left _ c t s l g v w hs h hL h1 hl h2 h3 rfl (by omega) IH k92 ht
      | cons d t2 => exact node_q w0 b left _ c t s l g v w hs h hL h1 hl h2 h3 rfl (by omega) IH k92 d t2 ht
    · exact node_z w0 b left _ c t s l g v w hs h hL h1 hl h2 h3 rfl (by omega) IH k101 k91 k94 k36 k38 k124 k42 k40 k92
end Go.Proofs.YtdjedjfanfbbcaaGreatDoor.Rx
