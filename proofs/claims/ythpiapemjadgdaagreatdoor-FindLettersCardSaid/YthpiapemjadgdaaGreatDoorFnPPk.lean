/- Finds: plain. -/
import Derived.Test.YthpiapemjadgdaaGreatDoorBk06
namespace Go.Proofs.YthpiapemjadgdaaGreatDoor.Fn
open Go.Proofs.YthpiapemjadgdaaGreatDoor.Mt
set_option linter.unusedVariables false
set_option linter.unusedSimpArgs false
def from0 (c : Caps) : Nat := match gr c 0 with
  | some (a, _) => a
  | none => 0
def to0 (c : Caps) : Nat := match gr c 0 with
  | some (_, b) => b
  | none => 0
/-- What may be found at places. -/
structure FOk (N : Nat) (F : Nat → Option Caps) : Prop where
  caps : ∀ i c, F i = some c → CapsOk N c
  at0 : ∀ i c, F i = some c → from0 c = i
  gr0 : ∀ i c, F i = some c → gr c 0 = some (from0 c, to0 c)
  to : ∀ i c, F i = some c → from0 c ≤ to0 c ∧ to0 c ≤ N
def upF (F : Nat → Option Caps) : Nat → Nat → Option Caps
  | _, 0 => none
  | i, n + 1 => match F i with
    | some c => some c
    | none => upF F (i + 1) n
def firstF (F : Nat → Option Caps) (N i : Nat) : Option Caps := upF F i (N + 1 - i)
theorem first_step (F : Nat → Option Caps) {N i : Nat} (h : i ≤ N) : firstF F N i = match F i with
    | some c => some c
    | none => firstF F N (i + 1) := by
  unfold firstF
  rw [show N + 1 - i = (N + 1 - (i + 1)) + 1 by omega]
  rfl
theorem first_end (F : Nat → Option Caps) {N i : Nat} (h : N < i) : firstF F N i = none := by
  unfold firstF
  rw [show N + 1 - i = 0 by omega]
  rfl
theorem up_some {F : Nat → Option Caps} {c : Caps} : ∀ {n i : Nat}, upF F i n = some c → ∃ k, i ≤ k ∧ k < i + n ∧ F k = some c ∧ ∀ r, i ≤ r → r < k → F r = none
  | 0, i, h => by cases h
  | n + 1, i, h => by
    unfold upF at h
    cases hF : F i with
    | some d => rw [hF] at h; cases h; exact ⟨i, Nat.le_refl _, by omega, hF, fun r h1 h2 => by omega⟩
    | none =>
      rw [hF] at h
      obtain ⟨k, h1, h2, h3, h4⟩ := up_some h
      refine ⟨k, by omega, by omega, h3, fun r h5 h6 => ?_⟩
      rcases Nat.lt_or_ge r (i + 1) with q | q
      · obtain rfl : r = i := by omega
        exact hF
      · exact h4 r q h6
theorem up_none {F : Nat → Option Caps} : ∀ {n i : Nat}, upF F i n = none → ∀ r, i ≤ r → r < i + n → F r = none
  | 0, i, h, r, h1, h2 => by omega
  | n + 1, i, h, r, h1, h2 => by
    unfold upF at h
    cases hF : F i with
    | some d => rw [hF] at h; cases h
    | none =>
      rw [hF] at h
      rcases Nat.lt_or_ge r (i + 1) with q | q
      · obtain rfl : r = i := by omega
        exact hF
      · exact up_none h r q (by omega)
theorem first_some {F : Nat → Option Caps} {N i : Nat} {c : Caps} (h : firstF F N i = some c) : ∃ k, i ≤ k ∧ k ≤ N ∧ F k = some c ∧ ∀ r, i ≤ r → r < k → F r = none := by
  obtain ⟨k, h1, h2, h3, h4⟩ := up_some h
  exact ⟨k, h1, by omega, h3, h4⟩
theorem first_none {F : Nat → Option Caps} {N i : Nat} (h : firstF F N i = none) : ∀ r, i ≤ r → r ≤ N → F r = none := fun r h1 h2 => up_none h r h1 (by omega)
/-- What is found, from a place on, is in its place. -/
theorem first_at {F : Nat → Option Caps} {N i : Nat} {c : Caps} (hF : FOk N F) (h : firstF F N i = some c) : i ≤ from0 c ∧ F (from0 c) = some c ∧ (∀ r, i ≤ r → r < from0 c → F r = none) ∧ CapsOk N c ∧ gr c 0 = some (from0 c, to0 c) ∧ from0 c ≤ to0 c ∧ to0 c ≤ N := by
  obtain ⟨k, h1, h2, h3, h4⟩ := first_some h
  have e := hF.at0 k c h3
  rw [e]
  exact ⟨h1, h3, h4, hF.caps k c h3, by rw [← e]; exact hF.gr0 k c h3, by rw [← e]; exact (hF.to k c h3).1, (hF.to k c h3).2⟩
/-- The finds, one behind the other: la is one more than where the last one ended (0: there is none). -/
def finF (F : Nat → Option Caps) (N : Nat) : Nat → Nat → Nat → List Caps
  | 0, _, _ => []
  | f + 1, la, i => match firstF F N i with
    | none => []
    | some c => if to0 c = from0 c ∧ from0 c + 1 = la then finF F N f la la else c :: finF F N f (to0 c + 1) (to0 c)
def mu (N la i : Nat) : Nat := 2 * (N + 1 - i) + (if la = i + 1 then 0 else 1)
def allF (F : Nat → Option Caps) (N : Nat) : List Caps := finF F N (2 * (N + 1) + 1) 0 0
theorem mu_skip {F : Nat → Option Caps} {N la i f : Nat} {c : Caps} (hF : FOk N F) (h : firstF F N i = some c) (hm : mu N la i ≤ f + 1) (hs : to0 c = from0 c ∧ from0 c + 1 = la) : mu N la la ≤ f := by
  obtain ⟨h1, _, _, _, _, h2, h3⟩ := first_at hF h
  unfold mu at hm ⊢
  split at hm <;> split <;> omega
theorem mu_next {F : Nat → Option Caps} {N la i f : Nat} {c : Caps} (hF : FOk N F) (h : firstF F N i = some c) (hm : mu N la i ≤ f + 1) (hs : ¬ (to0 c = from0 c ∧ from0 c + 1 = la)) : mu N (to0 c + 1) (to0 c) ≤ f := by
  obtain ⟨h1, _, _, _, _, h2, h3⟩ := first_at hF h
  unfold mu at hm ⊢
  rw [if_pos rfl]
  split at hm <;> omega
theorem mu_zero {F : Nat → Option Caps} {N la i : Nat} (hm : mu N la i ≤ 0) : N < i := by unfold mu at hm; omega
theorem fin_len (F : Nat → Option Caps) (N : Nat) : ∀ f la i, (finF F N f la i).length ≤ f
  | 0, _, _ => Nat.le_refl _
  | f + 1, la, i => by
    unfold finF
    split
    · simp
    · split
      · have := fin_len F N f la la; omega
      · have := fin_len F N f (to0 (by assumption) + 1) (to0 (by assumption)); simp; omega
/-- What is asked of the finds. -/
def Ch (F : Nat → Option Caps) (N : Nat) : Nat → List Caps → Prop
  | _, [] => True
  | la, c :: L => F (from0 c) = some c ∧ la - 1 ≤ from0 c ∧ (∀ k d, la - 1 ≤ k → k < from0 c → F k = some d → k + 1 = la ∧ to0 d = from0 d) ∧ ¬ (to0 c = from0 c ∧ from0 c + 1 = la) ∧ Ch F N (to0 c + 1) L
theorem fin_ch {F : Nat → Option Caps} {N : Nat} (hF : FOk N F) : ∀ f la i, (i = la - 1 ∨ (i = la ∧ ∃ d, F (la - 1) = some d ∧ to0 d = from0 d)) → Ch F N la (finF F N f la i)
  | 0, _, _, _ => trivial
  | f + 1, la, i, hi => by
    unfold finF
    cases h : firstF F N i with
    | none => exact trivial
    | some c =>
      obtain ⟨h1, h2, h3, _, _, h4, h5⟩ := first_at hF h
      dsimp only
      split
      · rename_i hs
        exact fin_ch hF f la la (.inr ⟨rfl, c, by rw [show la - 1 = from0 c by omega]; exact h2, hs.1⟩)
      · rename_i hs
        refine ⟨h2, by omega, fun k d k1 k2 k3 => ?_, hs, fin_ch hF f _ _ (.inl (by omega))⟩
        rcases Nat.lt_or_ge k i with q | q
        · rcases hi with e | ⟨e, d', e1, e2⟩
          · omega
          · rcases Nat.eq_zero_or_pos la with z | z
            · omega
            · obtain rfl : k = la - 1 := by omega
              rw [e1] at k3; cases k3
              exact ⟨by omega, e2⟩
        · rw [h3 k q k2] at k3; cases k3
theorem all_ch {F : Nat → Option Caps} {N : Nat} (hF : FOk N F) : Ch F N 0 (allF F N) := fin_ch hF _ _ _ (.inl rfl)
theorem all_none (F : Nat → Option Caps) (N : Nat) : (allF F N).length = 0 ↔ firstF F N 0 = none := by
  unfold allF finF
  cases h : firstF F N 0 with
  | none => simp
  | some c =>
    dsimp only
    rw [if_neg (by omega)]
    simp
/-- One of the finds, what is asked of it. -/
theorem ch_at {F : Nat → Option Caps} {N : Nat} : ∀ {L : List Caps} {la : Nat}, Ch F N la L → ∀ {i : Nat} {c : Caps}, L[i]? = some c → ∃ lb, (i = 0 → lb = la) ∧ (∀ p, i = p + 1 → ∃ b, L[p]? = some b ∧ lb = to0 b + 1) ∧ F (from0 c) = some c ∧ lb - 1 ≤ from0 c ∧ (∀ k d, lb - 1 ≤ k → k < from0 c → F k = some d → k + 1 = lb ∧ to0 d = from0 d) ∧ ¬ (to0 c = from0 c ∧ from0 c + 1 = lb)
  | [], la, h, i, c, hc => by simp at hc
  | b :: L, la, h, 0, c, hc => by
    simp only [List.getElem?_cons_zero, Option.some.injEq] at hc
    subst hc
    exact ⟨la, fun _ => rfl, fun p hp => by omega, h.1, h.2.1, h.2.2.1, h.2.2.2.1⟩
  | b :: L, la, h, i + 1, c, hc => by
    rw [List.getElem?_cons_succ] at hc
    obtain ⟨lb, a1, a2, a3⟩ := ch_at h.2.2.2.2 hc
    refine ⟨lb, fun q => by omega, fun p hp => ?_, a3⟩
    obtain rfl : p = i := by omega
    cases p with
    | zero => exact ⟨b, rfl, a1 rfl⟩
    | succ q =>
      obtain ⟨x, x1, x2⟩ := a2 q rfl
      exact ⟨x, by rw [List.getElem?_cons_succ]; exact x1, x2⟩
end Go.Proofs.YthpiapemjadgdaaGreatDoor.Fn
