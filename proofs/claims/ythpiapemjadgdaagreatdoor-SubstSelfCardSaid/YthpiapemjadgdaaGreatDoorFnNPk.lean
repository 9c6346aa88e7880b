/- Finds, one behind the other: plain. -/
import Derived.Test.YthpiapemjadgdaaGreatDoorCk25
namespace Go.Proofs.YthpiapemjadgdaaGreatDoor.Mt
open Go.Proofs.YthpiapemjadgdaaGreatDoor.Rx
open Go.Proofs.YthpiapemjadgdaaGreatDoor.Rx.Tr
open Go.Proofs.YthpiapemjadgdaaGreatDoor.Fn
set_option linter.unusedVariables false
set_option linter.unusedSimpArgs false
/-- The first find of those that are left. -/
def headF (F : Nat → Option Caps) (N la i : Nat) : Option Caps := match firstF F N i with
  | none => none
  | some c => if to0 c = from0 c ∧ from0 c + 1 = la then firstF F N la else some c
theorem head_fin {F : Nat → Option Caps} {N : Nat} (hF : FOk N F) : ∀ (f la i : Nat), muF N la i ≤ f → (finF F N f la i)[0]? = headF F N la i
  | 0, la, i, hm => by
    unfold finF headF
    rw [first_end F (show N < i from by unfold muF at hm; omega)]
    rfl
  | f + 1, la, i, hm => by
    unfold finF headF
    cases h : firstF F N i with
    | none => rfl
    | some c =>
      dsimp only
      split
      · rename_i hs
        have h1 := mu_skip hF h hm hs
        cases f with
        | zero =>
          rw [first_end F (show N < la from by unfold muF at h1; omega)]
          rfl
        | succ f =>
          unfold finF
          cases h2 : firstF F N la with
          | none => rfl
          | some d =>
            have h3 := (first_at hF h2).1
            dsimp only
            rw [if_neg (by omega)]
            rfl
      · rfl
theorem next_fin {F : Nat → Option Caps} {N : Nat} (hF : FOk N F) : ∀ (f la i : Nat), muF N la i ≤ f → ∀ (k : Nat) (c : Caps), (finF F N f la i)[k]? = some c → (finF F N f la i)[k + 1]? = headF F N (to0 c + 1) (to0 c)
  | 0, la, i, hm, k, c, hk => by unfold finF at hk; cases hk
  | f + 1, la, i, hm, k, c, hk => by
    unfold finF at hk ⊢
    cases h : firstF F N i with
    | none => rw [h] at hk; cases hk
    | some d =>
      rw [h] at hk
      dsimp only at hk ⊢
      split at hk
      · rename_i hs
        rw [if_pos hs]
        exact next_fin hF f la la (mu_skip hF h hm hs) k c hk
      · rename_i hs
        rw [if_neg hs, List.getElem?_cons_succ]
        cases k with
        | zero =>
          rw [List.getElem?_cons_zero] at hk
          obtain rfl := Option.some.inj hk
          exact head_fin hF f _ _ (mu_next hF h hm hs)
        | succ k =>
          rw [List.getElem?_cons_succ] at hk
          exact next_fin hF f _ _ (mu_next hF h hm hs) k c hk
theorem all_mu (N : Nat) : muF N 0 0 ≤ 2 * (N + 1) + 1 := by unfold muF; split <;> omega
theorem all_head {F : Nat → Option Caps} {N : Nat} (hF : FOk N F) : (allF F N)[0]? = firstF F N 0 := by
  unfold allF
  rw [head_fin hF _ _ _ (all_mu N)]
  unfold headF
  cases firstF F N 0 with
  | none => rfl
  | some c => dsimp only; rw [if_neg (by omega)]
theorem all_next {F : Nat → Option Caps} {N : Nat} (hF : FOk N F) {k : Nat} {c : Caps} (h : (allF F N)[k]? = some c) : (allF F N)[k + 1]? = headF F N (to0 c + 1) (to0 c) := next_fin hF _ _ _ (all_mu N) k c h
theorem all_at {F : Nat → Option Caps} {N : Nat} (hF : FOk N F) {k : Nat} {c : Caps} (h : (allF F N)[k]? = some c) : CapsOk N c ∧ gr c 0 = some (from0 c, to0 c) ∧ from0 c ≤ to0 c ∧ to0 c ≤ N := by
  have hq : ∃ i, firstF F N i = some c := by
    cases k with
    | zero => rw [all_head hF] at h; exact ⟨0, h⟩
    | succ k =>
      have hk : k < (allF F N).length := by have := (List.getElem?_eq_some_iff.1 h).1; omega
      have := all_next hF (List.getElem?_eq_getElem hk)
      rw [this] at h
      unfold headF at h
      split at h
      · cases h
      · rename_i d hd
        split at h
        · exact ⟨_, h⟩
        · obtain rfl := Option.some.inj h
          exact ⟨_, hd⟩
  obtain ⟨i, hi⟩ := hq
  have := first_at hF hi
  exact ⟨this.2.2.2.1, this.2.2.2.2.1, this.2.2.2.2.2.1, this.2.2.2.2.2.2⟩
end Go.Proofs.YthpiapemjadgdaaGreatDoor.Mt
