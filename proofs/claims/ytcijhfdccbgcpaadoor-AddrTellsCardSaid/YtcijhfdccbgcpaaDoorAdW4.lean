/- Addresses: to: the walk. -/
import Derived.Test.YtcijhfdccbgcpaaDoorAdW3
namespace Go.Proofs.YtcijhfdccbgcpaaDoor.Ad
open Go.RowKit Go.Shelf
set_option linter.unusedVariables false
set_option linter.unusedSimpArgs false
theorem to_0 (k n m N : Int) (w : World) (h1 : k ≠ 1) (h5 : k ≠ 5) (h6 : k ≠ 6) :
    Calls Tryd.prog 49 #[AV ⟨k, n, m⟩, E N] w fun e w' => e = .returned (E (toL ⟨k, n, m⟩ N)) ∧ Below w.heap.size w w' := by
  have HO := Lib.hid (show toL ⟨k, n, m⟩ N = 0 from by unfold toL; rw [if_neg h1, if_neg h5, if_neg h6])
  have h1B : (k == 1) = false := by rw [beq_eq_false_iff_ne]; exact h1
  have h5B : (k == 5) = false := by rw [beq_eq_false_iff_ne]; exact h5
  have h6B : (k == 6) = false := by rw [beq_eq_false_iff_ne]; exact h6
  go_enter Tryd.func49, Tryd.ntmps49
  go_wp2
  go_ret
  exact ⟨by rw [HO.out]; exact ret1 rfl, (Below.refl w.heap.size w).alloc (Nat.le_refl _) _⟩
theorem to_1 (n m N : Int) (w : World) :
    Calls Tryd.prog 49 #[AV ⟨1, n, m⟩, E N] w fun e w' => e = .returned (E (toL ⟨1, n, m⟩ N)) ∧ Below w.heap.size w w' := by
  have HO := Lib.hid (show toL ⟨1, n, m⟩ N = n from by unfold toL; rw [if_pos rfl])
  go_enter Tryd.func49, Tryd.ntmps49
  go_wp2
  go_ret
  exact ⟨by rw [HO.out]; exact ret1 rfl, (Below.refl w.heap.size w).alloc (Nat.le_refl _) _⟩
theorem to_5 (n m N : Int) (w : World) (hn : 0 ≤ n ∧ n ≤ 999999999) (hN : 0 ≤ N ∧ N ≤ 999999999) :
    Calls Tryd.prog 49 #[AV ⟨5, n, m⟩, E N] w fun e w' => e = .returned (E (toL ⟨5, n, m⟩ N)) ∧ Below w.heap.size w w' := by
  have HO := Lib.hid (show toL ⟨5, n, m⟩ N = N + n from by unfold toL; simp)
  go_enter Tryd.func49, Tryd.ntmps49
  go_wp2
  go_ret
  exact ⟨by rw [HO.out]; exact ret1 rfl, (Below.refl w.heap.size w).alloc (Nat.le_refl _) _⟩
theorem to_6 (n m N : Int) (w : World) (hn : 0 ≤ n ∧ n ≤ 999999999) (hN : 0 ≤ N ∧ N ≤ 999999999) :
    Calls Tryd.prog 49 #[AV ⟨6, n, m⟩, E N] w fun e w' => e = .returned (E (toL ⟨6, n, m⟩ N)) ∧ Below w.heap.size w w' := by
  by_cases h0 : 0 < n
  · by_cases hm : N % n = 0
    · have HO := Lib.hid (show toL ⟨6, n, m⟩ N = N from by unfold toL; simp [hm])
      go_enter Tryd.func49, Tryd.ntmps49
      go_wp2
      go_ret
      exact ⟨by rw [HO.out]; exact ret1 rfl, (Below.refl w.heap.size w).alloc (Nat.le_refl _) _⟩
    · have HO := Lib.hid (show toL ⟨6, n, m⟩ N = N + n - N % n from by unfold toL; simp [hm, h0])
      have hmB : (N % n != 0) = true := by rw [bne_iff_ne]; exact hm
      have hq1 : 0 ≤ N % n := Int.emod_nonneg _ (by omega)
      have hq2 : N % n < n := Int.emod_lt_of_pos _ h0
      go_enter Tryd.func49, Tryd.ntmps49
      go_wp2
      go_region
      go_wp2
      go_ret
      exact ⟨by rw [HO.out]; exact ret1 rfl, ((Below.refl w.heap.size w).alloc (Nat.le_refl _) _).drew⟩
  · obtain rfl : n = 0 := by omega
    have HO := Lib.hid (show toL ⟨6, 0, m⟩ N = N from by unfold toL; simp)
    go_enter Tryd.func49, Tryd.ntmps49
    go_wp2
    go_ret
    exact ⟨by rw [HO.out]; exact ret1 rfl, (Below.refl w.heap.size w).alloc (Nat.le_refl _) _⟩
theorem to_any (b : A3) (N : Int) (w : World) (hn : One b) (hN : 0 ≤ N ∧ N ≤ 999999999) :
    Calls Tryd.prog 49 #[AV b, E N] w fun e w' => e = .returned (E (toL b N)) ∧ Below w.heap.size w w' := by
  obtain ⟨k, n, m⟩ := b
  have hb : 0 ≤ n ∧ n ≤ 999999999 := by unfold One at hn; dsimp only at hn; omega
  by_cases h1 : k = 1
  · subst h1; exact to_1 n m N w
  by_cases h5 : k = 5
  · subst h5; exact to_5 n m N w hb hN
  by_cases h6 : k = 6
  · subst h6; exact to_6 n m N w hb hN
  exact to_0 k n m N w h1 h5 h6
end Go.Proofs.YtcijhfdccbgcpaaDoor.Ad
