/- The reference's Hits; AddrHits: the walks. -/
import Derived.Test.YtcijhfdccbgcpaaDoorAdL1
namespace Go.Proofs.YtcijhfdccbgcpaaDoor.Ad
open Go.RowKit Go.Shelf
set_option linter.unusedVariables false
set_option linter.unusedSimpArgs false
theorem nEq {x y : Int} (h : x ≠ y) : (x == y) = false := by rw [beq_eq_false_iff_ne]; exact h
abbrev HR (k n m : Int) (N : Int) (last : Bool) (v : Value) (hs : List Bool) (w : World) : Prop :=
  Calls Tryd.prog 21 #[AV ⟨k, n, m⟩, LV N last v] w fun e w' => e = .returned (.bool (hits ⟨k, n, m⟩ ⟨N, last, hs⟩)) ∧ Below w.heap.size w w'
set_option maxRecDepth 100000 in
set_option maxHeartbeats 3200000 in
theorem rhits_0  (n m N : Int) (last : Bool) (ao : Option Addr) (l c : Nat) (hs : List Bool) (w : World)  : HR 0 n m N last (.slice ao l c) hs w := by
  have HO := Lib.hid (show hits ⟨0, n, m⟩ ⟨N, last, hs⟩ = true from by unfold hits; simp)
  go_enter Tryd.func21, Tryd.ntmps21
  go_wp2
  all_goals go_ret
  all_goals exact ⟨by rw [HO.out]; exact ret1 rfl, ((Below.refl w.heap.size w).alloc (Nat.le_refl _) _).alloc (by simp) _⟩
set_option maxRecDepth 100000 in
set_option maxHeartbeats 3200000 in
theorem rhits_1  (n m N : Int) (last : Bool) (ao : Option Addr) (l c : Nat) (hs : List Bool) (w : World)  : HR 1 n m N last (.slice ao l c) hs w := by
  have HO := Lib.hid (show hits ⟨1, n, m⟩ ⟨N, last, hs⟩ = (N == n) from by unfold hits; simp; rfl)
  go_enter Tryd.func21, Tryd.ntmps21
  go_wp2
  all_goals go_ret
  all_goals exact ⟨by rw [HO.out]; exact ret1 rfl, ((Below.refl w.heap.size w).alloc (Nat.le_refl _) _).alloc (by simp) _⟩
set_option maxRecDepth 100000 in
set_option maxHeartbeats 3200000 in
theorem rhits_2  (n m N : Int) (last : Bool) (ao : Option Addr) (l c : Nat) (hs : List Bool) (w : World)  : HR 2 n m N last (.slice ao l c) hs w := by
  have HO := Lib.hid (show hits ⟨2, n, m⟩ ⟨N, last, hs⟩ = last from by unfold hits; simp)
  go_enter Tryd.func21, Tryd.ntmps21
  go_wp2
  all_goals go_ret
  all_goals exact ⟨by rw [HO.out]; exact ret1 rfl, ((Below.refl w.heap.size w).alloc (Nat.le_refl _) _).alloc (by simp) _⟩
set_option maxRecDepth 100000 in
set_option maxHeartbeats 3200000 in
theorem rhits_no (k : Int) (n m N : Int) (last : Bool) (ao : Option Addr) (l c : Nat) (hs : List Bool) (w : World) (h0 : k ≠ 0) (h1 : k ≠ 1) (h2 : k ≠ 2) (h3 : k ≠ 3) (h4 : k ≠ 4) : HR k n m N last (.slice ao l c) hs w := by
  have HO := Lib.hid (show hits ⟨k, n, m⟩ ⟨N, last, hs⟩ = false from by unfold hits; rw [if_neg h0, if_neg h1, if_neg h2, if_neg h3, if_neg h4])
  have e0 := nEq h0
  have e1 := nEq h1
  have e2 := nEq h2
  have e3 := nEq h3
  have e4 := nEq h4
  clear h0 h1 h2 h3 h4
  go_enter Tryd.func21, Tryd.ntmps21
  go_wp2
  all_goals go_ret
  all_goals exact ⟨by rw [HO.out]; exact ret1 rfl, ((Below.refl w.heap.size w).alloc (Nat.le_refl _) _).alloc (by simp) _⟩
set_option maxRecDepth 100000 in
set_option maxHeartbeats 3200000 in
theorem rhits_3a  (n m N : Int) (last : Bool) (ao : Option Addr) (l c : Nat) (hs : List Bool) (w : World) (h : m = 0) : HR 3 n m N last (.slice ao l c) hs w := by
  have HO := Lib.hid (show hits ⟨3, n, m⟩ ⟨N, last, hs⟩ = (N == n) from by rw [hits_3e, h]; simp; rfl)
  subst h
  go_enter Tryd.func21, Tryd.ntmps21
  go_wp2
  all_goals go_ret
  all_goals exact ⟨by rw [HO.out]; exact ret1 rfl, ((Below.refl w.heap.size w).alloc (Nat.le_refl _) _).alloc (by simp) _⟩
set_option maxRecDepth 100000 in
set_option maxHeartbeats 3200000 in
theorem rhits_3b  (n m N : Int) (last : Bool) (ao : Option Addr) (l c : Nat) (hs : List Bool) (w : World) (h : m ≠ 0) (hle : N ≤ n) : HR 3 n m N last (.slice ao l c) hs w := by
  have HO := Lib.hid (show hits ⟨3, n, m⟩ ⟨N, last, hs⟩ = (N == n) from by rw [hits_3e, decide_eq_false (fun q : 0 < m ∧ n < N ∧ (N - n) % m = 0 => by omega), Bool.or_false]; rfl)
  have e0 := nEq h
  clear h
  go_enter Tryd.func21, Tryd.ntmps21
  go_wp2
  all_goals go_ret
  all_goals exact ⟨by rw [HO.out]; exact ret1 rfl, ((Below.refl w.heap.size w).alloc (Nat.le_refl _) _).alloc (by simp) _⟩
set_option maxRecDepth 100000 in
set_option maxHeartbeats 3200000 in
theorem rhits_3c  (n m N : Int) (last : Bool) (ao : Option Addr) (l c : Nat) (hs : List Bool) (w : World) (h : m < 0) (hle : ¬ N ≤ n) : HR 3 n m N last (.slice ao l c) hs w := by
  have HO := Lib.hid (show hits ⟨3, n, m⟩ ⟨N, last, hs⟩ = false from by rw [hits_3e, decide_eq_false (by omega : ¬ N = n), decide_eq_false (fun q : 0 < m ∧ n < N ∧ (N - n) % m = 0 => by omega)]; rfl)
  have e0 := nEq (show m ≠ 0 by omega)
  have e1 : ¬ 0 < m := by omega
  go_enter Tryd.func21, Tryd.ntmps21
  go_wp2
  all_goals go_ret
  all_goals exact ⟨by rw [HO.out]; exact ret1 rfl, ((Below.refl w.heap.size w).alloc (Nat.le_refl _) _).alloc (by simp) _⟩
set_option maxRecDepth 100000 in
set_option maxHeartbeats 3200000 in
theorem rhits_3d  (n m N : Int) (last : Bool) (ao : Option Addr) (l c : Nat) (hs : List Bool) (w : World) (h : 0 < m) (hle : ¬ N ≤ n) (hn : 0 ≤ n) (hN : N ≤ 999999999) : HR 3 n m N last (.slice ao l c) hs w := by
  have HO := Lib.hid (show hits ⟨3, n, m⟩ ⟨N, last, hs⟩ = ((N - n) % m == 0) from by 
    rw [hits_3e, decide_eq_false (by omega : ¬ N = n), Bool.false_or]
    by_cases h4 : (N - n) % m = 0
    · rw [decide_eq_true ⟨h, by omega, h4⟩, h4]; rfl
    · rw [decide_eq_false (fun q => h4 q.2.2)]; exact (nEq h4).symm)
  have e0 := nEq (show m ≠ 0 by omega)
  have e2 : 0 ≤ N := by omega
  go_enter Tryd.func21, Tryd.ntmps21
  go_wp2
  all_goals go_ret
  all_goals exact ⟨by rw [HO.out]; exact ret1 rfl, ((Below.refl w.heap.size w).alloc (Nat.le_refl _) _).alloc (by simp) _⟩
set_option maxRecDepth 100000 in
set_option maxHeartbeats 3200000 in
theorem rhits_4a  (n m N : Int) (last : Bool) (ao : Option Addr) (l c : Nat) (hs : List Bool) (w : World) (h : n < 0) : HR 4 n m N last (.slice ao l c) hs w := by
  have HO := Lib.hid (show hits ⟨4, n, m⟩ ⟨N, last, hs⟩ = false from by rw [hits_4e, decide_eq_false (by omega : ¬ 0 ≤ n)]; rfl)
  have e0 : ¬ 0 ≤ n := by omega
  go_enter Tryd.func21, Tryd.ntmps21
  go_wp2
  all_goals go_ret
  all_goals exact ⟨by rw [HO.out]; exact ret1 rfl, ((Below.refl w.heap.size w).alloc (Nat.le_refl _) _).alloc (by simp) _⟩
set_option maxRecDepth 100000 in
set_option maxHeartbeats 3200000 in
theorem rhits_4b  (n m N : Int) (last : Bool) (ao : Option Addr) (l c : Nat) (hs : List Bool) (w : World) (h : 0 ≤ n) (hl : (hs.length : Int) ≤ n) : HR 4 n m N last (.slice ao hs.length c) hs w := by
  have HO := Lib.hid (show hits ⟨4, n, m⟩ ⟨N, last, hs⟩ = false from by rw [hits_4e, List.getElem?_eq_none (by omega)]; simp)
  have e0 : ¬ n < (hs.length : Int) := by omega
  go_enter Tryd.func21, Tryd.ntmps21
  go_wp2
  all_goals go_ret
  all_goals exact ⟨by rw [HO.out]; exact ret1 rfl, ((Below.refl w.heap.size w).alloc (Nat.le_refl _) _).alloc (by simp) _⟩
set_option maxRecDepth 100000 in
set_option maxHeartbeats 3200000 in
theorem rhits_4c (k : Nat) (m N : Int) (last : Bool) (ao : Option Addr) (c : Nat) (hs : List Bool) (w : World) (h2 : k < hs.length) (hb : Bs w (.slice ao hs.length c) hs) : HR 4 k m N last (.slice ao hs.length c) hs w := by
  have HO := Lib.hid (show hits ⟨4, (k : Int), m⟩ ⟨N, last, hs⟩ = hs[k] from by
    rw [hits_4e, decide_eq_true (by omega : (0 : Int) ≤ (k : Int))]; simp [h2])
  obtain ⟨ao', c', hv, hcs⟩ := hb
  obtain ⟨rfl, rfl⟩ : ao' = ao ∧ c' = c := by simp at hv; exact ⟨hv.1.symm, hv.2.symm⟩
  obtain ⟨a, rfl, hx⟩ := hcs k h2
  have hI : ((k : Nat) : Int) < ((hs.length : Nat) : Int) := by omega
  have h0 : (0 : Int) ≤ (k : Int) := by omega
  have hx3 : ∀ o1 o2, ((w.alloc o1).alloc o2).cell? (a.add k) = some (.bool hs[k]) := fun o1 o2 => ((((Below.refl w.heap.size w).alloc (Nat.le_refl _) _).alloc (by simp) _ : Below w.heap.size w ((w.alloc o1).alloc o2)).cell (p := a.add k) (lt_cell hx)).trans hx
  clear hcs hv hx
  generalize hs[k] = b at *
  go_enter Tryd.func21, Tryd.ntmps21
  go_wp2
  all_goals go_ret
  all_goals exact ⟨by rw [HO.out]; exact ret1 rfl, ((Below.refl w.heap.size w).alloc (Nat.le_refl _) _).alloc (by simp) _⟩
theorem rhits_any (a : A3) (l : L3) (ao : Option Addr) (c : Nat) (w : World) (hk : Ok a l) (hb : Bs w (.slice ao l.has.length c) l.has) :
    Calls Tryd.prog 21 #[AV a, LV l.n l.last (.slice ao l.has.length c)] w fun e w' => e = .returned (.bool (hits a l)) ∧ Below w.heap.size w w' := by
  obtain ⟨k, n, m⟩ := a
  obtain ⟨N, last, hs⟩ := l
  by_cases h0 : k = 0
  · subst h0; exact rhits_0 n m N last ao _ c hs w
  by_cases h1 : k = 1
  · subst h1; exact rhits_1 n m N last ao _ c hs w
  by_cases h2 : k = 2
  · subst h2; exact rhits_2 n m N last ao _ c hs w
  by_cases h3 : k = 3
  · subst h3
    by_cases hm : m = 0
    · exact rhits_3a n m N last ao _ c hs w hm
    by_cases hle : N ≤ n
    · exact rhits_3b n m N last ao _ c hs w hm hle
    by_cases h : m < 0
    · exact rhits_3c n m N last ao _ c hs w h hle
    · exact rhits_3d n m N last ao _ c hs w (by omega) hle (hk.1 rfl) hk.2.2
  by_cases h4 : k = 4
  · subst h4
    by_cases h : n < 0
    · exact rhits_4a n m N last ao _ c hs w h
    by_cases hl : (hs.length : Int) ≤ n
    · exact rhits_4b n m N last ao 0 c hs w (by omega) hl
    · obtain ⟨j, rfl⟩ : ∃ j : Nat, n = (j : Int) := ⟨n.toNat, by omega⟩
      exact rhits_4c j m N last ao c hs w (by omega) hb
  · exact rhits_no k n m N last ao _ c hs w h0 h1 h2 h3 h4
end Go.Proofs.YtcijhfdccbgcpaaDoor.Ad
