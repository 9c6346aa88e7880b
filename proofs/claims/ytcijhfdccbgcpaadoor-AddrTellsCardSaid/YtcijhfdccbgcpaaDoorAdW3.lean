/- Addresses: Hits: the walk. -/
import Derived.Test.YtcijhfdccbgcpaaDoorAdW2
import Derived.Laws.EntriesVeiled
namespace Go.Proofs.YtcijhfdccbgcpaaDoor.Ad
open Go.RowKit Go.Shelf
set_option linter.unusedVariables false
set_option linter.unusedSimpArgs false
/-- What is found in a line, in memory. -/
def Bs (w : World) (v : Value) (hs : List Bool) : Prop := ∃ (ao : Option Addr) (c : Nat), v = .slice ao hs.length c ∧ ∀ (i : Nat) (h : i < hs.length), ∃ a, ao = some a ∧ w.cell? (a.add i) = some (.bool hs[i])
theorem block_add (a : Addr) (i : Nat) : (a.add i).block = a.block := by unfold Addr.add; split <;> rfl
theorem lt_cell {W : World} {a : Addr} {v : Value} (h : W.cell? a = some v) : a.block < W.heap.size := by
  rcases Nat.lt_or_ge a.block W.heap.size with hl | hl
  · exact hl
  · exfalso
    have hn : W.heap[a.block]? = none := Array.getElem?_eq_none hl
    unfold World.cell? at h
    simp [hn] at h
theorem Bs.below {w w' : World} {v : Value} {hs : List Bool} (h : Bs w v hs) (hb : Below w.heap.size w w') : Bs w' v hs := by
  obtain ⟨ao, c, rfl, hc⟩ := h
  refine ⟨ao, c, rfl, fun i hi => ?_⟩
  obtain ⟨a, ha, hx⟩ := hc i hi
  exact ⟨a, ha, (hb.cell (p := a.add i) (lt_cell hx)).trans hx⟩
abbrev HP (k n m : Int) (N : Int) (last : Bool) (v : Value) (hs : List Bool) (w : World) : Prop :=
  Calls Tryd.prog 20 #[AV ⟨k, n, m⟩, LV N last v] w fun e w' => e = .returned (.bool (hits ⟨k, n, m⟩ ⟨N, last, hs⟩)) ∧ Below w.heap.size w w'
set_option maxRecDepth 100000 in
set_option maxHeartbeats 1600000 in
theorem hits_0 (n m N : Int) (last : Bool) (ao : Option Addr) (l c : Nat) (hs : List Bool) (w : World) : HP 0 n m N last (.slice ao l c) hs w := by
  have HO := Lib.hid (show hits ⟨0, n, m⟩ ⟨N, last, hs⟩ = true from by unfold hits; simp)
  go_enter Tryd.func20, Tryd.ntmps20
  go_wp2
  all_goals go_ret
  all_goals exact ⟨by rw [HO.out]; exact ret1 rfl, (((Below.refl w.heap.size w).alloc (Nat.le_refl _) _).alloc (by simp) _).alloc (by simp; try omega) _⟩
set_option maxRecDepth 100000 in
set_option maxHeartbeats 1600000 in
theorem hits_low (k n m N : Int) (last : Bool) (ao : Option Addr) (l c : Nat) (hs : List Bool) (w : World) (h : k < 0) : HP k n m N last (.slice ao l c) hs w := by
  have HO := Lib.hid (show hits ⟨k, n, m⟩ ⟨N, last, hs⟩ = false from by unfold hits; rw [if_neg (by simp only; omega), if_neg (by simp only; omega), if_neg (by simp only; omega), if_neg (by simp only; omega), if_neg (by simp only; omega)])
  go_enter Tryd.func20, Tryd.ntmps20
  go_wp2
  all_goals go_ret
  all_goals exact ⟨by rw [HO.out]; exact ret1 rfl, (((Below.refl w.heap.size w).alloc (Nat.le_refl _) _).alloc (by simp) _).alloc (by simp; try omega) _⟩
set_option maxRecDepth 100000 in
set_option maxHeartbeats 1600000 in
theorem hits_high (k n m N : Int) (last : Bool) (ao : Option Addr) (l c : Nat) (hs : List Bool) (w : World) (h : 5 ≤ k) : HP k n m N last (.slice ao l c) hs w := by
  have HO := Lib.hid (show hits ⟨k, n, m⟩ ⟨N, last, hs⟩ = false from by unfold hits; rw [if_neg (by simp only; omega), if_neg (by simp only; omega), if_neg (by simp only; omega), if_neg (by simp only; omega), if_neg (by simp only; omega)])
  have h0 : (0 : Int) ≤ k := by omega
  go_enter Tryd.func20, Tryd.ntmps20
  go_wp2
  all_goals go_ret
  all_goals exact ⟨by rw [HO.out]; exact ret1 rfl, (((Below.refl w.heap.size w).alloc (Nat.le_refl _) _).alloc (by simp) _).alloc (by simp; try omega) _⟩
set_option maxRecDepth 100000 in
set_option maxHeartbeats 1600000 in
theorem hits_1 (n m N : Int) (last : Bool) (ao : Option Addr) (l c : Nat) (hs : List Bool) (w : World) : HP 1 n m N last (.slice ao l c) hs w := by
  have HO := Lib.hid (show hits ⟨1, n, m⟩ ⟨N, last, hs⟩ = (N == n) from by unfold hits; simp; rfl)
  go_enter Tryd.func20, Tryd.ntmps20
  go_wp2
  all_goals go_ret
  all_goals exact ⟨by rw [HO.out]; exact ret1 rfl, (((Below.refl w.heap.size w).alloc (Nat.le_refl _) _).alloc (by simp) _).alloc (by simp; try omega) _⟩
set_option maxRecDepth 100000 in
set_option maxHeartbeats 1600000 in
theorem hits_2 (n m N : Int) (last : Bool) (ao : Option Addr) (l c : Nat) (hs : List Bool) (w : World) : HP 2 n m N last (.slice ao l c) hs w := by
  have HO := Lib.hid (show hits ⟨2, n, m⟩ ⟨N, last, hs⟩ = last from by unfold hits; simp)
  go_enter Tryd.func20, Tryd.ntmps20
  go_wp2
  all_goals go_ret
  all_goals exact ⟨by rw [HO.out]; exact ret1 rfl, (((Below.refl w.heap.size w).alloc (Nat.le_refl _) _).alloc (by simp) _).alloc (by simp; try omega) _⟩
theorem hits_3e (n m N : Int) (last : Bool) (hs : List Bool) : hits ⟨3, n, m⟩ ⟨N, last, hs⟩ = (decide (N = n) || decide (0 < m ∧ n < N ∧ (N - n) % m = 0)) := by
  unfold hits; simp
set_option maxRecDepth 100000 in
set_option maxHeartbeats 1600000 in
theorem hits_3 (n m N : Int) (last : Bool) (ao : Option Addr) (l c : Nat) (hs : List Bool) (w : World) (hn : 0 ≤ n) (hN : 0 ≤ N ∧ N ≤ 999999999) : HP 3 n m N last (.slice ao l c) hs w := by
  have ho := hits_3e n m N last hs
  by_cases h1 : N = n
  · have HO := Lib.hid (show hits ⟨3, n, m⟩ ⟨N, last, hs⟩ = true from by rw [ho, decide_eq_true h1]; rfl)
    clear ho
    subst h1
    go_enter Tryd.func20, Tryd.ntmps20
    go_wp2
    all_goals go_ret
    all_goals exact ⟨by rw [HO.out]; exact ret1 rfl, (((Below.refl w.heap.size w).alloc (Nat.le_refl _) _).alloc (by simp) _).alloc (by simp; try omega) _⟩
  have h1B : (N == n) = false := by rw [beq_eq_false_iff_ne]; exact h1
  by_cases h2 : 0 < m
  · by_cases h3 : n < N
    · have HO := Lib.hid (show hits ⟨3, n, m⟩ ⟨N, last, hs⟩ = ((N - n) % m == 0) from by
        rw [ho, decide_eq_false h1, Bool.false_or]
        by_cases h4 : (N - n) % m = 0
        · rw [decide_eq_true ⟨h2, h3, h4⟩, h4]; rfl
        · rw [decide_eq_false (fun q => h4 q.2.2)]; symm; rw [beq_eq_false_iff_ne]; exact h4)
      clear ho
      go_enter Tryd.func20, Tryd.ntmps20
      go_wp2
      all_goals go_ret
      all_goals exact ⟨by rw [HO.out]; exact ret1 rfl, (((Below.refl w.heap.size w).alloc (Nat.le_refl _) _).alloc (by simp) _).alloc (by simp; try omega) _⟩
    · have HO := Lib.hid (show hits ⟨3, n, m⟩ ⟨N, last, hs⟩ = false from by
        rw [ho, decide_eq_false h1, Bool.false_or, decide_eq_false (fun q => h3 q.2.1)])
      clear ho
      go_enter Tryd.func20, Tryd.ntmps20
      go_wp2
      all_goals go_ret
      all_goals exact ⟨by rw [HO.out]; exact ret1 rfl, (((Below.refl w.heap.size w).alloc (Nat.le_refl _) _).alloc (by simp) _).alloc (by simp; try omega) _⟩
  · have HO := Lib.hid (show hits ⟨3, n, m⟩ ⟨N, last, hs⟩ = false from by
      rw [ho, decide_eq_false h1, Bool.false_or, decide_eq_false (fun q => h2 q.1)])
    clear ho
    go_enter Tryd.func20, Tryd.ntmps20
    go_wp2
    all_goals go_ret
    all_goals exact ⟨by rw [HO.out]; exact ret1 rfl, (((Below.refl w.heap.size w).alloc (Nat.le_refl _) _).alloc (by simp) _).alloc (by simp; try omega) _⟩
theorem hits_4e (n m N : Int) (last : Bool) (hs : List Bool) : hits ⟨4, n, m⟩ ⟨N, last, hs⟩ = (decide (0 ≤ n) && (hs[n.toNat]?).getD false) := by
  unfold hits; simp
set_option maxRecDepth 100000 in
set_option maxHeartbeats 1600000 in
theorem hits_4 (n m N : Int) (last : Bool) (ao : Option Addr) (c : Nat) (hs : List Bool) (w : World) (hb : Bs w (.slice ao hs.length c) hs) : HP 4 n m N last (.slice ao hs.length c) hs w := by
  have ho := hits_4e n m N last hs
  by_cases h1 : n < 0
  · have HO := Lib.hid (show hits ⟨4, n, m⟩ ⟨N, last, hs⟩ = false from by rw [ho, decide_eq_false (by omega : ¬ 0 ≤ n)]; rfl)
    clear ho
    go_enter Tryd.func20, Tryd.ntmps20
    go_wp2
    all_goals go_ret
    all_goals exact ⟨by rw [HO.out]; exact ret1 rfl, (((Below.refl w.heap.size w).alloc (Nat.le_refl _) _).alloc (by simp) _).alloc (by simp; try omega) _⟩
  by_cases h2 : n.toNat < hs.length
  · obtain ⟨k, rfl⟩ : ∃ k : Nat, n = (k : Int) := ⟨n.toNat, by omega⟩
    have h2' : k < hs.length := by simpa using h2
    have HO := Lib.hid (show hits ⟨4, (k : Int), m⟩ ⟨N, last, hs⟩ = hs[k] from by
      rw [ho, decide_eq_true (by omega : (0 : Int) ≤ (k : Int))]; simp [h2'])
    obtain ⟨ao', c', hv, hcs⟩ := hb
    obtain ⟨rfl, rfl⟩ : ao' = ao ∧ c' = c := by simp at hv; exact ⟨hv.1.symm, hv.2.symm⟩
    obtain ⟨a, rfl, hx⟩ := hcs k h2'
    have hlt : a.block < w.heap.size := by have := lt_cell hx; rwa [block_add] at this
    have hI : ((k : Nat) : Int) < ((hs.length : Nat) : Int) := by omega
    have h0 : (0 : Int) ≤ (k : Int) := by omega
    have hx3 : ∀ o1 o2 o3, (((w.alloc o1).alloc o2).alloc o3).cell? (a.add k) = some (.bool hs[k]) := fun o1 o2 o3 =>
      (((((Below.refl w.heap.size w).alloc (Nat.le_refl _) _).alloc (by simp) _).alloc (by simp; try omega) _ : Below w.heap.size w (((w.alloc o1).alloc o2).alloc o3)).cell (p := a.add k) (lt_cell hx)).trans hx
    clear ho hcs hv hx
    generalize hs[k] = b at *
    go_enter Tryd.func20, Tryd.ntmps20
    go_wp2
    all_goals go_ret
    all_goals exact ⟨by rw [HO.out]; exact ret1 rfl, (((Below.refl w.heap.size w).alloc (Nat.le_refl _) _).alloc (by simp) _).alloc (by simp; try omega) _⟩
  · have HO := Lib.hid (show hits ⟨4, n, m⟩ ⟨N, last, hs⟩ = false from by
      rw [ho, List.getElem?_eq_none (by omega)]; simp)
    have h3 : ((hs.length : Nat) : Int) ≤ n := by omega
    have h0 : (0 : Int) ≤ n := by omega
    clear ho
    go_enter Tryd.func20, Tryd.ntmps20
    go_wp2
    all_goals go_ret
    all_goals exact ⟨by rw [HO.out]; exact ret1 rfl, (((Below.refl w.heap.size w).alloc (Nat.le_refl _) _).alloc (by simp) _).alloc (by simp; try omega) _⟩
/-- What a walk of Hits asks. -/
def Ok (a : A3) (l : L3) : Prop := (a.k = 3 → 0 ≤ a.n) ∧ 0 ≤ l.n ∧ l.n ≤ 999999999
theorem hits_any (a : A3) (l : L3) (ao : Option Addr) (c : Nat) (w : World) (hk : Ok a l) (hb : Bs w (.slice ao l.has.length c) l.has) :
    Calls Tryd.prog 20 #[AV a, LV l.n l.last (.slice ao l.has.length c)] w fun e w' => e = .returned (.bool (hits a l)) ∧ Below w.heap.size w w' := by
  obtain ⟨k, n, m⟩ := a
  obtain ⟨N, last, hs⟩ := l
  by_cases h1 : k < 0
  · exact hits_low k n m N last ao _ c hs w h1
  by_cases h2 : 5 ≤ k
  · exact hits_high k n m N last ao _ c hs w h2
  obtain rfl | rfl | rfl | rfl | rfl : k = 0 ∨ k = 1 ∨ k = 2 ∨ k = 3 ∨ k = 4 := by omega
  · exact hits_0 n m N last ao _ c hs w
  · exact hits_1 n m N last ao _ c hs w
  · exact hits_2 n m N last ao _ c hs w
  · exact hits_3 n m N last ao _ c hs w (hk.1 rfl) hk.2
  · exact hits_4 n m N last ao c hs w hb
end Go.Proofs.YtcijhfdccbgcpaaDoor.Ad
