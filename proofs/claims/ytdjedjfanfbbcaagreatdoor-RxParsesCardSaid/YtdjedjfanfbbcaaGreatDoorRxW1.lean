/- Patterns: the walks of what a node is asked alone. -/
import Derived.Test.YtdjedjfanfbbcaaGreatDoorRxPlain
import Derived.Test.YtdjedjfanfbbcaaGreatDoorStPlain
import Derived.Test.YtdjedjfanfbbcaaGreatDoorShelf
import Derived.WalkKit
import Derived.WalkLawsBesides
import Derived.WalkSpells
import Derived.RowKit3
import Derived.Lib.Hide
import Derived.LoopN
import Derived.Handy
import Derived.Deep.WholeRow
import Derived.Deep.RegionHeld3
import Derived.Laws.StructEq
namespace Go.Proofs.YtdjedjfanfbbcaaGreatDoor.Rx
open Go.RowKit Go.Shelf
open Go.Proofs.YtdjedjfanfbbcaaGreatDoor.St (Wf word zeroW)
set_option linter.unusedVariables false
set_option linter.unusedSimpArgs false
abbrev S (l : List UInt8) : Value := .string ⟨l.toArray⟩
abbrev E (n : Int) : Value := .int .i64 n
abbrev U (n : Nat) : Value := .int .u64 (n : Int)
theorem ret1 {a a' : Value} (h1 : a = a') : Ending.returned a = .returned a' := by rw [h1]
/-- A node's cells. -/
abbrev NC (n : Nd) : Array Value := #[E n.k, U (word n.s 0), U (word n.s 1), U (word n.s 2), U (word n.s 3), E n.a, E n.b, E n.mn, E n.mx, E n.n]
abbrev NV (n : Nd) : Value := .agg (NC n)
theorem ansA {t : TypeId} {fs : Array Field} (hu : Tryz.prog.underlying t = some (.struct fs)) (n : Nat) (hs : (Tryz.prog.info? t).map (·.size) = some n) {fn : Func} {p : Tmp} (h : fn.results = #[.cell p t]) {tmps : Array Value} {w : World} {g : Nat} {c : Array Value} {tt : TypeId} {fr : Nat × Nat} (hp : tmps.getD p undef = .pointer (some ⟨g, 0, none⟩)) (hg : w.heap[g]? = some (.cells c tt fr)) (hc : c.size = n) :
    (results fn tmps).run Tryz.prog w = .ok (.agg c) w :=
  results_cell_row h tmps w g tt c fr (.struct fs) hp hg hu rfl (by rw [hc]; exact hs)
/-! ### parts -/
theorem parts_other (n : Nd) (w : World) (h4 : (n.k == 4) = false) (h5 : (n.k == 5) = false) (h6 : (n.k == 6) = false) (h7 : (n.k == 7) = false) :
    Calls Tryz.prog 25 #[NV n] w fun e w' => e = .returned (E 0) ∧ Below w.heap.size w w' := by
  go_enter Tryz.func25, Tryz.ntmps25
  go_wp2
  go_ret
  exact ⟨rfl, (Below.refl w.heap.size w).alloc (Nat.le_refl _) _⟩
theorem parts_two (n : Nd) (w : World) (h : n.k = 4 ∨ n.k = 5) :
    Calls Tryz.prog 25 #[NV n] w fun e w' => e = .returned (E 2) ∧ Below w.heap.size w w' := by
  obtain ⟨k, s, a, b, mn, mx, m⟩ := n
  dsimp only at h
  rcases h with rfl | rfl
  · go_enter Tryz.func25, Tryz.ntmps25
    go_wp2
    go_ret
    exact ⟨rfl, (Below.refl w.heap.size w).alloc (Nat.le_refl _) _⟩
  · go_enter Tryz.func25, Tryz.ntmps25
    go_wp2
    go_ret
    exact ⟨rfl, (Below.refl w.heap.size w).alloc (Nat.le_refl _) _⟩
theorem parts_one (n : Nd) (w : World) (h : n.k = 6 ∨ n.k = 7) :
    Calls Tryz.prog 25 #[NV n] w fun e w' => e = .returned (E 1) ∧ Below w.heap.size w w' := by
  obtain ⟨k, s, a, b, mn, mx, m⟩ := n
  dsimp only at h
  rcases h with rfl | rfl
  · go_enter Tryz.func25, Tryz.ntmps25
    go_wp2
    go_ret
    exact ⟨rfl, (Below.refl w.heap.size w).alloc (Nat.le_refl _) _⟩
  · go_enter Tryz.func25, Tryz.ntmps25
    go_wp2
    go_ret
    exact ⟨rfl, (Below.refl w.heap.size w).alloc (Nat.le_refl _) _⟩
theorem parts_any (n : Nd) (w : World) : Calls Tryz.prog 25 #[NV n] w fun e w' => e = .returned (E ((parts n : Nat) : Int)) ∧ Below w.heap.size w w' := by
  by_cases h4 : n.k = 4 ∨ n.k = 5
  · rw [show parts n = 2 from by unfold parts; rw [if_pos h4]]; exact parts_two n w h4
  by_cases h6 : n.k = 6 ∨ n.k = 7
  · rw [show parts n = 1 from by unfold parts; rw [if_neg h4, if_pos h6]]; exact parts_one n w h6
  · rw [show parts n = 0 from by unfold parts; rw [if_neg h4, if_neg h6]]
    exact parts_other n w (by simp; omega) (by simp; omega) (by simp; omega) (by simp; omega)
/-! ### plain -/
theorem infoN : (Tryz.prog.info? 45).map (·.size) = some 10 := by kernel_rfl
/-- A node with just the fields that its kind has. -/
def plainN (n : Nd) : Nd :=
  if n.k = 1 then ⟨1, n.s, 0, 0, 0, 0, 0⟩ else if n.k = 4 then ⟨4, z4, n.a, n.b, 0, 0, 0⟩ else if n.k = 5 then ⟨5, z4, n.a, n.b, 0, 0, 0⟩
  else if n.k = 6 then ⟨6, z4, n.a, 0, n.mn, n.mx, 0⟩ else if n.k = 7 then ⟨7, z4, n.a, 0, 0, 0, n.n⟩ else if n.k = 8 then ⟨8, z4, 0, 0, 0, 0, n.n⟩ else ⟨n.k, z4, 0, 0, 0, 0, 0⟩
theorem mid (w : World) (o1 o2 o3 : Obj) : (((w.alloc o1).alloc o2).alloc o3).heap[w.heap.size + 1]? = some o2 := by
  rw [Below.heap_alloc _ _ _ (by simp)]
  have := heap_alloc_new (w.alloc o1) o2
  simpa using this
theorem three_below (w : World) (o1 o2 o3 : Obj) : Below w.heap.size w (((w.alloc o1).alloc o2).alloc o3) :=
  (((Below.refl w.heap.size w).alloc (Nat.le_refl _) _).alloc (by simp) _).alloc (by simp; omega) _

theorem plain_other (n : Nd) (w : World) (h1 : (n.k == 1) = false) (h4 : (n.k == 4) = false) (h5 : (n.k == 5) = false) (h6 : (n.k == 6) = false) (h7 : (n.k == 7) = false) (h8 : (n.k == 8) = false) :
    Calls Tryz.prog 81 #[NV n] w fun e w' => e = .returned (NV ⟨n.k, z4, 0, 0, 0, 0, 0⟩) ∧ Below w.heap.size w w' := by
  go_enter Tryz.func81, Tryz.ntmps81
  go_wp2
  refine bodyPost_ret (v := NV ⟨n.k, z4, 0, 0, 0, 0, 0⟩) ?_ ?_ ?_
  · exact ansA Tryz.underlying45 10 infoN rfl rfl (mid _ _ _ _) rfl
  · rfl
  · exact ⟨rfl, three_below _ _ _ _⟩
theorem plain_1 (s : List Nat) (a b mn mx m : Int) (w : World) :
    Calls Tryz.prog 81 #[NV ⟨1, s, a, b, mn, mx, m⟩] w fun e w' => e = .returned (NV ⟨1, s, 0, 0, 0, 0, 0⟩) ∧ Below w.heap.size w w' := by
  go_enter Tryz.func81, Tryz.ntmps81
  go_wp2
  refine bodyPost_ret (v := NV ⟨1, s, 0, 0, 0, 0, 0⟩) ?_ ?_ ?_
  · exact ansA Tryz.underlying45 10 infoN rfl rfl (mid _ _ _ _) rfl
  · rfl
  · exact ⟨rfl, three_below _ _ _ _⟩
theorem plain_4 (s : List Nat) (a b mn mx m : Int) (w : World) :
    Calls Tryz.prog 81 #[NV ⟨4, s, a, b, mn, mx, m⟩] w fun e w' => e = .returned (NV ⟨4, z4, a, b, 0, 0, 0⟩) ∧ Below w.heap.size w w' := by
  go_enter Tryz.func81, Tryz.ntmps81
  go_wp2
  go_region
  go_wp2
  refine bodyPost_ret (v := NV ⟨4, z4, a, b, 0, 0, 0⟩) ?_ ?_ ?_
  · exact ansA Tryz.underlying45 10 infoN rfl rfl (mid _ _ _ _) rfl
  · rfl
  · exact ⟨rfl, (three_below _ _ _ _).drew⟩
theorem plain_5 (s : List Nat) (a b mn mx m : Int) (w : World) :
    Calls Tryz.prog 81 #[NV ⟨5, s, a, b, mn, mx, m⟩] w fun e w' => e = .returned (NV ⟨5, z4, a, b, 0, 0, 0⟩) ∧ Below w.heap.size w w' := by
  go_enter Tryz.func81, Tryz.ntmps81
  go_wp2
  go_region
  go_wp2
  refine bodyPost_ret (v := NV ⟨5, z4, a, b, 0, 0, 0⟩) ?_ ?_ ?_
  · exact ansA Tryz.underlying45 10 infoN rfl rfl (mid _ _ _ _) rfl
  · rfl
  · exact ⟨rfl, (three_below _ _ _ _).drew⟩
theorem plain_6 (s : List Nat) (a b mn mx m : Int) (w : World) :
    Calls Tryz.prog 81 #[NV ⟨6, s, a, b, mn, mx, m⟩] w fun e w' => e = .returned (NV ⟨6, z4, a, 0, mn, mx, 0⟩) ∧ Below w.heap.size w w' := by
  go_enter Tryz.func81, Tryz.ntmps81
  go_wp2
  go_region
  go_wp2
  refine bodyPost_ret (v := NV ⟨6, z4, a, 0, mn, mx, 0⟩) ?_ ?_ ?_
  · exact ansA Tryz.underlying45 10 infoN rfl rfl (mid _ _ _ _) rfl
  · rfl
  · exact ⟨rfl, (three_below _ _ _ _).drew⟩
theorem plain_7 (s : List Nat) (a b mn mx m : Int) (w : World) :
    Calls Tryz.prog 81 #[NV ⟨7, s, a, b, mn, mx, m⟩] w fun e w' => e = .returned (NV ⟨7, z4, a, 0, 0, 0, m⟩) ∧ Below w.heap.size w w' := by
  go_enter Tryz.func81, Tryz.ntmps81
  go_wp2
  go_region
  go_wp2
  refine bodyPost_ret (v := NV ⟨7, z4, a, 0, 0, 0, m⟩) ?_ ?_ ?_
  · exact ansA Tryz.underlying45 10 infoN rfl rfl (mid _ _ _ _) rfl
  · rfl
  · exact ⟨rfl, (three_below _ _ _ _).drew⟩
theorem plain_8 (s : List Nat) (a b mn mx m : Int) (w : World) :
    Calls Tryz.prog 81 #[NV ⟨8, s, a, b, mn, mx, m⟩] w fun e w' => e = .returned (NV ⟨8, z4, 0, 0, 0, 0, m⟩) ∧ Below w.heap.size w w' := by
  go_enter Tryz.func81, Tryz.ntmps81
  go_wp2
  refine bodyPost_ret (v := NV ⟨8, z4, 0, 0, 0, 0, m⟩) ?_ ?_ ?_
  · exact ansA Tryz.underlying45 10 infoN rfl rfl (mid _ _ _ _) rfl
  · rfl
  · exact ⟨rfl, three_below _ _ _ _⟩
theorem plain_any (n : Nd) (w : World) : Calls Tryz.prog 81 #[NV n] w fun e w' => e = .returned (NV (plainN n)) ∧ Below w.heap.size w w' := by
  obtain ⟨k, s, a, b, mn, mx, m⟩ := n
  by_cases h1 : k = 1
  · subst h1; exact plain_1 s a b mn mx m w
  by_cases h4 : k = 4
  · subst h4; exact plain_4 s a b mn mx m w
  by_cases h5 : k = 5
  · subst h5; exact plain_5 s a b mn mx m w
  by_cases h6 : k = 6
  · subst h6; exact plain_6 s a b mn mx m w
  by_cases h7 : k = 7
  · subst h7; exact plain_7 s a b mn mx m w
  by_cases h8 : k = 8
  · subst h8; exact plain_8 s a b mn mx m w
  rw [show plainN ⟨k, s, a, b, mn, mx, m⟩ = ⟨k, z4, 0, 0, 0, 0, 0⟩ from by unfold plainN; simp only [h1, h4, h5, h6, h7, h8, if_false]]
  exact plain_other ⟨k, s, a, b, mn, mx, m⟩ w (by simp; omega) (by simp; omega) (by simp; omega) (by simp; omega) (by simp; omega) (by simp; omega)
/-! ### Nodes held against each other -/
set_option maxRecDepth 100000 in
theorem run_eq4g (a b c d a' b' c' d' : Nat) (q : Nat) (w : World) : (Op.equalIn (q + 2) 43 (.agg #[U a, U b, U c, U d]) (.agg #[U a', U b', U c', U d'])).run Tryz.prog w = .ok (decide (a = a' ∧ b = b' ∧ c = c' ∧ d = d')) w := by
  have u3 := Tryz.underlying41
  have a3 := Tryz.isAgg41
  have z3 := Tryz.sizeOf41
  rw [show (q + 2 : Nat) = (q + 1) + 1 from rfl, Op.equalIn]
  simp only [Sem.run_bind, run_underlying Tryz.underlying43, Result.andThen_ok]
  simp only [Std.Legacy.Range.forIn_eq_forIn_range', Std.Legacy.Range.size, Nat.sub_zero, Nat.add_sub_cancel, Nat.div_one, List.range'_succ, List.range'_zero, List.forIn_cons, List.forIn_nil]
  by_cases ha : a = a'
  · subst ha
    by_cases hb : b = b'
    · subst hb
      by_cases hc : c = c'
      · subst hc
        by_cases hd : d = d'
        · subst hd; go_simp
        · have hdB : ((d : Int) == d') = false := by simp; omega
          go_simp
      · have hdB : ((c : Int) == c') = false := by simp; omega
        go_simp
    · have hdB : ((b : Int) == b') = false := by simp; omega
      go_simp
  · have hdB : ((a : Int) == a') = false := by simp; omega
    go_simp
end Go.Proofs.YtdjedjfanfbbcaaGreatDoor.Rx
