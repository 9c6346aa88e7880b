/- Patterns: look, May, Groups, Refs: the walks. -/
import Derived.Test.YtdjedjfanfbbcaaGreatDoorRxOrd
import Derived.Test.YtdjedjfanfbbcaaGreatDoorRxNum2
import Derived.Test.YtdjedjfanfbbcaaGreatDoorRxPat
namespace Go.Proofs.YtdjedjfanfbbcaaGreatDoor.Rx
open Go.RowKit Go.Shelf
open Go.Proofs.YtdjedjfanfbbcaaGreatDoor.St (Wf word zeroW)
open Tr
set_option linter.unusedVariables false
set_option linter.unusedSimpArgs false
abbrev LR (l : List Nd) : Value := .tuple #[E (groupsL l), .bool (refsL l), .bool (mayL l)]
theorem lr_none {l : List Nd} (h : patOf l = none) : LR l = .tuple #[E 0, .bool false, .bool false] := by
  unfold LR groupsL refsL mayL; rw [h]; rfl
theorem lr_some {l : List Nd} {t : Tr} (h : patOf l = some t) : LR l = .tuple #[E (cnt t), .bool (decide (0 < refsT t)), .bool true] := by
  unfold LR groupsL refsL mayL; rw [h]; rfl
theorem pat_long {l : List Nd} (h : 120 < l.length) : patOf l = none := by
  cases e : patOf l with
  | none => rfl
  | some t =>
    obtain ⟨h1, h2⟩ := patOf_some e
    have := h2.2.1
    rw [h1, nodes_len] at h
    omega
theorem pat_out {l : List Nd} (h : ¬ Ordered l) : patOf l = none := by
  cases e : patOf l with
  | none => rfl
  | some t =>
    obtain ⟨h1, h2⟩ := patOf_some e
    exact absurd ((ordered_iff l).2 ⟨t, h2.1, h1⟩) h
set_option maxRecDepth 100000 in
theorem look_nil (ao : Option Addr) (c : Nat) (w : World) : Calls Tryz.prog 23 #[.slice ao 0 c] w fun e w' => e = .returned (.tuple #[E 0, .bool false, .bool false]) ∧ Below w.heap.size w w' := by
  go_enter Tryz.func23, Tryz.ntmps23
  go_wp2
  refine bodyPost_ret (v := .tuple #[E 0, .bool false, .bool false]) ?_ rfl ⟨rfl, Below.refl _ _⟩
  rw [results_tmp3 rfl]
  rfl
set_option maxRecDepth 100000 in
theorem look_long (ao : Option Addr) (n c : Nat) (h : 120 < n) (w : World) : Calls Tryz.prog 23 #[.slice ao n c] w fun e w' => e = .returned (.tuple #[E 0, .bool false, .bool false]) ∧ Below w.heap.size w w' := by
  have h0 : (((n : Nat) : Int) == 0) = false := by simp; omega
  have h1 : (120 : Int) < ((n : Nat) : Int) := by omega
  go_enter Tryz.func23, Tryz.ntmps23
  go_wp2
  refine bodyPost_ret (v := .tuple #[E 0, .bool false, .bool false]) ?_ rfl ⟨rfl, Below.refl _ _⟩
  rw [results_tmp3 rfl]
  rfl
set_option maxRecDepth 100000 in
theorem look_out (ao : Option Addr) (c : Nat) (l : List Nd) (w : World) (h : Ns w (.slice ao l.length c) l) (hw : ∀ n ∈ l, Wf n.s) (hl0 : 0 < l.length) (hl : l.length ≤ 120) (ho : ¬ Ordered l) :
    Calls Tryz.prog 23 #[.slice ao l.length c] w fun e w' => e = .returned (.tuple #[E 0, .bool false, .bool false]) ∧ Below w.heap.size w w' := by
  have C1 := ordered_any ao c l w h hw hl
  rw [decide_eq_false ho] at C1
  have HC := Lib.hid C1
  clear C1 h hw ho
  have h0 : (((l.length : Nat) : Int) == 0) = false := by rw [beq_eq_false_iff_ne]; omega
  have h1 : ¬ (120 : Int) < ((l.length : Nat) : Int) := by omega
  generalize l.length = n at *
  go_enter Tryz.func23, Tryz.ntmps23
  go_wp2_with (go_at_call 43; refine HC.out.mono ?_; rintro e w1 ⟨rfl, hb⟩; have HB := Lib.hid hb; clear hb)
  refine bodyPost_ret (v := .tuple #[E 0, .bool false, .bool false]) ?_ rfl ⟨rfl, HB.out⟩
  rw [results_tmp3 rfl]
  rfl
set_option maxRecDepth 100000 in
theorem look_tree (t : Tr) (ao : Option Addr) (c : Nat) (w : World) (h : Ns w (.slice ao (t.nodes 0).length c) (t.nodes 0)) (hw : ∀ n ∈ t.nodes 0, Wf n.s) (ht : Whole t) (hs : t.size ≤ 120) :
    Calls Tryz.prog 23 #[.slice ao (t.nodes 0).length c] w fun e w' => e = .returned (LR (t.nodes 0)) ∧ Below w.heap.size w w' := by
  have hp := size_pos t
  have hlen := nodes_len t 0
  have C1 := ordered_any ao c _ w h hw (by omega)
  rw [decide_eq_true ((ordered_iff _).2 ⟨t, ht, rfl⟩)] at C1
  have HC := Lib.hid C1
  have HC2 := Lib.hid (fun w' (hb : Below w.heap.size w w') => numbered_tree t ao c w' (h.below hb) ht hs)
  have HL : Hid (LR (t.nodes 0) = if (numT t num0).ok = true then .tuple #[E (numT t num0).g, .bool (numT t num0).r, .bool true] else .tuple #[E 0, .bool false, .bool false]) := Lib.hid (by
    split
    · rename_i hok
      rw [lr_some (patOf_good ⟨ht, hs, hok⟩), num_g, num_r]
      show _ = Value.tuple #[E (0 + cnt t), .bool (false || _), .bool true]
      rw [Int.zero_add, Bool.false_or]
    · rename_i hok
      refine lr_none ?_
      cases e : patOf (t.nodes 0) with
      | none => rfl
      | some u =>
        obtain ⟨h1, h2⟩ := patOf_some e
        obtain rfl := nodes_inj t u 0 h1
        exact absurd h2.2.2 hok)
  clear C1 h hw
  have h0 : (((t.nodes 0).length : Int) == 0) = false := by rw [hlen]; simp; omega
  have h1 : ¬ (120 : Int) < (((t.nodes 0).length : Nat) : Int) := by omega
  clear hlen
  generalize (t.nodes 0).length = n at *
  generalize numT t num0 = s1 at *
  cases hok : s1.ok with
  | false =>
    rw [hok] at HC2 HL
    go_enter Tryz.func23, Tryz.ntmps23
    go_wp2_with (first
      | (go_at_call 43; refine HC.out.mono ?_; rintro e w1 ⟨rfl, hb⟩; have HB := Lib.hid hb; clear hb)
      | (go_at_call 44; refine (HC2.out _ HB.out).mono ?_; rintro e w2 ⟨rfl, hb⟩; have HB2 := Lib.hid hb; clear hb))
    refine bodyPost_ret (v := .tuple #[E 0, .bool false, .bool false]) ?_ rfl ⟨by rw [HL.out]; rfl, HB.out.trans (HB2.out.mono HB.out.size)⟩
    rw [results_tmp3 rfl]
    rfl
  | true =>
    rw [hok] at HC2 HL
    go_enter Tryz.func23, Tryz.ntmps23
    go_wp2_with (first
      | (go_at_call 43; refine HC.out.mono ?_; rintro e w1 ⟨rfl, hb⟩; have HB := Lib.hid hb; clear hb)
      | (go_at_call 44; refine (HC2.out _ HB.out).mono ?_; rintro e w2 ⟨rfl, hb⟩; have HB2 := Lib.hid hb; clear hb))
    refine bodyPost_ret (v := .tuple #[E s1.g, .bool s1.r, .bool true]) ?_ rfl ⟨by rw [HL.out]; rfl, HB.out.trans (HB2.out.mono HB.out.size)⟩
    rw [results_tmp3 rfl]
    rfl
theorem look_any (ao : Option Addr) (c : Nat) (l : List Nd) (w : World) (h : Ns w (.slice ao l.length c) l) (hw : ∀ n ∈ l, Wf n.s) :
    Calls Tryz.prog 23 #[.slice ao l.length c] w fun e w' => e = .returned (LR l) ∧ Below w.heap.size w w' := by
  by_cases h0 : l.length = 0
  · obtain rfl := List.length_eq_zero_iff.1 h0
    rw [lr_none rfl]
    exact look_nil ao c w
  by_cases h1 : 120 < l.length
  · rw [lr_none (pat_long h1)]
    exact look_long ao l.length c h1 w
  by_cases ho : Ordered l
  · obtain ⟨t, ht, rfl⟩ := (ordered_iff l).1 ho
    exact look_tree t ao c w h hw ht (by rw [nodes_len] at h1; omega)
  · rw [lr_none (pat_out ho)]
    exact look_out ao c l w h hw (by omega) (by omega) ho
set_option maxRecDepth 100000 in
theorem may_any (ao : Option Addr) (c : Nat) (l : List Nd) (w : World) (h : Ns w (.slice ao l.length c) l) (hw : ∀ n ∈ l, Wf n.s) :
    Calls Tryz.prog 10 #[.slice ao l.length c] w fun e w' => e = .returned (.bool (mayL l)) ∧ Below w.heap.size w w' := by
  have HC := Lib.hid (look_any ao c l w h hw)
  clear h hw
  generalize l.length = n at *
  go_enter Tryz.func10, Tryz.ntmps10
  go_wp2_with (go_at_call 23; refine HC.out.mono ?_; rintro e w1 ⟨rfl, hb⟩; have HB := Lib.hid hb; clear hb)
  go_ret
  exact ⟨rfl, HB.out⟩
set_option maxRecDepth 100000 in
theorem groups_any (ao : Option Addr) (c : Nat) (l : List Nd) (w : World) (h : Ns w (.slice ao l.length c) l) (hw : ∀ n ∈ l, Wf n.s) :
    Calls Tryz.prog 12 #[.slice ao l.length c] w fun e w' => e = .returned (E (groupsL l)) ∧ Below w.heap.size w w' := by
  have HC := Lib.hid (look_any ao c l w h hw)
  clear h hw
  generalize l.length = n at *
  go_enter Tryz.func12, Tryz.ntmps12
  go_wp2_with (go_at_call 23; refine HC.out.mono ?_; rintro e w1 ⟨rfl, hb⟩; have HB := Lib.hid hb; clear hb)
  go_ret
  exact ⟨rfl, HB.out⟩
set_option maxRecDepth 100000 in
theorem refs_any (ao : Option Addr) (c : Nat) (l : List Nd) (w : World) (h : Ns w (.slice ao l.length c) l) (hw : ∀ n ∈ l, Wf n.s) :
    Calls Tryz.prog 14 #[.slice ao l.length c] w fun e w' => e = .returned (.bool (refsL l)) ∧ Below w.heap.size w w' := by
  have HC := Lib.hid (look_any ao c l w h hw)
  clear h hw
  generalize l.length = n at *
  go_enter Tryz.func14, Tryz.ntmps14
  go_wp2_with (go_at_call 23; refine HC.out.mono ?_; rintro e w1 ⟨rfl, hb⟩; have HB := Lib.hid hb; clear hb)
  go_ret
  exact ⟨rfl, HB.out⟩
end Go.Proofs.YtdjedjfanfbbcaaGreatDoor.Rx
