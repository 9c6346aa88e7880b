/- Patterns: which tree nodes are: plain facts. -/
import Derived.Test.YtdjedjfanfbbcaaGreatDoorRxBk
namespace Go.Proofs.YtdjedjfanfbbcaaGreatDoor.Rx
open Tr
open Go.Proofs.YtdjedjfanfbbcaaGreatDoor.St (Wf zeroW bytesL wf_zero)
set_option linter.unusedVariables false
set_option linter.unusedSimpArgs false
theorem root_eq {t u : Tr} {o : Nat} (h : t.nodes o = u.nodes o) : t.root o = u.root o ∧ t.size = u.size := by
  have hl : t.size = u.size := by rw [← nodes_len t o, ← nodes_len u o, h]
  have h1 := nodes_last t o
  rw [h, hl, nodes_last u o] at h1
  exact ⟨(Option.some.inj h1).symm, hl⟩
theorem nodes_inj : ∀ (t u : Tr) (o : Nat), t.nodes o = u.nodes o → t = u := by
  intro t
  induction t with
  | e | set s | beg | fin | ref n =>
    intro u o h
    have hr := (root_eq h).1
    cases u <;> simp_all [root]
  | cat x y ihx ihy | alt x y ihx ihy =>
    intro u o h
    have hr := (root_eq h).1
    have px := size_pos x
    have py := size_pos y
    cases u with
    | cat x' y' | alt x' y' =>
      first
        | (simp only [root, Nd.mk.injEq] at hr; exfalso; have := hr.1; revert this; decide)
        | (have px' := size_pos x'
           have py' := size_pos y'
           simp only [root, Nd.mk.injEq] at hr
           have ex : x.size = x'.size := by omega
           have ey : y.size = y'.size := by omega
           simp only [nodes, List.append_assoc] at h
           have h1 := List.append_inj h (by rw [nodes_len, nodes_len, ex])
           rw [ex] at h1
           have h2 := List.append_inj h1.2 (by rw [nodes_len, nodes_len, ey])
           rw [ihx x' o h1.1, ihy y' _ h2.1])
    | e | set s | beg | fin | ref n | times mn mx x' | grp n x' => simp [root] at hr
  | times mn mx x ihx | grp n x ihx =>
    intro u o h
    have hr := (root_eq h).1
    have px := size_pos x
    cases u with
    | times mn' mx' x' | grp n' x' =>
      first
        | (simp only [root, Nd.mk.injEq] at hr; exfalso; have := hr.1; revert this; decide)
        | (have px' := size_pos x'
           simp only [root, Nd.mk.injEq] at hr
           have ex : x.size = x'.size := by omega
           simp only [nodes] at h
           have h1 := List.append_inj h (by rw [nodes_len, nodes_len, ex])
           rw [ihx x' o h1.1]
           simp [hr])
    | e | set s | beg | fin | ref n | cat x' y' | alt x' y' => simp [root] at hr
/-- The tree that nodes are, if they are a pattern. -/
def patOf (l : List Nd) : Option Tr := match ordRun l l.length, treesRun l l.length with
  | some [_], [t] => if l.length ≤ 120 ∧ (numT t num0).ok = true then some t else none
  | _, _ => none
theorem patOf_some {l : List Nd} {t : Tr} (h : patOf l = some t) : l = t.nodes 0 ∧ Good t := by
  unfold patOf at h
  split at h
  · rename_i i t' h1 h2
    split at h
    · rename_i hc
      obtain rfl := Option.some.inj h
      obtain ⟨hf, hn, hr⟩ := run_trees l _ _ h1
      rw [List.take_length, h2] at hn
      rw [h2] at hf
      have hl : l = t'.nodes 0 := by rw [hn]; simp [nodesL]
      have hw := hf t' (by simp)
      have hs : l.length = t'.size := by rw [hl, nodes_len]
      rw [hs] at hw
      exact ⟨hl, hw, by omega, hc.2⟩
    · cases h
  · cases h
theorem patOf_good {t : Tr} (h : Good t) : patOf (t.nodes 0) = some t := by
  obtain ⟨i, hi⟩ := (ordered_iff (t.nodes 0)).2 ⟨t, h.1, rfl⟩
  obtain ⟨hf, hn, hr⟩ := run_trees _ _ _ hi
  unfold patOf
  rw [hi]
  generalize treesRun (t.nodes 0) (t.nodes 0).length = ts at *
  match ts, hr with
  | [u], hr =>
    rw [List.take_length] at hn
    have e : t.nodes 0 = u.nodes 0 := by rw [hn]; simp [nodesL]
    obtain rfl := nodes_inj t u 0 e
    dsimp only
    rw [if_pos ⟨by rw [nodes_len]; exact h.2.1, h.2.2⟩]
  | [], hr => simp [rootsL] at hr
  | _ :: _ :: _, hr => simp [rootsL] at hr
theorem patOf_none {l : List Nd} (h : patOf l = none) (t : Tr) (e : l = t.nodes 0) : ¬ Good t := by
  intro hg
  rw [e, patOf_good hg] at h
  cases h
/-- The text that nodes are told by. -/
def textL (l : List Nd) : List UInt8 := match patOf l with
  | some t => textT t
  | none => []
def groupsL (l : List Nd) : Int := match patOf l with
  | some t => cnt t
  | none => 0
def refsL (l : List Nd) : Bool := match patOf l with
  | some t => decide (0 < refsT t)
  | none => false
def mayL (l : List Nd) : Bool := (patOf l).isSome
theorem sets_nodes : ∀ (t : Tr) (o : Nat), (∀ n ∈ t.nodes o, Wf n.s) → SetsOk t
  | .e, _, _ | .beg, _, _ | .fin, _, _ | .ref _, _, _ => trivial
  | .set s, o, h => by
    have := h ((Tr.set s).root o) (by simp [nodes])
    exact this
  | .cat x y, o, h | .alt x y, o, h => ⟨sets_nodes x o fun n hn => h n (by simp [nodes, hn]), sets_nodes y (o + x.size) fun n hn => h n (by simp [nodes, hn])⟩
  | .times _ _ x, o, h | .grp _ x, o, h => sets_nodes x o fun n hn => h n (by simp [nodes, hn])
theorem nodes_sets : ∀ (t : Tr) (o : Nat), SetsOk t → ∀ n ∈ t.nodes o, Wf n.s
  | .e, o, h, n, hn | .beg, o, h, n, hn | .fin, o, h, n, hn | .ref _, o, h, n, hn => by
    simp only [nodes, List.mem_singleton] at hn
    subst hn; exact wf_zero
  | .set s, o, h, n, hn => by
    simp only [nodes, List.mem_singleton] at hn
    subst hn; exact h
  | .cat x y, o, h, n, hn | .alt x y, o, h, n, hn => by
    simp only [nodes, List.mem_append, List.mem_singleton] at hn
    rcases hn with (hn | hn) | rfl
    · exact nodes_sets x o h.1 n hn
    · exact nodes_sets y _ h.2 n hn
    · exact wf_zero
  | .times _ _ x, o, h, n, hn | .grp _ x, o, h, n, hn => by
    simp only [nodes, List.mem_append, List.mem_singleton] at hn
    rcases hn with hn | rfl
    · exact nodes_sets x o h n hn
    · exact wf_zero
/-- What a text is read as. -/
def parseL (s : List UInt8) : Option (List Nd) :=
  let p := (nodeP 120 ⟨s, [], 0, false⟩).1
  if p.bad = false ∧ mayL p.l = true ∧ textL p.l = s then some p.l else none
theorem parse_text {t : Tr} (h : Good t) (hs : SetsOk t) : parseL (textT t) = some (t.nodes 0) := by
  have h1 := node_text _ t 120 [] [] 0 h.1 h.numOk hs h.2.1 (by have := h.2.1; simp; omega)
  rw [List.append_nil] at h1
  unfold parseL
  rw [h1]
  have e := patOf_good h
  simp only [List.nil_append, List.length_nil]
  unfold mayL textL
  rw [e]
  simp
theorem parse_some {s : List UInt8} {l : List Nd} (h : parseL s = some l) : mayL l = true ∧ textL l = s := by
  unfold parseL at h
  dsimp only at h
  split at h
  · rename_i hc
    obtain rfl := Option.some.inj h
    exact ⟨hc.2.1, hc.2.2⟩
  · cases h
theorem parse_nil : parseL [] = none := rfl
end Go.Proofs.YtdjedjfanfbbcaaGreatDoor.Rx
