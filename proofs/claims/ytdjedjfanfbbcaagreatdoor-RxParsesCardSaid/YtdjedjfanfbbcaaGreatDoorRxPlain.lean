/- Patterns: nodes that stand in order, and trees: plain facts. -/
import Derived.Laws.BitsAllLaws
namespace Go.Proofs.YtdjedjfanfbbcaaGreatDoor.Rx
set_option linter.unusedVariables false
set_option linter.unusedSimpArgs false
/-- A node: its kind, its set as four words, its places, its numbers. -/
structure Nd where
  k : Int
  s : List Nat
  a : Int
  b : Int
  mn : Int
  mx : Int
  n : Int
  deriving DecidableEq, Repr
def z4 : List Nat := [0, 0, 0, 0]
def parts (n : Nd) : Nat := if n.k = 4 ∨ n.k = 5 then 2 else if n.k = 6 ∨ n.k = 7 then 1 else 0
def OneN (n : Nd) : Prop :=
  ((n.k = 0 ∨ n.k = 2 ∨ n.k = 3) ∧ n.s = z4 ∧ n.a = 0 ∧ n.b = 0 ∧ n.mn = 0 ∧ n.mx = 0 ∧ n.n = 0) ∨
  (n.k = 1 ∧ n.s ≠ z4 ∧ n.a = 0 ∧ n.b = 0 ∧ n.mn = 0 ∧ n.mx = 0 ∧ n.n = 0) ∨
  ((n.k = 4 ∨ n.k = 5) ∧ n.s = z4 ∧ n.mn = 0 ∧ n.mx = 0 ∧ n.n = 0) ∨
  (n.k = 6 ∧ n.s = z4 ∧ n.b = 0 ∧ n.n = 0 ∧ 0 ≤ n.mn ∧ n.mn ≤ 255 ∧ (n.mx = -1 ∨ (n.mn ≤ n.mx ∧ 1 ≤ n.mx ∧ n.mx ≤ 255))) ∨
  (n.k = 7 ∧ n.s = z4 ∧ n.b = 0 ∧ n.mn = 0 ∧ n.mx = 0 ∧ 1 ≤ n.n ∧ n.n ≤ 9) ∨
  (n.k = 8 ∧ n.s = z4 ∧ n.a = 0 ∧ n.b = 0 ∧ n.mn = 0 ∧ n.mx = 0 ∧ 1 ≤ n.n ∧ n.n ≤ 9)
instance (n : Nd) : Decidable (OneN n) := by unfold OneN; infer_instance
def kindAt (l : List Nd) (j : Int) : Int := ((l[j.toNat]?).map Nd.k).getD (-1)
def Fits (l : List Nd) (n : Nd) : Prop :=
  if n.k = 4 then kindAt l n.a ≠ 4 ∧ kindAt l n.a ≠ 5 ∧ kindAt l n.b ≠ 5
  else if n.k = 5 then kindAt l n.a ≠ 5
  else if n.k = 6 then kindAt l n.a = 1 ∨ kindAt l n.a = 7 ∨ kindAt l n.a = 8
  else True
instance (l : List Nd) (n : Nd) : Decidable (Fits l n) := by unfold Fits; infer_instance
def BelowOk (n : Nd) : List Nat → Prop
  | [] => True
  | [x] => (x : Int) = n.a
  | x :: y :: _ => (x : Int) = n.a ∧ (y : Int) = n.b
instance (n : Nd) (l : List Nat) : Decidable (BelowOk n l) := by unfold BelowOk; split <;> infer_instance
/-- What a node asks of the stack. -/
def StepOk (l : List Nd) (n : Nd) (st : List Nat) : Prop :=
  OneN n ∧ parts n ≤ st.length ∧ ¬ (n.k = 0 ∧ 1 < l.length) ∧ BelowOk n (st.drop (st.length - parts n)) ∧ Fits l n
instance (l : List Nd) (n : Nd) (st : List Nat) : Decidable (StepOk l n st) := by unfold StepOk; infer_instance
def push (n : Nd) (i : Nat) (st : List Nat) : List Nat := st.take (st.length - parts n) ++ [i]
def ordRun (l : List Nd) : Nat → Option (List Nat)
  | 0 => some []
  | i + 1 => (ordRun l i).bind fun st => match l[i]? with
    | none => none
    | some n => if StepOk l n st then some (push n i st) else none
def Ordered (l : List Nd) : Prop := ∃ i, ordRun l l.length = some [i]

/-! ### Trees -/
inductive Tr where
  | e
  | set (s : List Nat)
  | beg
  | fin
  | cat (x y : Tr)
  | alt (x y : Tr)
  | times (mn mx : Int) (x : Tr)
  | grp (n : Int) (x : Tr)
  | ref (n : Int)
  deriving Repr
namespace Tr
def size : Tr → Nat
  | cat x y => x.size + y.size + 1
  | alt x y => x.size + y.size + 1
  | times _ _ x => x.size + 1
  | grp _ x => x.size + 1
  | _ => 1
def rk : Tr → Int
  | e => 0
  | set _ => 1
  | beg => 2
  | fin => 3
  | cat _ _ => 4
  | alt _ _ => 5
  | times _ _ _ => 6
  | grp _ _ => 7
  | ref _ => 8
/-- The node at a tree's root, where the tree begins at a place. -/
def root (t : Tr) (o : Nat) : Nd := match t with
  | e => ⟨0, z4, 0, 0, 0, 0, 0⟩
  | set s => ⟨1, s, 0, 0, 0, 0, 0⟩
  | beg => ⟨2, z4, 0, 0, 0, 0, 0⟩
  | fin => ⟨3, z4, 0, 0, 0, 0, 0⟩
  | cat x y => ⟨4, z4, (o + x.size - 1 : Nat), (o + x.size + y.size - 1 : Nat), 0, 0, 0⟩
  | alt x y => ⟨5, z4, (o + x.size - 1 : Nat), (o + x.size + y.size - 1 : Nat), 0, 0, 0⟩
  | times mn mx x => ⟨6, z4, (o + x.size - 1 : Nat), 0, mn, mx, 0⟩
  | grp n x => ⟨7, z4, (o + x.size - 1 : Nat), 0, 0, 0, n⟩
  | ref n => ⟨8, z4, 0, 0, 0, 0, n⟩
/-- The nodes of a tree that begins at a place: its parts first. -/
def nodes (t : Tr) (o : Nat) : List Nd := match t with
  | cat x y => x.nodes o ++ y.nodes (o + x.size) ++ [(cat x y).root o]
  | alt x y => x.nodes o ++ y.nodes (o + x.size) ++ [(alt x y).root o]
  | times mn mx x => x.nodes o ++ [(times mn mx x).root o]
  | grp n x => x.nodes o ++ [(grp n x).root o]
  | t => [t.root o]
def Fine (em : Prop) : Tr → Prop
  | e => em
  | set s => s ≠ z4
  | beg => True
  | fin => True
  | cat x y => x.Fine em ∧ y.Fine em ∧ x.rk ≠ 4 ∧ x.rk ≠ 5 ∧ y.rk ≠ 5
  | alt x y => x.Fine em ∧ y.Fine em ∧ x.rk ≠ 5
  | times mn mx x => x.Fine em ∧ 0 ≤ mn ∧ mn ≤ 255 ∧ (mx = -1 ∨ (mn ≤ mx ∧ 1 ≤ mx ∧ mx ≤ 255)) ∧ (x.rk = 1 ∨ x.rk = 7 ∨ x.rk = 8)
  | grp n x => x.Fine em ∧ 1 ≤ n ∧ n ≤ 9
  | ref n => 1 ≤ n ∧ n ≤ 9
theorem size_pos : ∀ t : Tr, 0 < t.size
  | e | set _ | beg | fin | ref _ => by simp [size]
  | cat _ _ | alt _ _ | times _ _ _ | grp _ _ => by simp [size]
theorem nodes_len : ∀ (t : Tr) (o : Nat), (t.nodes o).length = t.size
  | e, o | set _, o | beg, o | fin, o | ref _, o => by simp [nodes, size]
  | cat x y, o | alt x y, o => by simp [nodes, size, nodes_len x, nodes_len y]; omega
  | times _ _ x, o | grp _ x, o => by simp [nodes, size, nodes_len x]
theorem root_k (t : Tr) (o : Nat) : (t.root o).k = t.rk := by cases t <;> rfl
/-- The last node is the root. -/
theorem nodes_last (t : Tr) (o : Nat) : (t.nodes o)[t.size - 1]? = some (t.root o) := by
  have h : ∃ p, t.nodes o = p ++ [t.root o] := by
    cases t with
    | cat x y => exact ⟨x.nodes o ++ y.nodes (o + x.size), rfl⟩
    | alt x y => exact ⟨x.nodes o ++ y.nodes (o + x.size), rfl⟩
    | times mn mx x => exact ⟨x.nodes o, rfl⟩
    | grp n x => exact ⟨x.nodes o, rfl⟩
    | e => exact ⟨[], rfl⟩
    | set s => exact ⟨[], rfl⟩
    | beg => exact ⟨[], rfl⟩
    | fin => exact ⟨[], rfl⟩
    | ref n => exact ⟨[], rfl⟩
  obtain ⟨p, hp⟩ := h
  have hl := nodes_len t o
  rw [hp] at hl ⊢
  have : t.size - 1 = p.length := by simp at hl; omega
  rw [this]; simp
end Tr
open Tr
/-! ### A stack of trees -/
def nodesL : List Tr → Nat → List Nd
  | [], _ => []
  | t :: ts, o => t.nodes o ++ nodesL ts (o + t.size)
def sizeL : List Tr → Nat
  | [] => 0
  | t :: ts => t.size + sizeL ts
def rootsL : List Tr → Nat → List Nat
  | [], _ => []
  | t :: ts, o => (o + t.size - 1) :: rootsL ts (o + t.size)
theorem nodesL_len : ∀ (ts : List Tr) (o : Nat), (nodesL ts o).length = sizeL ts
  | [], o => rfl
  | t :: ts, o => by simp [nodesL, sizeL, nodes_len, nodesL_len ts]
theorem rootsL_len : ∀ (ts : List Tr) (o : Nat), (rootsL ts o).length = ts.length
  | [], o => rfl
  | t :: ts, o => by simp [rootsL, rootsL_len ts]
theorem nodesL_append : ∀ (ts us : List Tr) (o : Nat), nodesL (ts ++ us) o = nodesL ts o ++ nodesL us (o + sizeL ts)
  | [], us, o => by simp [nodesL, sizeL]
  | t :: ts, us, o => by simp [nodesL, sizeL, nodesL_append ts, Nat.add_assoc]
theorem rootsL_append : ∀ (ts us : List Tr) (o : Nat), rootsL (ts ++ us) o = rootsL ts o ++ rootsL us (o + sizeL ts)
  | [], us, o => by simp [rootsL, sizeL]
  | t :: ts, us, o => by simp [rootsL, sizeL, rootsL_append ts, Nat.add_assoc]
theorem sizeL_append : ∀ (ts us : List Tr), sizeL (ts ++ us) = sizeL ts + sizeL us
  | [], us => by simp [sizeL]
  | t :: ts, us => by simp [sizeL, sizeL_append ts, Nat.add_assoc]
theorem split_one {α : Type} {l : List α} {n : Nat} (h : l.length = n + 1) : ∃ p x, l = p ++ [x] ∧ p.length = n := by
  obtain rfl | ⟨p, x, rfl⟩ := List.eq_nil_or_concat l
  · simp at h
  · exact ⟨p, x, by simp, by simpa using h⟩
theorem kind_root {l : List Nd} {ts us : List Tr} {t : Tr} {i : Nat} (h : l.take i = nodesL (ts ++ t :: us) 0) : kindAt l ((sizeL ts + t.size - 1 : Nat) : Int) = t.rk := by
  unfold kindAt
  have hp := size_pos t
  have e : (l.take i)[sizeL ts + t.size - 1]? = some (t.root (sizeL ts)) := by
    rw [h, nodesL_append, List.getElem?_append_right (by rw [nodesL_len]; omega), nodesL_len]
    unfold nodesL
    rw [List.getElem?_append_left (by rw [nodes_len]; omega), Nat.zero_add]
    have : sizeL ts + t.size - 1 - sizeL ts = t.size - 1 := by omega
    rw [this]
    exact nodes_last t _
  have hi : sizeL ts + t.size - 1 < i := by
    rcases Nat.lt_or_ge (sizeL ts + t.size - 1) i with h1 | h1
    · exact h1
    · rw [List.getElem?_eq_none (by rw [List.length_take]; omega)] at e; cases e
  rw [List.getElem?_take_of_lt hi] at e
  rw [Int.toNat_natCast, e]
  simp [root_k]
/-- The stack of trees behind a node. -/
def build (n : Nd) (ts : List Tr) : List Tr :=
  if n.k = 0 then ts ++ [.e] else if n.k = 1 then ts ++ [.set n.s] else if n.k = 2 then ts ++ [.beg] else if n.k = 3 then ts ++ [.fin] else if n.k = 8 then ts ++ [.ref n.n]
  else match ts.reverse with
    | [] => ts
    | y :: us => if n.k = 6 then us.reverse ++ [.times n.mn n.mx y] else if n.k = 7 then us.reverse ++ [.grp n.n y]
      else match us with
        | [] => ts
        | x :: vs => if n.k = 4 then vs.reverse ++ [.cat x y] else vs.reverse ++ [.alt x y]
theorem step_trees {l : List Nd} {i : Nat} {n : Nd} {ts : List Tr} (hf : ∀ t ∈ ts, t.Fine (l.length ≤ 1)) (hn : l.take i = nodesL ts 0) (hl : l[i]? = some n) (hok : StepOk l n (rootsL ts 0)) :
    (∀ t ∈ build n ts, t.Fine (l.length ≤ 1)) ∧ l.take (i + 1) = nodesL (build n ts) 0 ∧ push n i (rootsL ts 0) = rootsL (build n ts) 0 := by
  obtain ⟨h1, h2, h3, h4, h5⟩ := hok
  rw [rootsL_len] at h2
  have hil : i < l.length := (List.getElem?_eq_some_iff.1 hl).1
  have hi : i = sizeL ts := by
    have := congrArg List.length hn
    rw [List.length_take, nodesL_len] at this
    omega
  have htk : l.take (i + 1) = nodesL ts 0 ++ [n] := by
    rw [List.take_succ_eq_append_getElem hil, hn]
    congr 2
    rw [List.getElem?_eq_getElem hil] at hl
    exact Option.some.inj hl
  have leaf : ∀ t : Tr, t.nodes i = [t.root i] → t.root i = n → t.Fine (l.length ≤ 1) → parts n = 0 → (∀ u ∈ ts ++ [t], u.Fine (l.length ≤ 1)) ∧ l.take (i + 1) = nodesL (ts ++ [t]) 0 ∧ push n i (rootsL ts 0) = rootsL (ts ++ [t]) 0 := by
    intro t e1 e2 e3 e4
    have hs : t.size = 1 := by have := nodes_len t i; rw [e1] at this; simpa using this.symm
    refine ⟨fun u hu => ?_, ?_, ?_⟩
    · rw [List.mem_append, List.mem_singleton] at hu
      rcases hu with hu | rfl
      · exact hf u hu
      · exact e3
    · rw [htk, nodesL_append]
      simp only [nodesL, List.append_nil, Nat.zero_add]
      rw [← hi, e1, e2]
    · unfold push
      rw [e4, rootsL_append, Nat.sub_zero, List.take_of_length_le (Nat.le_refl _)]
      simp only [rootsL, Nat.zero_add]
      rw [hs, hi]
      simp
  obtain ⟨k, s, a, b, mn, mx, m⟩ := n
  have htwo : parts ⟨k, s, a, b, mn, mx, m⟩ = 2 → ∃ us x y, ts = us ++ [x, y] ∧ a = ((sizeL us + x.size - 1 : Nat) : Int) ∧ b = ((sizeL us + x.size + y.size - 1 : Nat) : Int) ∧ kindAt l a = x.rk ∧ kindAt l b = y.rk ∧ (rootsL ts 0).take ((rootsL ts 0).length - 2) = rootsL us 0 := by
    intro hp
    rw [hp] at h2 h4
    obtain ⟨p, y, rfl, hpl⟩ := split_one (show ts.length = (ts.length - 1) + 1 by omega)
    obtain ⟨us, x, rfl, _⟩ := split_one (show p.length = (p.length - 1) + 1 by simp at h2; omega)
    have e0 : us ++ [x] ++ [y] = us ++ [x, y] := by simp
    rw [e0] at h4 hn ⊢
    have hr : rootsL (us ++ [x, y]) 0 = rootsL us 0 ++ [sizeL us + x.size - 1, sizeL us + x.size + y.size - 1] := by
      rw [rootsL_append]; simp [rootsL]
    rw [hr] at h4 ⊢
    have hd : (rootsL us 0 ++ [sizeL us + x.size - 1, sizeL us + x.size + y.size - 1]).length - 2 = (rootsL us 0).length := by simp
    rw [hd] at h4 ⊢
    rw [List.drop_left] at h4
    simp only [BelowOk] at h4
    refine ⟨us, x, y, rfl, h4.1.symm, h4.2.symm, ?_, ?_, by rw [List.take_left]⟩
    · rw [← h4.1]; exact kind_root (us := [y]) (by rw [hn])
    · rw [← h4.2]
      have := kind_root (l := l) (ts := us ++ [x]) (us := []) (t := y) (i := i) (by rw [hn]; simp)
      rw [sizeL_append] at this
      simpa [sizeL] using this
  have hone : parts ⟨k, s, a, b, mn, mx, m⟩ = 1 → ∃ us x, ts = us ++ [x] ∧ a = ((sizeL us + x.size - 1 : Nat) : Int) ∧ kindAt l a = x.rk ∧ (rootsL ts 0).take ((rootsL ts 0).length - 1) = rootsL us 0 := by
    intro hp
    rw [hp] at h2 h4
    obtain ⟨us, x, rfl, hpl⟩ := split_one (show ts.length = (ts.length - 1) + 1 by omega)
    have hr : rootsL (us ++ [x]) 0 = rootsL us 0 ++ [sizeL us + x.size - 1] := by
      rw [rootsL_append]; simp [rootsL]
    rw [hr] at h4 ⊢
    have hd : (rootsL us 0 ++ [sizeL us + x.size - 1]).length - 1 = (rootsL us 0).length := by simp
    rw [hd] at h4 ⊢
    rw [List.drop_left] at h4
    simp only [BelowOk] at h4
    refine ⟨us, x, rfl, h4.symm, ?_, by rw [List.take_left]⟩
    rw [← h4]; exact kind_root (us := []) (by rw [hn])
  have join : ∀ (us vs : List Tr) (t : Tr), ts = us ++ vs → nodesL vs (sizeL us) ++ [⟨k, s, a, b, mn, mx, m⟩] = t.nodes (sizeL us) → t.Fine (l.length ≤ 1) → t.size = sizeL vs + 1 → (rootsL ts 0).take ((rootsL ts 0).length - parts ⟨k, s, a, b, mn, mx, m⟩) = rootsL us 0 →
      build ⟨k, s, a, b, mn, mx, m⟩ ts = us ++ [t] → (∀ u ∈ build ⟨k, s, a, b, mn, mx, m⟩ ts, u.Fine (l.length ≤ 1)) ∧ l.take (i + 1) = nodesL (build ⟨k, s, a, b, mn, mx, m⟩ ts) 0 ∧ push ⟨k, s, a, b, mn, mx, m⟩ i (rootsL ts 0) = rootsL (build ⟨k, s, a, b, mn, mx, m⟩ ts) 0 := by
    rintro us vs t rfl e1 e2 e3 e4 e5
    rw [e5]
    refine ⟨fun u hu => ?_, ?_, ?_⟩
    · rw [List.mem_append, List.mem_singleton] at hu
      rcases hu with hu | rfl
      · exact hf u (by simp [hu])
      · exact e2
    · rw [htk, nodesL_append, nodesL_append, List.append_assoc]
      simp only [nodesL, List.append_nil, Nat.zero_add]
      rw [e1]
    · unfold push
      rw [e4, rootsL_append]
      simp only [rootsL, Nat.zero_add]
      rw [hi, sizeL_append, e3]
      congr 2
  simp only [OneN] at h1
  simp only [Fits] at h5
  dsimp only at h3
  rcases h1 with ⟨hk, rfl, rfl, rfl, rfl, rfl, rfl⟩ | ⟨rfl, hs, rfl, rfl, rfl, rfl, rfl⟩ | ⟨hk, rfl, rfl, rfl, rfl⟩ | ⟨rfl, rfl, rfl, rfl, h6, h7, h8⟩ | ⟨rfl, rfl, rfl, rfl, rfl, h6, h7⟩ | ⟨rfl, rfl, rfl, rfl, rfl, rfl, h6, h7⟩
  · rcases hk with rfl | rfl | rfl
    · exact leaf .e rfl rfl (show l.length ≤ 1 from Nat.le_of_not_lt (fun q => h3 ⟨rfl, q⟩)) rfl
    · exact leaf .beg rfl rfl trivial rfl
    · exact leaf .fin rfl rfl trivial rfl
  · exact leaf (.set s) rfl rfl hs rfl
  · rcases hk with rfl | rfl
    · obtain ⟨us, x, y, e0, ea, eb, ka, kb, et⟩ := htwo rfl
      rw [if_pos rfl, ka, kb] at h5
      refine join us [x, y] (.cat x y) e0 ?_ ⟨hf x (by rw [e0]; simp), hf y (by rw [e0]; simp), h5.1, h5.2.1, h5.2.2⟩ (by simp [size, sizeL]) et (by rw [e0]; simp [build])
      simp [nodesL, nodes, root, ea, eb]
    · obtain ⟨us, x, y, e0, ea, eb, ka, kb, et⟩ := htwo rfl
      rw [if_neg (by decide), if_pos rfl, ka] at h5
      refine join us [x, y] (.alt x y) e0 ?_ ⟨hf x (by rw [e0]; simp), hf y (by rw [e0]; simp), h5⟩ (by simp [size, sizeL]) et (by rw [e0]; simp [build])
      simp [nodesL, nodes, root, ea, eb]
  · obtain ⟨us, x, e0, ea, ka, et⟩ := hone rfl
    rw [if_neg (by decide), if_neg (by decide), if_pos rfl, ka] at h5
    refine join us [x] (.times mn mx x) e0 ?_ ⟨hf x (by rw [e0]; simp), h6, h7, h8, h5⟩ (by simp [size, sizeL]) et (by rw [e0]; simp [build])
    simp [nodesL, nodes, root, ea]
  · obtain ⟨us, x, e0, ea, ka, et⟩ := hone rfl
    refine join us [x] (.grp m x) e0 ?_ ⟨hf x (by rw [e0]; simp), h6, h7⟩ (by simp [size, sizeL]) et (by rw [e0]; simp [build])
    simp [nodesL, nodes, root, ea]
  · exact leaf (.ref m) rfl rfl ⟨h6, h7⟩ rfl
def treesRun (l : List Nd) : Nat → List Tr
  | 0 => []
  | i + 1 => match l[i]? with
    | none => treesRun l i
    | some n => build n (treesRun l i)
/-- What stands in order is a stack of trees. -/
theorem run_trees (l : List Nd) : ∀ (i : Nat) (st : List Nat), ordRun l i = some st → (∀ t ∈ treesRun l i, t.Fine (l.length ≤ 1)) ∧ l.take i = nodesL (treesRun l i) 0 ∧ st = rootsL (treesRun l i) 0 := by
  intro i
  induction i with
  | zero =>
    intro st h
    simp only [ordRun, Option.some.injEq] at h
    exact ⟨by simp [treesRun], by simp [nodesL, treesRun], by simp [rootsL, treesRun, h.symm]⟩
  | succ i ih =>
    intro st' h
    simp only [ordRun, Option.bind_eq_some_iff] at h
    obtain ⟨st, hst, h⟩ := h
    obtain ⟨hf, hn, rfl⟩ := ih st hst
    cases hl : l[i]? with
    | none => rw [hl] at h; cases h
    | some n =>
      rw [hl] at h
      simp only at h
      split at h
      · rename_i hok
        obtain rfl := (Option.some.inj h).symm
        have e : treesRun l (i + 1) = build n (treesRun l i) := by simp only [treesRun, hl]
        rw [e]
        exact step_trees hf hn hl hok
      · cases h
theorem step_at {l : List Nd} {i : Nat} {n : Nd} {st : List Nat} (hr : ordRun l i = some st) (hl : l[i]? = some n) (ok : StepOk l n st) : ordRun l (i + 1) = some (push n i st) := by
  simp only [ordRun, hr, Option.bind_some, hl]
  rw [if_pos ok]
/-- Where a tree stands in a list. -/
def At (l : List Nd) (t : Tr) (o : Nat) : Prop := ∀ j, j < t.size → l[o + j]? = (t.nodes o)[j]?
theorem at_kind {l : List Nd} {t : Tr} {o : Nat} (h : At l t o) : kindAt l ((o + t.size - 1 : Nat) : Int) = t.rk := by
  have hp := size_pos t
  have e := h (t.size - 1) (by omega)
  rw [nodes_last] at e
  have e2 : o + (t.size - 1) = o + t.size - 1 := by omega
  rw [e2] at e
  unfold kindAt
  rw [Int.toNat_natCast, e]
  simp [root_k]
theorem at_root {l : List Nd} {t : Tr} {o : Nat} (h : At l t o) : l[o + t.size - 1]? = some (t.root o) := by
  have hp := size_pos t
  have e := h (t.size - 1) (by omega)
  rw [nodes_last] at e
  rwa [show o + (t.size - 1) = o + t.size - 1 by omega] at e
theorem at_left {l : List Nd} {t x : Tr} {o : Nat} {r : List Nd} (h : At l t o) (e : t.nodes o = x.nodes o ++ r) : At l x o := by
  intro j hj
  have hl : t.size = x.size + r.length := by have := congrArg List.length e; rw [nodes_len, List.length_append, nodes_len] at this; exact this
  rw [h j (by omega), e, List.getElem?_append_left (by rw [nodes_len]; exact hj)]
theorem at_right {l : List Nd} {t x y : Tr} {o : Nat} {r : List Nd} (h : At l t o) (e : t.nodes o = x.nodes o ++ (y.nodes (o + x.size) ++ r)) : At l y (o + x.size) := by
  intro j hj
  have hl : t.size = x.size + (y.size + r.length) := by have := congrArg List.length e; rw [nodes_len, List.length_append, List.length_append, nodes_len, nodes_len] at this; exact this
  have := h (x.size + j) (by omega)
  rw [e, List.getElem?_append_right (by rw [nodes_len]; omega), nodes_len, show x.size + j - x.size = j by omega, List.getElem?_append_left (by rw [nodes_len]; exact hj)] at this
  rw [← this, Nat.add_assoc]
theorem fine_one {t : Tr} {em : Prop} (h : t.Fine em) (o : Nat) : OneN (t.root o) := by
  cases t with
  | e => exact Or.inl ⟨Or.inl rfl, rfl, rfl, rfl, rfl, rfl, rfl⟩
  | set s => exact Or.inr (Or.inl ⟨rfl, h, rfl, rfl, rfl, rfl, rfl⟩)
  | beg => exact Or.inl ⟨Or.inr (Or.inl rfl), rfl, rfl, rfl, rfl, rfl, rfl⟩
  | fin => exact Or.inl ⟨Or.inr (Or.inr rfl), rfl, rfl, rfl, rfl, rfl, rfl⟩
  | cat x y => exact Or.inr (Or.inr (Or.inl ⟨Or.inl rfl, rfl, rfl, rfl, rfl⟩))
  | alt x y => exact Or.inr (Or.inr (Or.inl ⟨Or.inr rfl, rfl, rfl, rfl, rfl⟩))
  | times mn mx x => exact Or.inr (Or.inr (Or.inr (Or.inl ⟨rfl, rfl, rfl, rfl, h.2.1, h.2.2.1, h.2.2.2.1⟩)))
  | grp n x => exact Or.inr (Or.inr (Or.inr (Or.inr (Or.inl ⟨rfl, rfl, rfl, rfl, rfl, h.2.1, h.2.2⟩))))
  | ref n => exact Or.inr (Or.inr (Or.inr (Or.inr (Or.inr ⟨rfl, rfl, rfl, rfl, rfl, rfl, h.1, h.2⟩))))
/-- The nodes of a tree stand in order. -/
theorem run_post (em : Prop) (l : List Nd) (hem : em → l.length ≤ 1) : ∀ (t : Tr) (o : Nat) (st : List Nat), t.Fine em → At l t o → ordRun l o = some st → ordRun l (o + t.size) = some (st ++ [o + t.size - 1]) := by
  intro t
  have leaf : ∀ (t : Tr) (o : Nat) (st : List Nat), t.Fine em → At l t o → t.size = 1 → parts (t.root o) = 0 → (t.rk = 0 → em) → t.rk ≠ 4 → t.rk ≠ 5 → t.rk ≠ 6 → ordRun l o = some st → ordRun l (o + t.size) = some (st ++ [o + t.size - 1]) := by
    intro t o st hf ha hs hp he n4 n5 n6 hr
    have h0 := at_root ha
    rw [hs] at h0 ⊢
    have h1 : l[o]? = some (t.root o) := h0
    have hok : StepOk l (t.root o) st := by
      refine ⟨fine_one hf o, by omega, ?_, ?_, ?_⟩
      · rw [root_k]
        rintro ⟨q, h2⟩
        have := hem (he q)
        omega
      · rw [hp, Nat.sub_zero, List.drop_length]; trivial
      · unfold Fits; rw [root_k, if_neg n4, if_neg n5, if_neg n6]; trivial
    rw [step_at hr h1 hok]
    unfold push
    rw [hp, Nat.sub_zero, List.take_of_length_le (Nat.le_refl _)]
    rfl
  induction t with
  | e => intro o st hf ha hr; exact leaf .e o st hf ha rfl rfl (fun _ => hf) (by decide) (by decide) (by decide) hr
  | set s => intro o st hf ha hr; exact leaf (.set s) o st hf ha rfl rfl (fun q => by cases q) (by show (1 : Int) ≠ 4; decide) (by show (1 : Int) ≠ 5; decide) (by show (1 : Int) ≠ 6; decide) hr
  | beg => intro o st hf ha hr; exact leaf .beg o st hf ha rfl rfl (fun q => by cases q) (by decide) (by decide) (by decide) hr
  | fin => intro o st hf ha hr; exact leaf .fin o st hf ha rfl rfl (fun q => by cases q) (by decide) (by decide) (by decide) hr
  | ref n => intro o st hf ha hr; exact leaf (.ref n) o st hf ha rfl rfl (fun q => by cases q) (by show (8 : Int) ≠ 4; decide) (by show (8 : Int) ≠ 5; decide) (by show (8 : Int) ≠ 6; decide) hr
  | cat x y ihx ihy =>
    intro o st hf ha hr
    have ax : At l x o := at_left ha (r := y.nodes (o + x.size) ++ [(cat x y).root o]) (by simp [nodes])
    have ay : At l y (o + x.size) := at_right ha (r := [(cat x y).root o]) (by simp [nodes])
    have r1 := ihx o st hf.1 ax hr
    have r2 := ihy (o + x.size) _ hf.2.1 ay r1
    have hroot := at_root ha
    have es : (cat x y).size = x.size + y.size + 1 := rfl
    have px := size_pos x
    have py := size_pos y
    rw [es, show o + (x.size + y.size + 1) - 1 = o + x.size + y.size by omega] at hroot
    have kx := at_kind ax
    have ky := at_kind ay
    have hlen : (st ++ [o + x.size - 1] ++ [o + x.size + y.size - 1]).length - 2 = st.length := by simp
    have hok : StepOk l ((cat x y).root o) (st ++ [o + x.size - 1] ++ [o + x.size + y.size - 1]) := by
      refine ⟨fine_one hf o, by simp [parts, root], (by rw [root_k]; rintro ⟨q, _⟩; cases q), ?_, ?_⟩
      · show BelowOk _ (List.drop (_ - 2) _)
        rw [hlen, List.append_assoc, List.drop_left]
        exact ⟨rfl, rfl⟩
      · unfold Fits
        rw [root_k]
        show if (4 : Int) = 4 then _ else _
        rw [if_pos rfl]
        exact ⟨by show kindAt l _ ≠ 4; rw [show ((cat x y).root o).a = ((o + x.size - 1 : Nat) : Int) from rfl, kx]; exact hf.2.2.1, by show kindAt l _ ≠ 5; rw [show ((cat x y).root o).a = ((o + x.size - 1 : Nat) : Int) from rfl, kx]; exact hf.2.2.2.1, by rw [show ((cat x y).root o).b = ((o + x.size + y.size - 1 : Nat) : Int) from rfl, ky]; exact hf.2.2.2.2⟩
    rw [es, show o + (x.size + y.size + 1) = (o + x.size + y.size) + 1 by omega, step_at r2 hroot hok]
    unfold push
    show some (List.take (_ - 2) _ ++ _) = _
    rw [hlen, List.append_assoc, List.take_left]
    rfl
  | alt x y ihx ihy =>
    intro o st hf ha hr
    have ax : At l x o := at_left ha (r := y.nodes (o + x.size) ++ [(alt x y).root o]) (by simp [nodes])
    have ay : At l y (o + x.size) := at_right ha (r := [(alt x y).root o]) (by simp [nodes])
    have r1 := ihx o st hf.1 ax hr
    have r2 := ihy (o + x.size) _ hf.2.1 ay r1
    have hroot := at_root ha
    have es : (alt x y).size = x.size + y.size + 1 := rfl
    have px := size_pos x
    have py := size_pos y
    rw [es, show o + (x.size + y.size + 1) - 1 = o + x.size + y.size by omega] at hroot
    have kx := at_kind ax
    have hlen : (st ++ [o + x.size - 1] ++ [o + x.size + y.size - 1]).length - 2 = st.length := by simp
    have hok : StepOk l ((alt x y).root o) (st ++ [o + x.size - 1] ++ [o + x.size + y.size - 1]) := by
      refine ⟨fine_one hf o, by simp [parts, root], (by rw [root_k]; rintro ⟨q, _⟩; cases q), ?_, ?_⟩
      · show BelowOk _ (List.drop (_ - 2) _)
        rw [hlen, List.append_assoc, List.drop_left]
        exact ⟨rfl, rfl⟩
      · unfold Fits
        rw [root_k]
        show if (5 : Int) = 4 then _ else if (5 : Int) = 5 then _ else _
        rw [if_neg (by decide), if_pos rfl]
        show kindAt l _ ≠ 5
        rw [show ((alt x y).root o).a = ((o + x.size - 1 : Nat) : Int) from rfl, kx]; exact hf.2.2
    rw [es, show o + (x.size + y.size + 1) = (o + x.size + y.size) + 1 by omega, step_at r2 hroot hok]
    unfold push
    show some (List.take (_ - 2) _ ++ _) = _
    rw [hlen, List.append_assoc, List.take_left]
    rfl
  | times mn mx x ihx =>
    intro o st hf ha hr
    have ax : At l x o := at_left ha (r := [(times mn mx x).root o]) rfl
    have r1 := ihx o st hf.1 ax hr
    have hroot := at_root ha
    have es : (times mn mx x).size = x.size + 1 := rfl
    have px := size_pos x
    rw [es, show o + (x.size + 1) - 1 = o + x.size by omega] at hroot
    have kx := at_kind ax
    have hlen : (st ++ [o + x.size - 1]).length - 1 = st.length := by simp
    have hok : StepOk l ((times mn mx x).root o) (st ++ [o + x.size - 1]) := by
      refine ⟨fine_one hf o, by simp [parts, root], (by rw [root_k]; rintro ⟨q, _⟩; cases q), ?_, ?_⟩
      · show BelowOk _ (List.drop (_ - 1) _)
        rw [hlen, List.drop_left]
        exact rfl
      · unfold Fits
        rw [root_k]
        show if (6 : Int) = 4 then _ else if (6 : Int) = 5 then _ else if (6 : Int) = 6 then _ else _
        rw [if_neg (by decide), if_neg (by decide), if_pos rfl]
        rw [show ((times mn mx x).root o).a = ((o + x.size - 1 : Nat) : Int) from rfl, kx]; exact hf.2.2.2.2
    rw [es, show o + (x.size + 1) = (o + x.size) + 1 by omega, step_at r1 hroot hok]
    unfold push
    show some (List.take (_ - 1) _ ++ _) = _
    rw [hlen, List.take_left]
    rfl
  | grp n x ihx =>
    intro o st hf ha hr
    have ax : At l x o := at_left ha (r := [(grp n x).root o]) rfl
    have r1 := ihx o st hf.1 ax hr
    have hroot := at_root ha
    have es : (grp n x).size = x.size + 1 := rfl
    have px := size_pos x
    rw [es, show o + (x.size + 1) - 1 = o + x.size by omega] at hroot
    have hlen : (st ++ [o + x.size - 1]).length - 1 = st.length := by simp
    have hok : StepOk l ((grp n x).root o) (st ++ [o + x.size - 1]) := by
      refine ⟨fine_one hf o, by simp [parts, root], (by rw [root_k]; rintro ⟨q, _⟩; cases q), ?_, ?_⟩
      · show BelowOk _ (List.drop (_ - 1) _)
        rw [hlen, List.drop_left]
        exact rfl
      · unfold Fits
        rw [root_k]
        show if (7 : Int) = 4 then _ else if (7 : Int) = 5 then _ else if (7 : Int) = 6 then _ else _
        rw [if_neg (by decide), if_neg (by decide), if_neg (by decide)]; trivial
    rw [es, show o + (x.size + 1) = (o + x.size) + 1 by omega, step_at r1 hroot hok]
    unfold push
    show some (List.take (_ - 1) _ ++ _) = _
    rw [hlen, List.take_left]
    rfl
/-- A tree that stands alone: of none, or without any part that is none. -/
def Whole (t : Tr) : Prop := t.Fine (t.size ≤ 1)
theorem at_self (t : Tr) : At (t.nodes 0) t 0 := fun j _ => by rw [Nat.zero_add]
/-- Nodes stand in order just if they are those of a tree. -/
theorem ordered_iff (l : List Nd) : Ordered l ↔ ∃ t : Tr, Whole t ∧ l = t.nodes 0 := by
  constructor
  · rintro ⟨i, h⟩
    obtain ⟨hf, hn, hr⟩ := run_trees l _ _ h
    generalize treesRun l l.length = ts at *
    rw [List.take_length] at hn
    match ts, hr with
    | [t], hr =>
      have hl : l = t.nodes 0 := by rw [hn]; simp [nodesL]
      refine ⟨t, ?_, hl⟩
      have := hf t (by simp)
      rw [hl, nodes_len] at this
      exact this
    | [], hr => simp [rootsL] at hr
    | _ :: _ :: _, hr => simp [rootsL] at hr
  · rintro ⟨t, hw, rfl⟩
    have h := run_post (t.size ≤ 1) (t.nodes 0) (fun q => by rw [nodes_len]; exact q) t 0 [] hw (at_self t) rfl
    rw [Nat.zero_add] at h
    exact ⟨t.size - 1, by rw [nodes_len]; exact h⟩
end Go.Proofs.YtdjedjfanfbbcaaGreatDoor.Rx
