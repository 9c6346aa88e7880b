/- MatchAlts: two patterns side by side (plain). -/
import Derived.Test.YtlicoffnjphphaaGreatDoorQk27
namespace Go.Proofs.YtlicoffnjphphaaGreatDoor.Mt
open Go.RowKit Go.Shelf
open Go.Proofs.YtlicoffnjphphaaGreatDoor.Rx
open Go.Proofs.YtlicoffnjphphaaGreatDoor.Rx.Tr
set_option linter.unusedVariables false
set_option linter.unusedSimpArgs false
/-- A node some places further on. -/
def shN (d : Nat) (n : Nd) : Nd :=
 if n.k = 4 ∨ n.k = 5 then ⟨n.k, n.s, n.a + (d : Nat), n.b + (d : Nat), n.mn, n.mx, n.n⟩
 else if n.k = 6 then ⟨n.k, n.s, n.a + (d : Nat), n.b, n.mn, n.mx, n.n⟩ else n
theorem nodes_sh (d : Nat) : ∀ (t : Tr) (o : Nat), cnt t = 0 → t.nodes (o + d) = (t.nodes o).map (shN d)
 | .e, o, _ | .set _, o, _ | .beg, o, _ | .fin, o, _ | .ref _, o, _ => by simp [nodes, root, shN]
 | .cat x y, o, h => by
  have hx := cnt_pos x;have hy := cnt_pos y;simp only [cnt] at h;have e1 := nodes_sh d x o (by omega);have e2 := nodes_sh d y (o + x.size) (by omega);have p1 := size_pos x;have p2 := size_pos y;simp only [nodes, List.map_append, List.map_cons, List.map_nil];rw [e1, show o + d + x.size = o + x.size + d by omega, e2]
  congr 1
  simp only [root, shN];rw [if_pos (Or.inl trivial)];simp only [List.cons.injEq, Nd.mk.injEq, and_true, true_and];exact ⟨by omega, by omega⟩
 | .alt x y, o, h => by
  have hx := cnt_pos x;have hy := cnt_pos y;simp only [cnt] at h;have e1 := nodes_sh d x o (by omega);have e2 := nodes_sh d y (o + x.size) (by omega);have p1 := size_pos x;have p2 := size_pos y;simp only [nodes, List.map_append, List.map_cons, List.map_nil];rw [e1, show o + d + x.size = o + x.size + d by omega, e2]
  congr 1
  simp only [root, shN];rw [if_pos (Or.inr trivial)];simp only [List.cons.injEq, Nd.mk.injEq, and_true, true_and];exact ⟨by omega, by omega⟩
 | .times mn mx x, o, h => by
  simp only [cnt] at h;have e1 := nodes_sh d x o h;have p1 := size_pos x;simp only [nodes, List.map_append, List.map_cons, List.map_nil];rw [e1]
  congr 1
  simp only [root, shN];rw [if_neg (by decide), if_pos trivial];simp only [List.cons.injEq, Nd.mk.injEq, and_true, true_and];omega
 | .grp n x, o, h => by
  have hx := cnt_pos x;simp only [cnt] at h;omega
theorem fine_mono {p q : Prop} (hpq : p → q) : ∀ t : Tr, t.Fine p → t.Fine q
 | .e, h => hpq h
 | .set _, h => h
 | .beg, _ => trivial
 | .fin, _ => trivial
 | .cat x y, h => ⟨fine_mono hpq x h.1, fine_mono hpq y h.2.1, h.2.2⟩
 | .alt x y, h => ⟨fine_mono hpq x h.1, fine_mono hpq y h.2.1, h.2.2⟩
 | .times _ _ x, h => ⟨fine_mono hpq x h.1, h.2⟩
 | .grp _ x, h => ⟨fine_mono hpq x h.1, h.2⟩
 | .ref _, h => h
theorem fine_no {t : Tr} (h : Go.Proofs.YtlicoffnjphphaaGreatDoor.Rx.Whole t) (he : t ≠ .e) : t.Fine False := by
 by_cases hs : t.size ≤ 1
 ·
  cases t with
  | e => exact absurd rfl he
  | set s => exact h
  | beg => trivial
  | fin => trivial
  | ref n => exact h
  | cat x y => have := size_pos x; have := size_pos y; simp only [size] at hs; omega
  | alt x y => have := size_pos x; have := size_pos y; simp only [size] at hs; omega
  | times _ _ x => have := size_pos x; simp only [size] at hs; omega
  | grp _ x => have := size_pos x; simp only [size] at hs; omega
 · exact fine_mono (fun q => hs q) t h
theorem num_no : ∀ (t : Tr) (s : NSt), cnt t = 0 → (∀ i : Nat, (s.e[i]?).getD false = false) → (numT t s).ok = true → numT t s = s
 | .e, s, _, _, _ | .set _, s, _, _, _ | .beg, s, _, _, _ | .fin, s, _, _, _ => rfl
 | .cat x y, s, h, hs, hk => by
  have hx := cnt_pos x;have hy := cnt_pos y;simp only [cnt] at h;simp only [numT] at hk ⊢;have h1 := (num_ok y _ hk).1;rw [num_no x s (by omega) hs h1] at hk ⊢;exact num_no y s (by omega) hs hk
 | .alt x y, s, h, hs, hk => by
  have hx := cnt_pos x;have hy := cnt_pos y;simp only [cnt] at h;simp only [numT] at hk ⊢;have h1 := (num_ok y _ hk).1;rw [num_no x s (by omega) hs h1] at hk ⊢;exact num_no y s (by omega) hs hk
 | .times _ _ x, s, h, hs, hk => num_no x s h hs hk
 | .grp _ x, s, h, _, _ => by
  have hx := cnt_pos x;simp only [cnt] at h;omega
 | .ref n, s, _, hs, hk => by
  simp only [numT, hs, Bool.and_false] at hk;cases hk
theorem alt_good {x y : Tr} (hx : Go.Proofs.YtlicoffnjphphaaGreatDoor.Rx.Good x) (hy : Go.Proofs.YtlicoffnjphphaaGreatDoor.Rx.Good y) (hx0 : x ≠ .e) (hy0 : y ≠ .e) (hx5 : x.rk ≠ 5) (hc : cnt x = 0) (hd : cnt y = 0) (hs : x.size + y.size ≤ 100) : Go.Proofs.YtlicoffnjphphaaGreatDoor.Rx.Good (.alt x y) := by
 have p1 := size_pos x;have p2 := size_pos y;have h0 : ∀ i : Nat, (num0.e[i]?).getD false = false := fun i => by
  simp only [num0, List.getElem?_replicate];split <;> rfl
 refine ⟨?_, ?_, ?_⟩
 · show (Tr.alt x y).Fine _;(have e : ((Tr.alt x y).size ≤ 1) = False := by simp only [size, eq_iff_iff, iff_false]; omega);rw [e];exact ⟨fine_no hx.1 hx0, fine_no hy.1 hy0, hx5⟩
 · simp only [size]; omega
 · simp only [numT];rw [num_no x num0 hc h0 hx.2.2];exact hy.2.2
theorem whole_alt (T : List UInt8) (x y : Tr) (i j : Nat) : (wholeP T (.alt x y) i j).isSome = ((wholeP T x i j).isSome || (wholeP T y i j).isSome) := by
 unfold wholeP;rw [fitP];cases fitP T x i j nones with
 | some a => rfl
 | none => rfl
/-- The nodes of both, with the root behind them. -/
theorem alt_nodes (x y : Tr) (h : cnt y = 0) : (Tr.alt x y).nodes 0 = x.nodes 0 ++ (y.nodes 0).map (shN (x.nodes 0).length) ++ [⟨5, z4, ((x.nodes 0).length - 1 : Nat), ((x.nodes 0).length + (y.nodes 0).length - 1 : Nat), 0, 0, 0⟩] := by
 have := nodes_sh x.size y 0 h;simp only [nodes, nodes_len];rw [this];simp only [root, Nat.zero_add]
theorem nodes_small : ∀ (t : Tr) (o : Nat), ∀ n ∈ t.nodes o, 0 ≤ n.a ∧ n.a ≤ ((o + t.size : Nat) : Int) ∧ 0 ≤ n.b ∧ n.b ≤ ((o + t.size : Nat) : Int)
 | .e, o, n, h | .set _, o, n, h | .beg, o, n, h | .fin, o, n, h | .ref _, o, n, h => by
  simp only [nodes, List.mem_singleton] at h;subst h;simp only [root];omega
 | .cat x y, o, n, h => by
  simp only [nodes, List.mem_append, List.mem_singleton] at h;have p1 := size_pos x;have p2 := size_pos y;simp only [size];rcases h with (h | h) | h
  · have := nodes_small x o n h; omega
  · have := nodes_small y (o + x.size) n h; omega
  · subst h; simp only [root]; omega
 | .alt x y, o, n, h => by
  simp only [nodes, List.mem_append, List.mem_singleton] at h;have p1 := size_pos x;have p2 := size_pos y;simp only [size];rcases h with (h | h) | h
  · have := nodes_small x o n h; omega
  · have := nodes_small y (o + x.size) n h; omega
  · subst h; simp only [root]; omega
 | .times _ _ x, o, n, h => by
  simp only [nodes, List.mem_append, List.mem_singleton] at h;have p1 := size_pos x;simp only [size];rcases h with h | h
  · have := nodes_small x o n h; omega
  · subst h; simp only [root]; omega
 | .grp _ x, o, n, h => by
  simp only [nodes, List.mem_append, List.mem_singleton] at h;have p1 := size_pos x;simp only [size];rcases h with h | h
  · have := nodes_small x o n h; omega
  · subst h; simp only [root]; omega
end Go.Proofs.YtlicoffnjphphaaGreatDoor.Mt