/- The texts RrP RrW0. -/
import Derived.Test.YthpiapemjadgdaaGreatDoorCk02
import Derived.Test.YthpiapemjadgdaaGreatDoorCk19
set_option linter.unusedVariables false
set_option linter.unusedSimpArgs false
set_option maxHeartbeats 1600000
set_option maxRecDepth 100000
namespace Go.Proofs.YthpiapemjadgdaaGreatDoor.Rx
open Tr
/-- Where what is below a node, with it, begins; -1: it is not in order. -/
def firstF (l : List Nd) : Nat → Int → Int
 | 0, _ => -1
 | f + 1, i =>
  if i < 0 then -1 else
  match l[i.toNat]? with
  | none => -1
  | some n =>
   if n.k = 4 ∨ n.k = 5 then
    if n.b ≠ i - 1 then -1 else
    if firstF l f (i - 1) < 1 ∨ n.a ≠ firstF l f (i - 1) - 1 then -1 else firstF l f (firstF l f (i - 1) - 1)
   else if n.k = 6 ∨ n.k = 7 then
    if n.a ≠ i - 1 then -1 else firstF l f (i - 1)
   else i
theorem first_le (l : List Nd) : ∀ (f : Nat) (i : Int), firstF l f i = -1 ∨ (0 ≤ firstF l f i ∧ firstF l f i ≤ i)
 | 0, i => Or.inl rfl
 | f + 1, i => by
  unfold firstF;by_cases h0 : i < 0
  · rw [if_pos h0]; exact Or.inl rfl
  rw [if_neg h0];split
  · exact Or.inl rfl
  ·
   rename_i n hn;split
   ·
    split
    · exact Or.inl rfl
    ·
     split
     · exact Or.inl rfl
     ·
      rename_i h;(have h1 : ¬ firstF l f (i - 1) < 1 := fun q => h (Or.inl q));have a := first_le l f (i - 1);rcases first_le l f (firstF l f (i - 1) - 1) with b | b
      · exact Or.inl b
      · exact Or.inr ⟨b.1, by omega⟩
   ·
    split
    ·
     split
     · exact Or.inl rfl
     ·
      rcases first_le l f (i - 1) with b | b
      · exact Or.inl b
      · exact Or.inr ⟨b.1, by omega⟩
    · exact Or.inr ⟨by omega, Int.le_refl _⟩
theorem at_join {l : List Nd} {t : Tr} {o : Nat} {a b : List Nd} {r : Nd} (e : t.nodes o = a ++ b ++ [r]) (ha : ∀ j, j < a.length → l[o + j]? = a[j]?) (hb : ∀ j, j < b.length → l[o + a.length + j]? = b[j]?) (hr : l[o + a.length + b.length]? = some r) : At l t o := by
 intro j hj;(have hs : t.size = a.length + b.length + 1 := by rw [← nodes_len t o, e]; simp; omega);rw [e];rcases Nat.lt_or_ge j a.length with h | h
 · rw [List.getElem?_append_left (by simp; omega), List.getElem?_append_left h];exact ha j h
 ·
  rcases Nat.lt_or_ge j (a.length + b.length) with h2 | h2
  · rw [List.getElem?_append_left (by simp; omega), List.getElem?_append_right h];have := hb (j - a.length) (by omega);rw [show o + a.length + (j - a.length) = o + j by omega] at this;exact this
  · (obtain rfl : j = a.length + b.length := by omega);rw [List.getElem?_append_right (by simp)];rw [show o + (a.length + b.length) = o + a.length + b.length by omega, hr];simp
theorem first_two {l : List Nd} {f : Nat} {i : Int} {n : Nd} (h0 : 0 ≤ i) (hl : l[i.toNat]? = some n) (hk : n.k = 4 ∨ n.k = 5) : firstF l (f + 1) i = if n.b ≠ i - 1 then -1 else
    if firstF l f (i - 1) < 1 ∨ n.a ≠ firstF l f (i - 1) - 1 then -1 else firstF l f (firstF l f (i - 1) - 1) := by
 rw [firstF, if_neg (by omega), hl];dsimp only;rw [if_pos hk]
theorem first_one {l : List Nd} {f : Nat} {i : Int} {n : Nd} (h0 : 0 ≤ i) (hl : l[i.toNat]? = some n) (h4 : ¬ (n.k = 4 ∨ n.k = 5)) (hk : n.k = 6 ∨ n.k = 7) : firstF l (f + 1) i = if n.a ≠ i - 1 then -1 else firstF l f (i - 1) := by
 rw [firstF, if_neg (by omega), hl];dsimp only;rw [if_neg h4, if_pos hk]
theorem first_leaf {l : List Nd} {f : Nat} {i : Int} {n : Nd} (h0 : 0 ≤ i) (hl : l[i.toNat]? = some n) (h4 : ¬ (n.k = 4 ∨ n.k = 5)) (h6 : ¬ (n.k = 6 ∨ n.k = 7)) : firstF l (f + 1) i = i := by
 rw [firstF, if_neg (by omega), hl];dsimp only;rw [if_neg h4, if_neg h6]
theorem first_tree {l : List Nd} : ∀ (t : Tr) (o f : Nat), At l t o → o + t.size - 1 < f → firstF l f ((o + t.size - 1 : Nat) : Int) = o
 | t, o, 0, _, h => absurd h (by omega)
 | t, o, f + 1, ha, hf => by
  have hr : l[(((o + t.size - 1 : Nat) : Int)).toNat]? = some (t.root o) := by
   rw [show (((o + t.size - 1 : Nat) : Int)).toNat = o + t.size - 1 from by omega];exact at_root ha
  match t with
  | .e => rw [first_leaf (by omega) hr (by simp [root]) (by simp [root])]; simp [size]
  | .set s => rw [first_leaf (by omega) hr (by simp [root]) (by simp [root])]; simp [size]
  | .beg => rw [first_leaf (by omega) hr (by simp [root]) (by simp [root])]; simp [size]
  | .fin => rw [first_leaf (by omega) hr (by simp [root]) (by simp [root])]; simp [size]
  | .ref n => rw [first_leaf (by omega) hr (by simp [root]) (by simp [root])]; simp [size]
  | .cat x y =>
   have hx := size_pos x;have hy := size_pos y;(have e1 : ((o + (Tr.cat x y).size - 1 : Nat) : Int) - 1 = ((o + x.size + y.size - 1 : Nat) : Int) := by simp only [size]; omega);have i1 := first_tree y (o + x.size) f (at_right (t := .cat x y) (r := [(Tr.cat x y).root o]) ha (by simp [nodes])) (by simp only [size] at hf; omega);have i2 := first_tree x o f (at_left (t := .cat x y) (r := y.nodes (o + x.size) ++ [(Tr.cat x y).root o]) ha (by simp [nodes])) (by simp only [size] at hf; omega);rw [first_two (by omega) hr (Or.inl rfl), e1, i1];have ea : ((Tr.cat x y).root o).a = ((o + x.size - 1 : Nat) : Int) := rfl;have eb : ((Tr.cat x y).root o).b = ((o + x.size + y.size - 1 : Nat) : Int) := rfl;rw [if_neg (by rw [eb]; omega), if_neg (by rw [ea]; omega)];rw [show (((o + x.size : Nat) : Int)) - 1 = ((o + x.size - 1 : Nat) : Int) by omega, i2]
  | .alt x y =>
   have hx := size_pos x;have hy := size_pos y;(have e1 : ((o + (Tr.alt x y).size - 1 : Nat) : Int) - 1 = ((o + x.size + y.size - 1 : Nat) : Int) := by simp only [size]; omega);have i1 := first_tree y (o + x.size) f (at_right (t := .alt x y) (r := [(Tr.alt x y).root o]) ha (by simp [nodes])) (by simp only [size] at hf; omega);have i2 := first_tree x o f (at_left (t := .alt x y) (r := y.nodes (o + x.size) ++ [(Tr.alt x y).root o]) ha (by simp [nodes])) (by simp only [size] at hf; omega);rw [first_two (by omega) hr (Or.inr rfl), e1, i1];have ea : ((Tr.alt x y).root o).a = ((o + x.size - 1 : Nat) : Int) := rfl;have eb : ((Tr.alt x y).root o).b = ((o + x.size + y.size - 1 : Nat) : Int) := rfl;rw [if_neg (by rw [eb]; omega), if_neg (by rw [ea]; omega)];rw [show (((o + x.size : Nat) : Int)) - 1 = ((o + x.size - 1 : Nat) : Int) by omega, i2]
  | .times mn mx x =>
   have hx := size_pos x;(have e1 : ((o + (Tr.times mn mx x).size - 1 : Nat) : Int) - 1 = ((o + x.size - 1 : Nat) : Int) := by simp only [size]; omega);have i2 := first_tree x o f (at_left (t := .times mn mx x) (r := [(Tr.times mn mx x).root o]) ha (by simp [nodes])) (by simp only [size] at hf; omega);have ea : ((Tr.times mn mx x).root o).a = ((o + x.size - 1 : Nat) : Int) := rfl;rw [first_one (by omega) hr (by simp [root]) (Or.inl rfl), e1, if_neg (by rw [ea]; omega), i2]
  | .grp n x =>
   have hx := size_pos x;(have e1 : ((o + (Tr.grp n x).size - 1 : Nat) : Int) - 1 = ((o + x.size - 1 : Nat) : Int) := by simp only [size]; omega);have i2 := first_tree x o f (at_left (t := .grp n x) (r := [(Tr.grp n x).root o]) ha (by simp [nodes])) (by simp only [size] at hf; omega);have ea : ((Tr.grp n x).root o).a = ((o + x.size - 1 : Nat) : Int) := rfl;rw [first_one (by omega) hr (by simp [root]) (Or.inr rfl), e1, if_neg (by rw [ea]; omega), i2]
theorem at_len {l : List Nd} {t : Tr} {o : Nat} (h : At l t o) : ∀ j, j < (t.nodes o).length → l[o + j]? = (t.nodes o)[j]? := fun j hj => h j (by rw [nodes_len] at hj; exact hj)
theorem at_leaf {l : List Nd} {t : Tr} {o : Nat} (e : t.nodes o = [t.root o]) (h : l[o]? = some (t.root o)) : At l t o := by
 (have hs : t.size = 1 := by rw [← nodes_len t o, e]; rfl);intro j hj;(obtain rfl : j = 0 := by omega);rw [Nat.add_zero, h, e];rfl
theorem tree_first {l : List Nd} (hone : ∀ n ∈ l, OneN n) : ∀ (f : Nat) (i : Int), 0 ≤ firstF l f i → ∃ t, At l t (firstF l f i).toNat ∧ firstF l f i + t.size - 1 = i
 | 0, i, h => absurd h (by show ¬ (0 : Int) ≤ -1; decide)
 | f + 1, i, h => by
  have IH := tree_first hone f;revert h;unfold firstF;by_cases h0 : i < 0
  · rw [if_pos h0]; intro h; exact absurd h (by decide)
  rw [if_neg h0];cases hl : l[i.toNat]? with
  | none => intro h; exact absurd h (by show ¬ (0 : Int) ≤ -1; decide)
  | some n =>
   have hn := hone n (List.mem_of_getElem? hl);dsimp only;by_cases h4 : n.k = 4 ∨ n.k = 5
   ·
    rw [if_pos h4];by_cases hb : n.b ≠ i - 1
    · rw [if_pos hb]; intro h; exact absurd h (by decide)
    rw [if_neg hb];by_cases hc : firstF l f (i - 1) < 1 ∨ n.a ≠ firstF l f (i - 1) - 1
    · rw [if_pos hc]; intro h; exact absurd h (by decide)
    rw [if_neg hc];intro h;(have hc1 : ¬ firstF l f (i - 1) < 1 := fun q => hc (Or.inl q));have hc2 : n.a = firstF l f (i - 1) - 1 := by
     by_cases q : n.a = firstF l f (i - 1) - 1
     · exact q
     · exact absurd (Or.inr q) hc
    obtain ⟨y, hy, ey⟩ := IH (i - 1) (by omega);obtain ⟨x, hx, ex⟩ := IH (firstF l f (i - 1) - 1) h;generalize firstF l f (firstF l f (i - 1) - 1) = b at *;generalize firstF l f (i - 1) = b1 at *;have px := size_pos x;have py := size_pos y;(have hb1 : b1.toNat = b.toNat + x.size := by omega);rw [hb1] at hy;(have hroot : l[b.toNat + x.size + y.size]? = some n := by rw [← hl]; congr 1; omega);obtain ⟨k, s, a, b2, mn, mx, m⟩ := n;dsimp only at h4 hb hc2;unfold OneN at hn;dsimp only at hn;have hz : s = z4 ∧ mn = 0 ∧ mx = 0 ∧ m = 0 := by
     rcases hn with q | q | q | q | q | q
     · omega
     · omega
     · exact q.2
     · omega
     · omega
     · omega
    obtain ⟨rfl, rfl, rfl, rfl⟩ := hz;have hlx := at_len hx;have hly := at_len hy;(have ea : a = ((b.toNat + x.size - 1 : Nat) : Int) := by omega);(have eb : b2 = ((b.toNat + x.size + y.size - 1 : Nat) : Int) := by omega);rcases h4 with rfl | rfl
    · refine ⟨.cat x y, at_join (a := x.nodes b.toNat) (b := y.nodes (b.toNat + x.size)) (r := (Tr.cat x y).root b.toNat) (by simp [nodes]) hlx (fun j hj => by rw [nodes_len]; exact hly j hj) ?_, by simp only [size]; omega⟩;rw [nodes_len, nodes_len, hroot, ea, eb]; rfl
    · refine ⟨.alt x y, at_join (a := x.nodes b.toNat) (b := y.nodes (b.toNat + x.size)) (r := (Tr.alt x y).root b.toNat) (by simp [nodes]) hlx (fun j hj => by rw [nodes_len]; exact hly j hj) ?_, by simp only [size]; omega⟩;rw [nodes_len, nodes_len, hroot, ea, eb]; rfl
   rw [if_neg h4];by_cases h6 : n.k = 6 ∨ n.k = 7
   ·
    rw [if_pos h6];by_cases ha : n.a ≠ i - 1
    · rw [if_pos ha]; intro h; exact absurd h (by decide)
    rw [if_neg ha];intro h;obtain ⟨x, hx, ex⟩ := IH (i - 1) h;generalize firstF l f (i - 1) = b at *;have px := size_pos x;(have hroot : l[b.toNat + x.size + 0]? = some n := by rw [← hl]; congr 1; omega);obtain ⟨k, s, a, b2, mn, mx, m⟩ := n;dsimp only at h6 ha h4;unfold OneN at hn;dsimp only at hn;(have ea : a = ((b.toNat + x.size - 1 : Nat) : Int) := by omega);have hlx := at_len hx;rcases h6 with rfl | rfl
    ·
     have hz : s = z4 ∧ b2 = 0 ∧ m = 0 := by
      rcases hn with q | q | q | q | q | q
      · omega
      · omega
      · omega
      · exact ⟨q.2.1, q.2.2.1, q.2.2.2.1⟩
      · omega
      · omega
     obtain ⟨rfl, rfl, rfl⟩ := hz;refine ⟨.times mn mx x, at_join (a := x.nodes b.toNat) (b := []) (r := (Tr.times mn mx x).root b.toNat) (by simp [nodes]) hlx (fun j hj => absurd hj (by simp)) ?_, by simp only [size]; omega⟩;rw [nodes_len, List.length_nil, hroot, ea]; rfl
    ·
     have hz : s = z4 ∧ b2 = 0 ∧ mn = 0 ∧ mx = 0 := by
      rcases hn with q | q | q | q | q | q
      · omega
      · omega
      · omega
      · omega
      · exact ⟨q.2.1, q.2.2.1, q.2.2.2.1, q.2.2.2.2.1⟩
      · omega
     obtain ⟨rfl, rfl, rfl, rfl⟩ := hz;refine ⟨.grp m x, at_join (a := x.nodes b.toNat) (b := []) (r := (Tr.grp m x).root b.toNat) (by simp [nodes]) hlx (fun j hj => absurd hj (by simp)) ?_, by simp only [size]; omega⟩;rw [nodes_len, List.length_nil, hroot, ea]; rfl
   ·
    rw [if_neg h6];intro h;obtain ⟨k, s, a, b2, mn, mx, m⟩ := n;dsimp only at h6 h4;unfold OneN at hn;dsimp only at hn;rcases hn with ⟨q, rfl, rfl, rfl, rfl, rfl, rfl⟩ | ⟨rfl, q, rfl, rfl, rfl, rfl, rfl⟩ | q | q | q | ⟨rfl, rfl, rfl, rfl, rfl, rfl, q⟩
    ·
     rcases q with rfl | rfl | rfl
     · exact ⟨.e, at_leaf rfl hl, by simp only [size]; omega⟩
     · exact ⟨.beg, at_leaf rfl hl, by simp only [size]; omega⟩
     · exact ⟨.fin, at_leaf rfl hl, by simp only [size]; omega⟩
    · exact ⟨.set s, at_leaf rfl hl, by simp only [size]; omega⟩
    · omega
    · omega
    · omega
    · exact ⟨.ref m, at_leaf rfl hl, by simp only [size]; omega⟩
/-- What stands below what is as it may be. -/
def consT (em : Bool) : Tr → Bool
 | .e => em
 | .cat x y => decide (x.rk ≠ 4 ∧ x.rk ≠ 5 ∧ y.rk ≠ 5) && consT em x && consT em y
 | .alt x y => decide (x.rk ≠ 5) && consT em x && consT em y
 | .times _ _ x => decide (x.rk = 1 ∨ x.rk = 7 ∨ x.rk = 8) && consT em x
 | .grp _ x => consT em x
 | _ => true
def offN (b : Bool) (s : NSt) : NSt := ⟨s.g, s.e, s.r, s.ok && b⟩
theorem off_off (a b : Bool) (s : NSt) : offN b (offN a s) = offN (a && b) s := by unfold offN; simp [Bool.and_assoc]
theorem off_true (s : NSt) : offN true s = s := by unfold offN; simp
theorem num_off : ∀ (t : Tr) (b : Bool) (s : NSt), numT t (offN b s) = offN b (numT t s)
 | .e, b, s | .set _, b, s | .beg, b, s | .fin, b, s => rfl
 | .cat x y, b, s => by simp only [numT]; rw [num_off x, num_off y]
 | .alt x y, b, s => by simp only [numT]; rw [num_off x, num_off y]
 | .times _ _ x, b, s => by simp only [numT]; rw [num_off x]
 | .grp n x, b, s => by
  have h := num_off x b ⟨s.g + 1, s.e, s.r, s.ok && decide (n = s.g + 1)⟩;have e : (⟨s.g + 1, s.e, s.r, (s.ok && b) && decide (n = s.g + 1)⟩ : NSt) = offN b ⟨s.g + 1, s.e, s.r, s.ok && decide (n = s.g + 1)⟩ := by
   unfold offN
   congr 1
   cases s.ok <;> cases b <;> simp
  show (⟨(numT x ⟨s.g + 1, s.e, s.r, (s.ok && b) && decide (n = s.g + 1)⟩).g, (numT x ⟨s.g + 1, s.e, s.r, (s.ok && b) && decide (n = s.g + 1)⟩).e.set n.toNat true, (numT x ⟨s.g + 1, s.e, s.r, (s.ok && b) && decide (n = s.g + 1)⟩).r, (numT x ⟨s.g + 1, s.e, s.r, (s.ok && b) && decide (n = s.g + 1)⟩).ok⟩ : NSt) = _;rw [e, h];rfl
 | .ref n, b, s => by
  simp only [numT, offN]
  congr 1
  cases s.ok <;> cases b <;> simp
/-- The walk through a tree. -/
def thrT (em : Bool) : Tr → NSt → NSt
 | .e, s => offN em s
 | .cat x y, s => thrT em y (thrT em x (offN (decide (x.rk ≠ 4 ∧ x.rk ≠ 5 ∧ y.rk ≠ 5)) s))
 | .alt x y, s => thrT em y (thrT em x (offN (decide (x.rk ≠ 5)) s))
 | .times _ _ x, s => thrT em x (offN (decide (x.rk = 1 ∨ x.rk = 7 ∨ x.rk = 8)) s)
 | .grp n x, s => ⟨(thrT em x ⟨s.g + 1, s.e, s.r, s.ok && decide (n = s.g + 1)⟩).g, (thrT em x ⟨s.g + 1, s.e, s.r, s.ok && decide (n = s.g + 1)⟩).e.set n.toNat true, (thrT em x ⟨s.g + 1, s.e, s.r, s.ok && decide (n = s.g + 1)⟩).r, (thrT em x ⟨s.g + 1, s.e, s.r, s.ok && decide (n = s.g + 1)⟩).ok⟩
 | t, s => numT t s
theorem thr_num (em : Bool) : ∀ (t : Tr) (s : NSt), thrT em t s = offN (consT em t) (numT t s)
 | .e, s => rfl
 | .set _, s | .beg, s | .fin, s | .ref _, s => by simp only [thrT, consT, off_true]
 | .cat x y, s => by
  simp only [thrT, consT, numT];rw [thr_num em x, thr_num em y, num_off, num_off, num_off, off_off, off_off, Bool.and_assoc]
 | .alt x y, s => by
  simp only [thrT, consT, numT];rw [thr_num em x, thr_num em y, num_off, num_off, num_off, off_off, off_off, Bool.and_assoc]
 | .times _ _ x, s => by
  simp only [thrT, consT, numT];rw [thr_num em x, num_off, off_off]
 | .grp n x, s => by
  simp only [thrT, consT, numT];rw [thr_num em x];rfl
theorem one_set {s : List Nat} (h : OneN ⟨1, s, 0, 0, 0, 0, 0⟩) : s ≠ z4 := by
 unfold OneN at h;dsimp only at h;rcases h with q | q | q | q | q | q
 · omega
 · exact q.2.1
 · omega
 · omega
 · omega
 · omega
theorem one_times {a mn mx : Int} (h : OneN ⟨6, z4, a, 0, mn, mx, 0⟩) : 0 ≤ mn ∧ mn ≤ 255 ∧ (mx = -1 ∨ (mn ≤ mx ∧ 1 ≤ mx ∧ mx ≤ 255)) := by
 unfold OneN at h;dsimp only at h;rcases h with q | q | q | q | q | q
 · omega
 · omega
 · omega
 · exact ⟨q.2.2.2.2.1, q.2.2.2.2.2.1, q.2.2.2.2.2.2⟩
 · omega
 · omega
theorem one_grp {a n : Int} (h : OneN ⟨7, z4, a, 0, 0, 0, n⟩) : 1 ≤ n ∧ n ≤ 9 := by
 unfold OneN at h;dsimp only at h;rcases h with q | q | q | q | q | q
 · omega
 · omega
 · omega
 · omega
 · exact ⟨q.2.2.2.2.2.1, q.2.2.2.2.2.2⟩
 · omega
theorem one_ref {n : Int} (h : OneN ⟨8, z4, 0, 0, 0, 0, n⟩) : 1 ≤ n ∧ n ≤ 9 := by
 unfold OneN at h;dsimp only at h;rcases h with q | q | q | q | q | q
 · omega
 · omega
 · omega
 · omega
 · omega
 · exact ⟨q.2.2.2.2.2.2.1, q.2.2.2.2.2.2.2⟩
/-- Nodes that may be alone, of a tree that holds together. -/
theorem fine_of (em : Bool) : ∀ (t : Tr) (o : Nat), (∀ n ∈ t.nodes o, OneN n) → consT em t = true → t.Fine (em = true)
 | .e, o, _, hc => hc
 | .set s, o, h, _ => one_set (h _ (by simp [nodes, root]))
 | .beg, o, _, _ => trivial
 | .fin, o, _, _ => trivial
 | .cat x y, o, h, hc => by
  simp only [consT, Bool.and_eq_true, decide_eq_true_eq] at hc;exact ⟨fine_of em x o (fun n hn => h n (by simp [nodes, hn])) hc.1.2, fine_of em y (o + x.size) (fun n hn => h n (by simp [nodes, hn])) hc.2, hc.1.1⟩
 | .alt x y, o, h, hc => by
  simp only [consT, Bool.and_eq_true, decide_eq_true_eq] at hc;exact ⟨fine_of em x o (fun n hn => h n (by simp [nodes, hn])) hc.1.2, fine_of em y (o + x.size) (fun n hn => h n (by simp [nodes, hn])) hc.2, hc.1.1⟩
 | .times mn mx x, o, h, hc => by
  simp only [consT, Bool.and_eq_true, decide_eq_true_eq] at hc;have h1 := one_times (h ((Tr.times mn mx x).root o) (by simp [nodes]));exact ⟨fine_of em x o (fun n hn => h n (by simp [nodes, hn])) hc.2, h1.1, h1.2.1, h1.2.2, hc.1⟩
 | .grp m x, o, h, hc => by
  simp only [consT] at hc;have h1 := one_grp (h ((Tr.grp m x).root o) (by simp [nodes]));exact ⟨fine_of em x o (fun n hn => h n (by simp [nodes, hn])) hc, h1.1, h1.2⟩
 | .ref m, o, h, _ => one_ref (h _ (by simp [nodes, root]))
theorem cons_of (em : Bool) : ∀ t : Tr, t.Fine (em = true) → consT em t = true
 | .e, h => h
 | .set _, _ | .beg, _ | .fin, _ | .ref _, _ => rfl
 | .cat x y, h => by
  simp only [consT, Bool.and_eq_true, decide_eq_true_eq];exact ⟨⟨h.2.2, cons_of em x h.1⟩, cons_of em y h.2.1⟩
 | .alt x y, h => by
  simp only [consT, Bool.and_eq_true, decide_eq_true_eq];exact ⟨⟨h.2.2, cons_of em x h.1⟩, cons_of em y h.2.1⟩
 | .times _ _ x, h => by
  simp only [consT, Bool.and_eq_true, decide_eq_true_eq];exact ⟨h.2.2.2.2, cons_of em x h.1⟩
 | .grp _ x, h => cons_of em x h.1
theorem fine_nodes (em : Prop) : ∀ (t : Tr) (o : Nat), t.Fine em → ∀ n ∈ t.nodes o, OneN n
 | t, o, h, n, hn => by
  have hr := fine_one h o
  match t with
  | .e | .set _ | .beg | .fin | .ref _ => obtain rfl := List.mem_singleton.1 hn; exact hr
  | .cat x y | .alt x y =>
   simp only [nodes, List.mem_append, List.mem_singleton] at hn;rcases hn with (q | q) | rfl
   · exact fine_nodes em x o h.1 n q
   · exact fine_nodes em y _ h.2.1 n q
   · exact hr
  | .times _ _ x | .grp _ x =>
   simp only [nodes, List.mem_append, List.mem_singleton] at hn;rcases hn with q | rfl
   · exact fine_nodes em x o h.1 n q
   · exact hr
/-- What has a node that may not be alone is no pattern. -/
theorem may_one {l : List Nd} (h : ¬ ∀ n ∈ l, OneN n) : mayL l = false := by
 unfold mayL;cases hp : patOf l with
 | none => rfl
 | some t =>
  obtain ⟨h1, h2⟩ := patOf_some hp;exact absurd (fun n hn => fine_nodes _ t 0 h2.1 n (by rw [← h1]; exact hn)) h
theorem may_first {l : List Nd} (hl : l.length ≤ 120) (h : firstF l 121 ((l.length : Int) - 1) ≠ 0) : mayL l = false := by
 unfold mayL;cases hp : patOf l with
 | none => rfl
 | some t =>
  obtain ⟨h1, h2⟩ := patOf_some hp;exfalso;apply h;(have hs : l.length = t.size := by rw [h1, nodes_len]);have hp := size_pos t;have := first_tree (l := l) t 0 121 (by rw [h1]; exact at_self t) (by omega);rw [show ((l.length : Int) - 1) = ((0 + t.size - 1 : Nat) : Int) by omega, this];rfl
theorem tree_of_first {l : List Nd} (hone : ∀ n ∈ l, OneN n) (h : firstF l 121 ((l.length : Int) - 1) = 0) : ∃ t : Tr, l = t.nodes 0 := by
 obtain ⟨t, ht, hs⟩ := tree_first hone 121 ((l.length : Int) - 1) (by rw [h]; exact Int.le_refl _);rw [h] at ht hs;refine ⟨t, List.ext_getElem? fun j => ?_⟩;(have hl : l.length = t.size := by omega);rcases Nat.lt_or_ge j t.size with q | q
 · have := ht j q;simpa using this
 · rw [List.getElem?_eq_none (by omega), List.getElem?_eq_none (by rw [nodes_len]; exact q)]
/-- What is found on the way through a pattern that is one, and through one that is none. -/
theorem thr_may {t : Tr} (hone : ∀ n ∈ t.nodes 0, OneN n) (hl : t.size ≤ 120) :
  (thrT (decide (t.size = 1)) t num0).ok = mayL (t.nodes 0) ∧ (mayL (t.nodes 0) = true → (thrT (decide (t.size = 1)) t num0).g = groupsL (t.nodes 0) ∧ (thrT (decide (t.size = 1)) t num0).r = refsL (t.nodes 0)) := by
 have hp := size_pos t;have he : ((decide (t.size = 1)) = true) = (t.size ≤ 1) := by
  rw [decide_eq_true_eq];apply propext;omega
 rw [thr_num];(have hg0 : (numT t num0).g = cnt t := by rw [num_g]; simp [num0]);(have hr0 : (numT t num0).r = decide (0 < refsT t) := by rw [num_r]; simp [num0]);have key : ((numT t num0).ok && consT (decide (t.size = 1)) t) = mayL (t.nodes 0) := by
  unfold mayL;cases hpat : patOf (t.nodes 0) with
  | none =>
   have hn := patOf_none hpat t rfl;cases hok : (numT t num0).ok with
   | false => rfl
   | true =>
    cases hc : consT (decide (t.size = 1)) t with
    | false => rfl
    | true =>
     exfalso;apply hn;have := fine_of _ t 0 hone hc;rw [he] at this;exact ⟨this, hl, hok⟩
  | some u =>
   obtain ⟨h1, h2⟩ := patOf_some hpat;obtain rfl := nodes_inj t u 0 h1;have hw := h2.1;unfold Whole at hw;rw [← he] at hw;rw [h2.2.2, cons_of _ t hw];rfl
 refine ⟨key, fun hm => ?_⟩;have hg : ∃ u, patOf (t.nodes 0) = some u := by
  unfold mayL at hm;exact Option.isSome_iff_exists.1 hm
 obtain ⟨u, hu⟩ := hg;obtain ⟨h1, _⟩ := patOf_some hu;obtain rfl := nodes_inj t u 0 h1;unfold groupsL refsL;rw [hu];exact ⟨hg0, hr0⟩
open Go.RowKit Go.Shelf
open St (Wf word zeroW wf_zero)
theorem fields_0 (s : List Nat) (a b mn mx m : Int) (w : World) (hw : Wf s) : Calls Tryz.prog 120 #[NV ⟨0, s, a, b, mn, mx, m⟩] w fun e w' => e = .returned (.bool (decide (OneN ⟨0, s, a, b, mn, mx, m⟩))) ∧ Below w.heap.size w w' := by
 (have HQ := fun W => run_eqR (plainN ⟨0, s, a, b, mn, mx, m⟩) ⟨0, s, a, b, mn, mx, m⟩ (wf_plain hw) hw W);(have HG : ∀ x y W, (eqGuard .eql 81 x y (.agg #[E 0, .int .u64 0, .int .u64 0, .int .u64 0, .int .u64 0, E 0, E 0, E 0, E 0, E 0]) (NV ⟨0, s, a, b, mn, mx, m⟩)).run Tryz.prog W = .ok () W := fun x y W => run_eqGuard_agg W _ _ _ _ _ _ (by kernel_rfl));have HBL := Hd ((((Below.refl w.heap.size w).alloc (Nat.le_refl _) (Obj.cells (NC ⟨0, s, a, b, mn, mx, m⟩) 81)).alloc (by simp) (Obj.cells #[E 0, .int .u64 0, .int .u64 0, .int .u64 0, .int .u64 0, E 0, E 0, E 0, E 0, E 0] 81)).alloc (by simp; omega) (Obj.cells #[.int .u64 0, .int .u64 0, .int .u64 0, .int .u64 0] 44));by_cases hp : plainN ⟨0, s, a, b, mn, mx, m⟩ = ⟨0, s, a, b, mn, mx, m⟩
 ·
  have HB : ∀ W, (binOp .eql 81 (.agg #[E 0, .int .u64 0, .int .u64 0, .int .u64 0, .int .u64 0, E 0, E 0, E 0, E 0, E 0]) (NV ⟨0, s, a, b, mn, mx, m⟩)).run Tryz.prog W = .ok (.bool true) W := fun W => by
   have := HQ W;rw [decide_eq_true hp] at this;rw [run_eql_struct];exact (congrArg (fun q => Result.andThen q fun b w' => Result.ok (Value.bool b) w') this)
  have HO := Hd (show decide (OneN ⟨0, s, a, b, mn, mx, m⟩) = true from by rw [decide_eq_true_iff, ← hp]; unfold OneN plainN; simp);clear HQ hp;go_enter Tryz.func120, Tryz.ntmps120;go_wp2;go_ret;exact ⟨by rw [HO.out]; rfl, HBL.out⟩
 ·
  have HB : ∀ W, (binOp .eql 81 (.agg #[E 0, .int .u64 0, .int .u64 0, .int .u64 0, .int .u64 0, E 0, E 0, E 0, E 0, E 0]) (NV ⟨0, s, a, b, mn, mx, m⟩)).run Tryz.prog W = .ok (.bool false) W := fun W => by
   have := HQ W;rw [decide_eq_false hp] at this;rw [run_eql_struct];exact (congrArg (fun q => Result.andThen q fun b w' => Result.ok (Value.bool b) w') this)
  have HO := Hd (show decide (OneN ⟨0, s, a, b, mn, mx, m⟩) = false from by rw [decide_eq_false_iff_not]; exact fun q => hp (one_plain q));clear HQ hp;go_enter Tryz.func120, Tryz.ntmps120;go_wp2;go_ret;exact ⟨by rw [HO.out]; rfl, HBL.out⟩
theorem fields_1 (s : List Nat) (a b mn mx m : Int) (w : World) (hw : Wf s) : Calls Tryz.prog 120 #[NV ⟨1, s, a, b, mn, mx, m⟩] w fun e w' => e = .returned (.bool (decide (OneN ⟨1, s, a, b, mn, mx, m⟩))) ∧ Below w.heap.size w w' := by
 (have HQ := fun W => run_eqR (plainN ⟨1, s, a, b, mn, mx, m⟩) ⟨1, s, a, b, mn, mx, m⟩ (wf_plain hw) hw W);(have HG : ∀ x y W, (eqGuard .eql 81 x y (.agg #[E 1, U (word s 0), U (word s 1), U (word s 2), U (word s 3), E 0, E 0, E 0, E 0, E 0]) (NV ⟨1, s, a, b, mn, mx, m⟩)).run Tryz.prog W = .ok () W := fun x y W => run_eqGuard_agg W _ _ _ _ _ _ (by kernel_rfl));have HBL := Hd ((((Below.refl w.heap.size w).alloc (Nat.le_refl _) (Obj.cells (NC ⟨1, s, a, b, mn, mx, m⟩) 81)).alloc (by simp) (Obj.cells #[E 1, U (word s 0), U (word s 1), U (word s 2), U (word s 3), E 0, E 0, E 0, E 0, E 0] 81)).alloc (by simp; omega) (Obj.cells #[.int .u64 0, .int .u64 0, .int .u64 0, .int .u64 0] 44));(have HS0 := fun W => run_eq4r (word s 0) (word s 1) (word s 2) (word s 3) 0 0 0 0 9998 W);(have hzz : (word s 0 = 0 ∧ word s 1 = 0 ∧ word s 2 = 0 ∧ word s 3 = 0) ↔ s = z4 := by rw [show z4 = zeroW from rfl, word_eq hw wf_zero]; exact Iff.rfl);(have HGS : ∀ x y W, (eqGuard .eql 44 x y (.agg #[U (word s 0), U (word s 1), U (word s 2), U (word s 3)]) (.agg #[.int .u64 0, .int .u64 0, .int .u64 0, .int .u64 0])).run Tryz.prog W = .ok () W := fun x y W => run_eqGuard_agg W _ _ _ _ _ _ (by kernel_rfl));by_cases hz : s = z4
 ·
  have HS : ∀ W, (binOp .eql 44 (.agg #[U (word s 0), U (word s 1), U (word s 2), U (word s 3)]) (.agg #[.int .u64 0, .int .u64 0, .int .u64 0, .int .u64 0])).run Tryz.prog W = .ok (.bool true) W := fun W => by
   have := HS0 W;rw [decide_eq_true (hzz.2 hz)] at this;rw [run_eql_struct];exact (congrArg (fun q => Result.andThen q fun b w' => Result.ok (Value.bool b) w') this)
  have HO := Hd (show decide (OneN ⟨1, s, a, b, mn, mx, m⟩) = false from by rw [decide_eq_false_iff_not]; unfold OneN; simp [hz]);clear HQ HS0 hzz hz;go_enter Tryz.func120, Tryz.ntmps120;go_wp2;go_ret;exact ⟨by rw [HO.out]; rfl, HBL.out⟩
 ·
  have HS : ∀ W, (binOp .eql 44 (.agg #[U (word s 0), U (word s 1), U (word s 2), U (word s 3)]) (.agg #[.int .u64 0, .int .u64 0, .int .u64 0, .int .u64 0])).run Tryz.prog W = .ok (.bool false) W := fun W => by
   have := HS0 W;rw [decide_eq_false (fun q => hz (hzz.1 q))] at this;rw [run_eql_struct];exact (congrArg (fun q => Result.andThen q fun b w' => Result.ok (Value.bool b) w') this)
  clear HS0 hzz;by_cases hp : plainN ⟨1, s, a, b, mn, mx, m⟩ = ⟨1, s, a, b, mn, mx, m⟩
  ·
   have HB : ∀ W, (binOp .eql 81 (.agg #[E 1, U (word s 0), U (word s 1), U (word s 2), U (word s 3), E 0, E 0, E 0, E 0, E 0]) (NV ⟨1, s, a, b, mn, mx, m⟩)).run Tryz.prog W = .ok (.bool true) W := fun W => by
    have := HQ W;rw [decide_eq_true hp] at this;rw [run_eql_struct];exact (congrArg (fun q => Result.andThen q fun b w' => Result.ok (Value.bool b) w') this)
   have HO := Hd (show decide (OneN ⟨1, s, a, b, mn, mx, m⟩) = true from by rw [decide_eq_true_iff, ← hp]; unfold OneN plainN; simpa using hz);clear HQ hp;go_enter Tryz.func120, Tryz.ntmps120;go_wp2;go_ret;exact ⟨by rw [HO.out]; rfl, HBL.out⟩
  ·
   have HB : ∀ W, (binOp .eql 81 (.agg #[E 1, U (word s 0), U (word s 1), U (word s 2), U (word s 3), E 0, E 0, E 0, E 0, E 0]) (NV ⟨1, s, a, b, mn, mx, m⟩)).run Tryz.prog W = .ok (.bool false) W := fun W => by
    have := HQ W;rw [decide_eq_false hp] at this;rw [run_eql_struct];exact (congrArg (fun q => Result.andThen q fun b w' => Result.ok (Value.bool b) w') this)
   have HO := Hd (show decide (OneN ⟨1, s, a, b, mn, mx, m⟩) = false from by rw [decide_eq_false_iff_not]; exact fun q => hp (one_plain q));clear HQ hp;go_enter Tryz.func120, Tryz.ntmps120;go_wp2;go_ret;exact ⟨by rw [HO.out]; rfl, HBL.out⟩
theorem fields_2 (s : List Nat) (a b mn mx m : Int) (w : World) (hw : Wf s) : Calls Tryz.prog 120 #[NV ⟨2, s, a, b, mn, mx, m⟩] w fun e w' => e = .returned (.bool (decide (OneN ⟨2, s, a, b, mn, mx, m⟩))) ∧ Below w.heap.size w w' := by
 (have HQ := fun W => run_eqR (plainN ⟨2, s, a, b, mn, mx, m⟩) ⟨2, s, a, b, mn, mx, m⟩ (wf_plain hw) hw W);(have HG : ∀ x y W, (eqGuard .eql 81 x y (.agg #[E 2, .int .u64 0, .int .u64 0, .int .u64 0, .int .u64 0, E 0, E 0, E 0, E 0, E 0]) (NV ⟨2, s, a, b, mn, mx, m⟩)).run Tryz.prog W = .ok () W := fun x y W => run_eqGuard_agg W _ _ _ _ _ _ (by kernel_rfl));have HBL := Hd ((((Below.refl w.heap.size w).alloc (Nat.le_refl _) (Obj.cells (NC ⟨2, s, a, b, mn, mx, m⟩) 81)).alloc (by simp) (Obj.cells #[E 2, .int .u64 0, .int .u64 0, .int .u64 0, .int .u64 0, E 0, E 0, E 0, E 0, E 0] 81)).alloc (by simp; omega) (Obj.cells #[.int .u64 0, .int .u64 0, .int .u64 0, .int .u64 0] 44));by_cases hp : plainN ⟨2, s, a, b, mn, mx, m⟩ = ⟨2, s, a, b, mn, mx, m⟩
 ·
  have HB : ∀ W, (binOp .eql 81 (.agg #[E 2, .int .u64 0, .int .u64 0, .int .u64 0, .int .u64 0, E 0, E 0, E 0, E 0, E 0]) (NV ⟨2, s, a, b, mn, mx, m⟩)).run Tryz.prog W = .ok (.bool true) W := fun W => by
   have := HQ W;rw [decide_eq_true hp] at this;rw [run_eql_struct];exact (congrArg (fun q => Result.andThen q fun b w' => Result.ok (Value.bool b) w') this)
  have HO := Hd (show decide (OneN ⟨2, s, a, b, mn, mx, m⟩) = true from by rw [decide_eq_true_iff, ← hp]; unfold OneN plainN; simp);clear HQ hp;go_enter Tryz.func120, Tryz.ntmps120;go_wp2;go_ret;exact ⟨by rw [HO.out]; rfl, HBL.out⟩
 ·
  have HB : ∀ W, (binOp .eql 81 (.agg #[E 2, .int .u64 0, .int .u64 0, .int .u64 0, .int .u64 0, E 0, E 0, E 0, E 0, E 0]) (NV ⟨2, s, a, b, mn, mx, m⟩)).run Tryz.prog W = .ok (.bool false) W := fun W => by
   have := HQ W;rw [decide_eq_false hp] at this;rw [run_eql_struct];exact (congrArg (fun q => Result.andThen q fun b w' => Result.ok (Value.bool b) w') this)
  have HO := Hd (show decide (OneN ⟨2, s, a, b, mn, mx, m⟩) = false from by rw [decide_eq_false_iff_not]; exact fun q => hp (one_plain q));clear HQ hp;go_enter Tryz.func120, Tryz.ntmps120;go_wp2;go_ret;exact ⟨by rw [HO.out]; rfl, HBL.out⟩
theorem fields_3 (s : List Nat) (a b mn mx m : Int) (w : World) (hw : Wf s) : Calls Tryz.prog 120 #[NV ⟨3, s, a, b, mn, mx, m⟩] w fun e w' => e = .returned (.bool (decide (OneN ⟨3, s, a, b, mn, mx, m⟩))) ∧ Below w.heap.size w w' := by
 (have HQ := fun W => run_eqR (plainN ⟨3, s, a, b, mn, mx, m⟩) ⟨3, s, a, b, mn, mx, m⟩ (wf_plain hw) hw W);(have HG : ∀ x y W, (eqGuard .eql 81 x y (.agg #[E 3, .int .u64 0, .int .u64 0, .int .u64 0, .int .u64 0, E 0, E 0, E 0, E 0, E 0]) (NV ⟨3, s, a, b, mn, mx, m⟩)).run Tryz.prog W = .ok () W := fun x y W => run_eqGuard_agg W _ _ _ _ _ _ (by kernel_rfl));have HBL := Hd ((((Below.refl w.heap.size w).alloc (Nat.le_refl _) (Obj.cells (NC ⟨3, s, a, b, mn, mx, m⟩) 81)).alloc (by simp) (Obj.cells #[E 3, .int .u64 0, .int .u64 0, .int .u64 0, .int .u64 0, E 0, E 0, E 0, E 0, E 0] 81)).alloc (by simp; omega) (Obj.cells #[.int .u64 0, .int .u64 0, .int .u64 0, .int .u64 0] 44));by_cases hp : plainN ⟨3, s, a, b, mn, mx, m⟩ = ⟨3, s, a, b, mn, mx, m⟩
 ·
  have HB : ∀ W, (binOp .eql 81 (.agg #[E 3, .int .u64 0, .int .u64 0, .int .u64 0, .int .u64 0, E 0, E 0, E 0, E 0, E 0]) (NV ⟨3, s, a, b, mn, mx, m⟩)).run Tryz.prog W = .ok (.bool true) W := fun W => by
   have := HQ W;rw [decide_eq_true hp] at this;rw [run_eql_struct];exact (congrArg (fun q => Result.andThen q fun b w' => Result.ok (Value.bool b) w') this)
  have HO := Hd (show decide (OneN ⟨3, s, a, b, mn, mx, m⟩) = true from by rw [decide_eq_true_iff, ← hp]; unfold OneN plainN; simp);clear HQ hp;go_enter Tryz.func120, Tryz.ntmps120;go_wp2;go_ret;exact ⟨by rw [HO.out]; rfl, HBL.out⟩
 ·
  have HB : ∀ W, (binOp .eql 81 (.agg #[E 3, .int .u64 0, .int .u64 0, .int .u64 0, .int .u64 0, E 0, E 0, E 0, E 0, E 0]) (NV ⟨3, s, a, b, mn, mx, m⟩)).run Tryz.prog W = .ok (.bool false) W := fun W => by
   have := HQ W;rw [decide_eq_false hp] at this;rw [run_eql_struct];exact (congrArg (fun q => Result.andThen q fun b w' => Result.ok (Value.bool b) w') this)
  have HO := Hd (show decide (OneN ⟨3, s, a, b, mn, mx, m⟩) = false from by rw [decide_eq_false_iff_not]; exact fun q => hp (one_plain q));clear HQ hp;go_enter Tryz.func120, Tryz.ntmps120;go_wp2;go_ret;exact ⟨by rw [HO.out]; rfl, HBL.out⟩
theorem fields_4 (s : List Nat) (a b mn mx m : Int) (w : World) (hw : Wf s) : Calls Tryz.prog 120 #[NV ⟨4, s, a, b, mn, mx, m⟩] w fun e w' => e = .returned (.bool (decide (OneN ⟨4, s, a, b, mn, mx, m⟩))) ∧ Below w.heap.size w w' := by
 (have HQ := fun W => run_eqR (plainN ⟨4, s, a, b, mn, mx, m⟩) ⟨4, s, a, b, mn, mx, m⟩ (wf_plain hw) hw W);(have HG : ∀ x y W, (eqGuard .eql 81 x y (.agg #[E 4, .int .u64 0, .int .u64 0, .int .u64 0, .int .u64 0, E a, E b, E 0, E 0, E 0]) (NV ⟨4, s, a, b, mn, mx, m⟩)).run Tryz.prog W = .ok () W := fun x y W => run_eqGuard_agg W _ _ _ _ _ _ (by kernel_rfl));have HBL := Hd ((((Below.refl w.heap.size w).alloc (Nat.le_refl _) (Obj.cells (NC ⟨4, s, a, b, mn, mx, m⟩) 81)).alloc (by simp) (Obj.cells #[E 4, .int .u64 0, .int .u64 0, .int .u64 0, .int .u64 0, E a, E b, E 0, E 0, E 0] 81)).alloc (by simp; omega) (Obj.cells #[.int .u64 0, .int .u64 0, .int .u64 0, .int .u64 0] 44));by_cases hp : plainN ⟨4, s, a, b, mn, mx, m⟩ = ⟨4, s, a, b, mn, mx, m⟩
 ·
  have HB : ∀ W, (binOp .eql 81 (.agg #[E 4, .int .u64 0, .int .u64 0, .int .u64 0, .int .u64 0, E a, E b, E 0, E 0, E 0]) (NV ⟨4, s, a, b, mn, mx, m⟩)).run Tryz.prog W = .ok (.bool true) W := fun W => by
   have := HQ W;rw [decide_eq_true hp] at this;rw [run_eql_struct];exact (congrArg (fun q => Result.andThen q fun b w' => Result.ok (Value.bool b) w') this)
  have HO := Hd (show decide (OneN ⟨4, s, a, b, mn, mx, m⟩) = true from by rw [decide_eq_true_iff, ← hp]; unfold OneN plainN; simp);clear HQ hp;go_enter Tryz.func120, Tryz.ntmps120;go_wp2;go_ret;exact ⟨by rw [HO.out]; rfl, HBL.out⟩
 ·
  have HB : ∀ W, (binOp .eql 81 (.agg #[E 4, .int .u64 0, .int .u64 0, .int .u64 0, .int .u64 0, E a, E b, E 0, E 0, E 0]) (NV ⟨4, s, a, b, mn, mx, m⟩)).run Tryz.prog W = .ok (.bool false) W := fun W => by
   have := HQ W;rw [decide_eq_false hp] at this;rw [run_eql_struct];exact (congrArg (fun q => Result.andThen q fun b w' => Result.ok (Value.bool b) w') this)
  have HO := Hd (show decide (OneN ⟨4, s, a, b, mn, mx, m⟩) = false from by rw [decide_eq_false_iff_not]; exact fun q => hp (one_plain q));clear HQ hp;go_enter Tryz.func120, Tryz.ntmps120;go_wp2;go_ret;exact ⟨by rw [HO.out]; rfl, HBL.out⟩
theorem fields_5 (s : List Nat) (a b mn mx m : Int) (w : World) (hw : Wf s) : Calls Tryz.prog 120 #[NV ⟨5, s, a, b, mn, mx, m⟩] w fun e w' => e = .returned (.bool (decide (OneN ⟨5, s, a, b, mn, mx, m⟩))) ∧ Below w.heap.size w w' := by
 (have HQ := fun W => run_eqR (plainN ⟨5, s, a, b, mn, mx, m⟩) ⟨5, s, a, b, mn, mx, m⟩ (wf_plain hw) hw W);(have HG : ∀ x y W, (eqGuard .eql 81 x y (.agg #[E 5, .int .u64 0, .int .u64 0, .int .u64 0, .int .u64 0, E a, E b, E 0, E 0, E 0]) (NV ⟨5, s, a, b, mn, mx, m⟩)).run Tryz.prog W = .ok () W := fun x y W => run_eqGuard_agg W _ _ _ _ _ _ (by kernel_rfl));have HBL := Hd ((((Below.refl w.heap.size w).alloc (Nat.le_refl _) (Obj.cells (NC ⟨5, s, a, b, mn, mx, m⟩) 81)).alloc (by simp) (Obj.cells #[E 5, .int .u64 0, .int .u64 0, .int .u64 0, .int .u64 0, E a, E b, E 0, E 0, E 0] 81)).alloc (by simp; omega) (Obj.cells #[.int .u64 0, .int .u64 0, .int .u64 0, .int .u64 0] 44));by_cases hp : plainN ⟨5, s, a, b, mn, mx, m⟩ = ⟨5, s, a, b, mn, mx, m⟩
 ·
  have HB : ∀ W, (binOp .eql 81 (.agg #[E 5, .int .u64 0, .int .u64 0, .int .u64 0, .int .u64 0, E a, E b, E 0, E 0, E 0]) (NV ⟨5, s, a, b, mn, mx, m⟩)).run Tryz.prog W = .ok (.bool true) W := fun W => by
   have := HQ W;rw [decide_eq_true hp] at this;rw [run_eql_struct];exact (congrArg (fun q => Result.andThen q fun b w' => Result.ok (Value.bool b) w') this)
  have HO := Hd (show decide (OneN ⟨5, s, a, b, mn, mx, m⟩) = true from by rw [decide_eq_true_iff, ← hp]; unfold OneN plainN; simp);clear HQ hp;go_enter Tryz.func120, Tryz.ntmps120;go_wp2;go_ret;exact ⟨by rw [HO.out]; rfl, HBL.out⟩
 ·
  have HB : ∀ W, (binOp .eql 81 (.agg #[E 5, .int .u64 0, .int .u64 0, .int .u64 0, .int .u64 0, E a, E b, E 0, E 0, E 0]) (NV ⟨5, s, a, b, mn, mx, m⟩)).run Tryz.prog W = .ok (.bool false) W := fun W => by
   have := HQ W;rw [decide_eq_false hp] at this;rw [run_eql_struct];exact (congrArg (fun q => Result.andThen q fun b w' => Result.ok (Value.bool b) w') this)
  have HO := Hd (show decide (OneN ⟨5, s, a, b, mn, mx, m⟩) = false from by rw [decide_eq_false_iff_not]; exact fun q => hp (one_plain q));clear HQ hp;go_enter Tryz.func120, Tryz.ntmps120;go_wp2;go_ret;exact ⟨by rw [HO.out]; rfl, HBL.out⟩
theorem fields_6 (s : List Nat) (a b mn mx m : Int) (w : World) (hw : Wf s) (hm1 : mx ≠ -1) : Calls Tryz.prog 120 #[NV ⟨6, s, a, b, mn, mx, m⟩] w fun e w' => e = .returned (.bool (decide (OneN ⟨6, s, a, b, mn, mx, m⟩))) ∧ Below w.heap.size w w' := by
 (have HQ := fun W => run_eqR (plainN ⟨6, s, a, b, mn, mx, m⟩) ⟨6, s, a, b, mn, mx, m⟩ (wf_plain hw) hw W);(have HG : ∀ x y W, (eqGuard .eql 81 x y (.agg #[E 6, .int .u64 0, .int .u64 0, .int .u64 0, .int .u64 0, E a, E 0, E mn, E mx, E 0]) (NV ⟨6, s, a, b, mn, mx, m⟩)).run Tryz.prog W = .ok () W := fun x y W => run_eqGuard_agg W _ _ _ _ _ _ (by kernel_rfl));have HBL := Hd ((((Below.refl w.heap.size w).alloc (Nat.le_refl _) (Obj.cells (NC ⟨6, s, a, b, mn, mx, m⟩) 81)).alloc (by simp) (Obj.cells #[E 6, .int .u64 0, .int .u64 0, .int .u64 0, .int .u64 0, E a, E 0, E mn, E mx, E 0] 81)).alloc (by simp; omega) (Obj.cells #[.int .u64 0, .int .u64 0, .int .u64 0, .int .u64 0] 44));(have hm1B : (mx != -1) = true := by simpa using hm1);by_cases h0 : 0 ≤ mn
 ·
  (have h0' : ¬ mn < 0 := by omega);by_cases h255 : mn ≤ 255
  ·
   (have h255' : ¬ 255 < mn := by omega);by_cases c1 : mn ≤ mx
   ·
    (have c1' : ¬ mx < mn := by omega);by_cases c2 : 1 ≤ mx
    ·
     (have c2' : ¬ mx < 1 := by omega);by_cases c3 : mx ≤ 255
     ·
      (have c3' : ¬ 255 < mx := by omega);by_cases hp : plainN ⟨6, s, a, b, mn, mx, m⟩ = ⟨6, s, a, b, mn, mx, m⟩
      ·
       have HB : ∀ W, (binOp .eql 81 (.agg #[E 6, .int .u64 0, .int .u64 0, .int .u64 0, .int .u64 0, E a, E 0, E mn, E mx, E 0]) (NV ⟨6, s, a, b, mn, mx, m⟩)).run Tryz.prog W = .ok (.bool true) W := fun W => by
        have := HQ W;rw [decide_eq_true hp] at this;rw [run_eql_struct];exact (congrArg (fun q => Result.andThen q fun b w' => Result.ok (Value.bool b) w') this)
       have HO := Hd (show decide (OneN ⟨6, s, a, b, mn, mx, m⟩) = true from by rw [decide_eq_true_iff, ← hp]; unfold OneN plainN; simp; omega);clear HQ hp;go_enter Tryz.func120, Tryz.ntmps120;go_wp2;go_ret;exact ⟨by rw [HO.out]; rfl, HBL.out⟩
      ·
       have HB : ∀ W, (binOp .eql 81 (.agg #[E 6, .int .u64 0, .int .u64 0, .int .u64 0, .int .u64 0, E a, E 0, E mn, E mx, E 0]) (NV ⟨6, s, a, b, mn, mx, m⟩)).run Tryz.prog W = .ok (.bool false) W := fun W => by
        have := HQ W;rw [decide_eq_false hp] at this;rw [run_eql_struct];exact (congrArg (fun q => Result.andThen q fun b w' => Result.ok (Value.bool b) w') this)
       have HO := Hd (show decide (OneN ⟨6, s, a, b, mn, mx, m⟩) = false from by rw [decide_eq_false_iff_not]; exact fun q => hp (one_plain q));clear HQ hp;go_enter Tryz.func120, Tryz.ntmps120;go_wp2;go_ret;exact ⟨by rw [HO.out]; rfl, HBL.out⟩
     · have HO := Hd (show decide (OneN ⟨6, s, a, b, mn, mx, m⟩) = false from by rw [decide_eq_false_iff_not]; unfold OneN; simp; omega);(have hbad : 255 < mx := by omega);clear HQ;go_enter Tryz.func120, Tryz.ntmps120;go_wp2;go_ret;exact ⟨by rw [HO.out]; rfl, HBL.out⟩
    · have HO := Hd (show decide (OneN ⟨6, s, a, b, mn, mx, m⟩) = false from by rw [decide_eq_false_iff_not]; unfold OneN; simp; omega);(have hbad : mx < 1 := by omega);clear HQ;go_enter Tryz.func120, Tryz.ntmps120;go_wp2;go_ret;exact ⟨by rw [HO.out]; rfl, HBL.out⟩
   · have HO := Hd (show decide (OneN ⟨6, s, a, b, mn, mx, m⟩) = false from by rw [decide_eq_false_iff_not]; unfold OneN; simp; omega);(have hbad : mx < mn := by omega);clear HQ;go_enter Tryz.func120, Tryz.ntmps120;go_wp2;go_ret;exact ⟨by rw [HO.out]; rfl, HBL.out⟩
  · have HO := Hd (show decide (OneN ⟨6, s, a, b, mn, mx, m⟩) = false from by rw [decide_eq_false_iff_not]; unfold OneN; simp; omega);(have hbad : 255 < mn := by omega);clear HQ;go_enter Tryz.func120, Tryz.ntmps120;go_wp2;go_ret;exact ⟨by rw [HO.out]; rfl, HBL.out⟩
 · have HO := Hd (show decide (OneN ⟨6, s, a, b, mn, mx, m⟩) = false from by rw [decide_eq_false_iff_not]; unfold OneN; simp; omega);(have hbad : mn < 0 := by omega);clear HQ;go_enter Tryz.func120, Tryz.ntmps120;go_wp2;go_ret;exact ⟨by rw [HO.out]; rfl, HBL.out⟩
theorem fields_6m (s : List Nat) (a b mn m : Int) (w : World) (hw : Wf s) : Calls Tryz.prog 120 #[NV ⟨6, s, a, b, mn, (-1), m⟩] w fun e w' => e = .returned (.bool (decide (OneN ⟨6, s, a, b, mn, (-1), m⟩))) ∧ Below w.heap.size w w' := by
 (have HQ := fun W => run_eqR (plainN ⟨6, s, a, b, mn, (-1), m⟩) ⟨6, s, a, b, mn, (-1), m⟩ (wf_plain hw) hw W);(have HG : ∀ x y W, (eqGuard .eql 81 x y (.agg #[E 6, .int .u64 0, .int .u64 0, .int .u64 0, .int .u64 0, E a, E 0, E mn, E (-1), E 0]) (NV ⟨6, s, a, b, mn, (-1), m⟩)).run Tryz.prog W = .ok () W := fun x y W => run_eqGuard_agg W _ _ _ _ _ _ (by kernel_rfl));have HBL := Hd ((((Below.refl w.heap.size w).alloc (Nat.le_refl _) (Obj.cells (NC ⟨6, s, a, b, mn, (-1), m⟩) 81)).alloc (by simp) (Obj.cells #[E 6, .int .u64 0, .int .u64 0, .int .u64 0, .int .u64 0, E a, E 0, E mn, E (-1), E 0] 81)).alloc (by simp; omega) (Obj.cells #[.int .u64 0, .int .u64 0, .int .u64 0, .int .u64 0] 44));by_cases h0 : 0 ≤ mn
 ·
  (have h0' : ¬ mn < 0 := by omega);by_cases h255 : mn ≤ 255
  ·
   (have h255' : ¬ 255 < mn := by omega);by_cases hp : plainN ⟨6, s, a, b, mn, (-1), m⟩ = ⟨6, s, a, b, mn, (-1), m⟩
   ·
    have HB : ∀ W, (binOp .eql 81 (.agg #[E 6, .int .u64 0, .int .u64 0, .int .u64 0, .int .u64 0, E a, E 0, E mn, E (-1), E 0]) (NV ⟨6, s, a, b, mn, (-1), m⟩)).run Tryz.prog W = .ok (.bool true) W := fun W => by
     have := HQ W;rw [decide_eq_true hp] at this;rw [run_eql_struct];exact (congrArg (fun q => Result.andThen q fun b w' => Result.ok (Value.bool b) w') this)
    have HO := Hd (show decide (OneN ⟨6, s, a, b, mn, (-1), m⟩) = true from by rw [decide_eq_true_iff, ← hp]; unfold OneN plainN; simp; omega);clear HQ hp;go_enter Tryz.func120, Tryz.ntmps120;go_wp2;go_ret;exact ⟨by rw [HO.out]; rfl, HBL.out⟩
   ·
    have HB : ∀ W, (binOp .eql 81 (.agg #[E 6, .int .u64 0, .int .u64 0, .int .u64 0, .int .u64 0, E a, E 0, E mn, E (-1), E 0]) (NV ⟨6, s, a, b, mn, (-1), m⟩)).run Tryz.prog W = .ok (.bool false) W := fun W => by
     have := HQ W;rw [decide_eq_false hp] at this;rw [run_eql_struct];exact (congrArg (fun q => Result.andThen q fun b w' => Result.ok (Value.bool b) w') this)
    have HO := Hd (show decide (OneN ⟨6, s, a, b, mn, (-1), m⟩) = false from by rw [decide_eq_false_iff_not]; exact fun q => hp (one_plain q));clear HQ hp;go_enter Tryz.func120, Tryz.ntmps120;go_wp2;go_ret;exact ⟨by rw [HO.out]; rfl, HBL.out⟩
  · have HO := Hd (show decide (OneN ⟨6, s, a, b, mn, (-1), m⟩) = false from by rw [decide_eq_false_iff_not]; unfold OneN; simp; omega);(have hbad : 255 < mn := by omega);clear HQ;go_enter Tryz.func120, Tryz.ntmps120;go_wp2;go_ret;exact ⟨by rw [HO.out]; rfl, HBL.out⟩
 · have HO := Hd (show decide (OneN ⟨6, s, a, b, mn, (-1), m⟩) = false from by rw [decide_eq_false_iff_not]; unfold OneN; simp; omega);(have hbad : mn < 0 := by omega);clear HQ;go_enter Tryz.func120, Tryz.ntmps120;go_wp2;go_ret;exact ⟨by rw [HO.out]; rfl, HBL.out⟩
theorem fields_7 (s : List Nat) (a b mn mx m : Int) (w : World) (hw : Wf s) : Calls Tryz.prog 120 #[NV ⟨7, s, a, b, mn, mx, m⟩] w fun e w' => e = .returned (.bool (decide (OneN ⟨7, s, a, b, mn, mx, m⟩))) ∧ Below w.heap.size w w' := by
 (have HQ := fun W => run_eqR (plainN ⟨7, s, a, b, mn, mx, m⟩) ⟨7, s, a, b, mn, mx, m⟩ (wf_plain hw) hw W);(have HG : ∀ x y W, (eqGuard .eql 81 x y (.agg #[E 7, .int .u64 0, .int .u64 0, .int .u64 0, .int .u64 0, E a, E 0, E 0, E 0, E m]) (NV ⟨7, s, a, b, mn, mx, m⟩)).run Tryz.prog W = .ok () W := fun x y W => run_eqGuard_agg W _ _ _ _ _ _ (by kernel_rfl));have HBL := Hd ((((Below.refl w.heap.size w).alloc (Nat.le_refl _) (Obj.cells (NC ⟨7, s, a, b, mn, mx, m⟩) 81)).alloc (by simp) (Obj.cells #[E 7, .int .u64 0, .int .u64 0, .int .u64 0, .int .u64 0, E a, E 0, E 0, E 0, E m] 81)).alloc (by simp; omega) (Obj.cells #[.int .u64 0, .int .u64 0, .int .u64 0, .int .u64 0] 44));by_cases hp : plainN ⟨7, s, a, b, mn, mx, m⟩ = ⟨7, s, a, b, mn, mx, m⟩
 ·
  have HB : ∀ W, (binOp .eql 81 (.agg #[E 7, .int .u64 0, .int .u64 0, .int .u64 0, .int .u64 0, E a, E 0, E 0, E 0, E m]) (NV ⟨7, s, a, b, mn, mx, m⟩)).run Tryz.prog W = .ok (.bool true) W := fun W => by
   have := HQ W;rw [decide_eq_true hp] at this;rw [run_eql_struct];exact (congrArg (fun q => Result.andThen q fun b w' => Result.ok (Value.bool b) w') this)
  by_cases h1 : 1 ≤ m
  ·
   by_cases h9 : m ≤ 9
   · have HO := Hd (show decide (OneN ⟨7, s, a, b, mn, mx, m⟩) = true from by rw [decide_eq_true_iff, ← hp]; unfold OneN plainN; simp; omega);clear HQ hp;go_enter Tryz.func120, Tryz.ntmps120;go_wp2;go_ret;exact ⟨by rw [HO.out]; rfl, HBL.out⟩
   · have HO := Hd (show decide (OneN ⟨7, s, a, b, mn, mx, m⟩) = false from by rw [decide_eq_false_iff_not, ← hp]; unfold OneN plainN; simp; omega);clear HQ hp;go_enter Tryz.func120, Tryz.ntmps120;go_wp2;go_ret;exact ⟨by rw [HO.out]; rfl, HBL.out⟩
  · have HO := Hd (show decide (OneN ⟨7, s, a, b, mn, mx, m⟩) = false from by rw [decide_eq_false_iff_not, ← hp]; unfold OneN plainN; simp; omega);clear HQ hp;go_enter Tryz.func120, Tryz.ntmps120;go_wp2;go_ret;exact ⟨by rw [HO.out]; rfl, HBL.out⟩
 ·
  have HB : ∀ W, (binOp .eql 81 (.agg #[E 7, .int .u64 0, .int .u64 0, .int .u64 0, .int .u64 0, E a, E 0, E 0, E 0, E m]) (NV ⟨7, s, a, b, mn, mx, m⟩)).run Tryz.prog W = .ok (.bool false) W := fun W => by
   have := HQ W;rw [decide_eq_false hp] at this;rw [run_eql_struct];exact (congrArg (fun q => Result.andThen q fun b w' => Result.ok (Value.bool b) w') this)
  have HO := Hd (show decide (OneN ⟨7, s, a, b, mn, mx, m⟩) = false from by rw [decide_eq_false_iff_not]; exact fun q => hp (one_plain q));clear HQ hp;go_enter Tryz.func120, Tryz.ntmps120;go_wp2;go_ret;exact ⟨by rw [HO.out]; rfl, HBL.out⟩
theorem fields_8 (s : List Nat) (a b mn mx m : Int) (w : World) (hw : Wf s) : Calls Tryz.prog 120 #[NV ⟨8, s, a, b, mn, mx, m⟩] w fun e w' => e = .returned (.bool (decide (OneN ⟨8, s, a, b, mn, mx, m⟩))) ∧ Below w.heap.size w w' := by
 (have HQ := fun W => run_eqR (plainN ⟨8, s, a, b, mn, mx, m⟩) ⟨8, s, a, b, mn, mx, m⟩ (wf_plain hw) hw W);(have HG : ∀ x y W, (eqGuard .eql 81 x y (.agg #[E 8, .int .u64 0, .int .u64 0, .int .u64 0, .int .u64 0, E 0, E 0, E 0, E 0, E m]) (NV ⟨8, s, a, b, mn, mx, m⟩)).run Tryz.prog W = .ok () W := fun x y W => run_eqGuard_agg W _ _ _ _ _ _ (by kernel_rfl));have HBL := Hd ((((Below.refl w.heap.size w).alloc (Nat.le_refl _) (Obj.cells (NC ⟨8, s, a, b, mn, mx, m⟩) 81)).alloc (by simp) (Obj.cells #[E 8, .int .u64 0, .int .u64 0, .int .u64 0, .int .u64 0, E 0, E 0, E 0, E 0, E m] 81)).alloc (by simp; omega) (Obj.cells #[.int .u64 0, .int .u64 0, .int .u64 0, .int .u64 0] 44));by_cases hp : plainN ⟨8, s, a, b, mn, mx, m⟩ = ⟨8, s, a, b, mn, mx, m⟩
 ·
  have HB : ∀ W, (binOp .eql 81 (.agg #[E 8, .int .u64 0, .int .u64 0, .int .u64 0, .int .u64 0, E 0, E 0, E 0, E 0, E m]) (NV ⟨8, s, a, b, mn, mx, m⟩)).run Tryz.prog W = .ok (.bool true) W := fun W => by
   have := HQ W;rw [decide_eq_true hp] at this;rw [run_eql_struct];exact (congrArg (fun q => Result.andThen q fun b w' => Result.ok (Value.bool b) w') this)
  by_cases h1 : 1 ≤ m
  ·
   by_cases h9 : m ≤ 9
   · have HO := Hd (show decide (OneN ⟨8, s, a, b, mn, mx, m⟩) = true from by rw [decide_eq_true_iff, ← hp]; unfold OneN plainN; simp; omega);clear HQ hp;go_enter Tryz.func120, Tryz.ntmps120;go_wp2;go_ret;exact ⟨by rw [HO.out]; rfl, HBL.out⟩
   · have HO := Hd (show decide (OneN ⟨8, s, a, b, mn, mx, m⟩) = false from by rw [decide_eq_false_iff_not, ← hp]; unfold OneN plainN; simp; omega);clear HQ hp;go_enter Tryz.func120, Tryz.ntmps120;go_wp2;go_ret;exact ⟨by rw [HO.out]; rfl, HBL.out⟩
  · have HO := Hd (show decide (OneN ⟨8, s, a, b, mn, mx, m⟩) = false from by rw [decide_eq_false_iff_not, ← hp]; unfold OneN plainN; simp; omega);clear HQ hp;go_enter Tryz.func120, Tryz.ntmps120;go_wp2;go_ret;exact ⟨by rw [HO.out]; rfl, HBL.out⟩
 ·
  have HB : ∀ W, (binOp .eql 81 (.agg #[E 8, .int .u64 0, .int .u64 0, .int .u64 0, .int .u64 0, E 0, E 0, E 0, E 0, E m]) (NV ⟨8, s, a, b, mn, mx, m⟩)).run Tryz.prog W = .ok (.bool false) W := fun W => by
   have := HQ W;rw [decide_eq_false hp] at this;rw [run_eql_struct];exact (congrArg (fun q => Result.andThen q fun b w' => Result.ok (Value.bool b) w') this)
  have HO := Hd (show decide (OneN ⟨8, s, a, b, mn, mx, m⟩) = false from by rw [decide_eq_false_iff_not]; exact fun q => hp (one_plain q));clear HQ hp;go_enter Tryz.func120, Tryz.ntmps120;go_wp2;go_ret;exact ⟨by rw [HO.out]; rfl, HBL.out⟩
theorem fields_out (s : List Nat) (k a b mn mx m : Int) (w : World) (hk : k < 0 ∨ 8 < k) : Calls Tryz.prog 120 #[NV ⟨k, s, a, b, mn, mx, m⟩] w fun e w' => e = .returned (.bool (decide (OneN ⟨k, s, a, b, mn, mx, m⟩))) ∧ Below w.heap.size w w' := by
 have HBL := Hd ((((Below.refl w.heap.size w).alloc (Nat.le_refl _) (Obj.cells (NC ⟨k, s, a, b, mn, mx, m⟩) 81)).alloc (by simp) (Obj.cells #[E k, .int .u64 0, .int .u64 0, .int .u64 0, .int .u64 0, E 0, E 0, E 0, E 0, E 0] 81)).alloc (by simp; omega) (Obj.cells #[.int .u64 0, .int .u64 0, .int .u64 0, .int .u64 0] 44));have HO := Hd (show decide (OneN ⟨k, s, a, b, mn, mx, m⟩) = false from by rw [decide_eq_false_iff_not]; intro q; have := one_kind q; dsimp only at this; omega);(have k0 : (k == 0) = false := by rw [beq_eq_false_iff_ne]; omega);(have k1 : (k == 1) = false := by rw [beq_eq_false_iff_ne]; omega);(have k2 : (k == 2) = false := by rw [beq_eq_false_iff_ne]; omega);(have k3 : (k == 3) = false := by rw [beq_eq_false_iff_ne]; omega);(have k4 : (k == 4) = false := by rw [beq_eq_false_iff_ne]; omega);(have k5 : (k == 5) = false := by rw [beq_eq_false_iff_ne]; omega);(have k6 : (k == 6) = false := by rw [beq_eq_false_iff_ne]; omega);(have k7 : (k == 7) = false := by rw [beq_eq_false_iff_ne]; omega);(have k8 : (k == 8) = false := by rw [beq_eq_false_iff_ne]; omega);clear hk;go_enter Tryz.func120, Tryz.ntmps120;go_wp2;go_ret;exact ⟨by rw [HO.out]; rfl, HBL.out⟩
theorem fields_any (n : Nd) (w : World) (hw : Wf n.s) : Calls Tryz.prog 120 #[NV n] w fun e w' => e = .returned (.bool (decide (OneN n))) ∧ Below w.heap.size w w' := by
 obtain ⟨k, s, a, b, mn, mx, m⟩ := n;by_cases hk : k < 0 ∨ 8 < k
 · exact fields_out s k a b mn mx m w hk
 (have h : k = 0 ∨ k = 1 ∨ k = 2 ∨ k = 3 ∨ k = 4 ∨ k = 5 ∨ k = 6 ∨ k = 7 ∨ k = 8 := by omega);rcases h with rfl | rfl | rfl | rfl | rfl | rfl | rfl | rfl | rfl
 · exact fields_0 s a b mn mx m w hw
 · exact fields_1 s a b mn mx m w hw
 · exact fields_2 s a b mn mx m w hw
 · exact fields_3 s a b mn mx m w hw
 · exact fields_4 s a b mn mx m w hw
 · exact fields_5 s a b mn mx m w hw
 ·
  by_cases hm : mx = -1
  · subst hm; exact fields_6m s a b mn m w hw
  · exact fields_6 s a b mn mx m w hw hm
 · exact fields_7 s a b mn mx m w hw
 · exact fields_8 s a b mn mx m w hw
end Go.Proofs.YthpiapemjadgdaaGreatDoor.Rx
