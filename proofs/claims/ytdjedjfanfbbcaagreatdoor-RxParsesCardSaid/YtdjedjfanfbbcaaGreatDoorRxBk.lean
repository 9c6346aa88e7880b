/- Patterns: what is told is read again; groups and their numbers: plain facts. -/
import Derived.Test.YtdjedjfanfbbcaaGreatDoorRxText
namespace Go.Proofs.YtdjedjfanfbbcaaGreatDoor.Rx
open Tr
open Go.Proofs.YtdjedjfanfbbcaaGreatDoor.St (Wf zeroW bytesL)
open Go.Proofs.YtdjedjfanfbbcaaGreatDoor.Ad (cutB cutB_at cutB_none atoiV decFrom_dec dec_len dec_ne not_dec)
set_option linter.unusedVariables false
set_option linter.unusedSimpArgs false
theorem atoi_itoa {n : Int} (h0 : -1 ≤ n) (h : n ≤ 255) : Lib.atoiAll (Lib.itoa n) = .ok n := by
  by_cases hn : n = -1
  · subst hn
    have e : Lib.itoa (-1) = [45, 49] := by
      unfold Lib.itoa
      rw [if_pos (by decide)]
      show 45 :: Lib.decDigits 1 = _
      rw [Lib.decDigits, dif_pos (by decide)]
      rfl
    rw [e]
    rfl
  · obtain ⟨u, rfl⟩ : ∃ u : Nat, n = u := ⟨n.toNat, by omega⟩
    rw [Lib.itoa_nonneg]
    have hl := dec_len u (by omega)
    have hd := decFrom_dec u
    obtain ⟨c, r, hc, h1, h2⟩ := dec_ne u
    rw [Lib.atoiAll_short _ (by omega), hc]
    rw [hc] at hd
    have n45 : (c == 45) = false := by rw [beq_eq_false_iff_ne]; rintro rfl; simp at h1
    have n43 : (c == 43) = false := by rw [beq_eq_false_iff_ne]; rintro rfl; simp at h1
    simp only [Lib.atoi, n45, n43, Bool.false_eq_true, if_false, Lib.decNat, List.isEmpty_cons, hd, Option.map_some]
    rfl
theorem not_itoa {n : Int} {c : UInt8} (hc : c.toNat < 45 ∨ 57 < c.toNat) : c ∉ Lib.itoa n := by
  unfold Lib.itoa
  split
  · intro q
    rw [List.mem_cons] at q
    rcases q with rfl | q
    · simp at hc
    · exact not_dec (by omega) _ q
  · exact not_dec (by omega) _
theorem num_back {n : Int} (h0 : -1 ≤ n) (h : n ≤ 255) {e : UInt8} (he : e.toNat < 45 ∨ 57 < e.toNat) (rest : List UInt8) (l : List Nd) (g : Int) :
    numP e ⟨Lib.itoa n ++ e :: rest, l, g, false⟩ = (⟨rest, l, g, false⟩, n) := by
  have hc : cutB e (Lib.itoa n ++ e :: rest) = (Lib.itoa n, rest, true) := cutB_at (not_itoa he)
  have ha := atoi_itoa h0 h
  unfold numP untilP
  dsimp only
  rw [hc]
  dsimp only
  unfold atoiK atoiV
  rw [ha]
  rfl
theorem itoa_digit {n : Int} (h0 : 0 ≤ n) (h : n ≤ 9) : Lib.itoa n = [UInt8.ofNat (48 + n.toNat)] := by
  obtain ⟨u, rfl⟩ : ∃ u : Nat, n = u := ⟨n.toNat, by omega⟩
  rw [Lib.itoa_nonneg, Lib.decDigits, dif_pos (by omega), Int.toNat_natCast]
theorem ref_back {n : Int} (h0 : 1 ≤ n) (h : n ≤ 9) (rest : List UInt8) (l : List Nd) (g : Int) : refP ⟨Lib.itoa n ++ rest, l, g, false⟩ = (⟨rest, l, g, false⟩, n) := by
  rw [itoa_digit (by omega) h]
  unfold refP
  simp only [List.singleton_append]
  have : (UInt8.ofNat (48 + n.toNat)).toNat = 48 + n.toNat := by
    have e : (UInt8.ofNat (48 + n.toNat)).toNat = (48 + n.toNat) % 256 := rfl
    omega
  rw [this]
  congr 1
  omega
theorem node_step {left : Nat} {c : UInt8} {t : List UInt8} {l : List Nd} {g : Int} (hl : l.length ≤ 120) : nodeP (left + 1) ⟨c :: t, l, g, false⟩ =
      if c = 101 then pushP ⟨t, l, g, false⟩ ⟨0, z4, 0, 0, 0, 0, 0⟩
      else if c = 91 then pushP (setP ⟨t, l, g, false⟩).1 ⟨1, (setP ⟨t, l, g, false⟩).2, 0, 0, 0, 0, 0⟩
      else if c = 94 then pushP ⟨t, l, g, false⟩ ⟨2, z4, 0, 0, 0, 0, 0⟩
      else if c = 36 then pushP ⟨t, l, g, false⟩ ⟨3, z4, 0, 0, 0, 0, 0⟩
      else if c = 38 ∨ c = 124 then
        pushP (nodeP left (nodeP left ⟨t, l, g, false⟩).1).1 ⟨if c = 124 then 5 else 4, z4, (nodeP left ⟨t, l, g, false⟩).2, (nodeP left (nodeP left ⟨t, l, g, false⟩).1).2, 0, 0, 0⟩
      else if c = 42 then
        pushP (nodeP left (numP 59 (numP 44 ⟨t, l, g, false⟩).1).1).1 ⟨6, z4, (nodeP left (numP 59 (numP 44 ⟨t, l, g, false⟩).1).1).2, 0, (numP 44 ⟨t, l, g, false⟩).2, (numP 59 (numP 44 ⟨t, l, g, false⟩).1).2, 0⟩
      else if c = 40 then
        pushP (closeP (nodeP left ⟨t, l, g + 1, false⟩).1) ⟨7, z4, (nodeP left ⟨t, l, g + 1, false⟩).2, 0, 0, 0, g + 1⟩
      else if c = 92 then pushP (refP ⟨t, l, g, false⟩).1 ⟨8, z4, 0, 0, 0, 0, (refP ⟨t, l, g, false⟩).2⟩
      else pushP ⟨t, l, g, true⟩ ⟨0, z4, 0, 0, 0, 0, 0⟩ := by
  rw [nodeP, if_neg (by dsimp only; rintro (q | q); cases q; omega)]
/-- What a tree is told by is read as its nodes. -/
theorem node_text (em : Prop) : ∀ (t : Tr) (left : Nat) (rest : List UInt8) (l : List Nd) (g : Int), t.Fine em → NumOk t g → SetsOk t → t.size ≤ left → l.length + t.size ≤ 121 →
    nodeP left ⟨textT t ++ rest, l, g, false⟩ = (⟨rest, l ++ t.nodes l.length, g + cnt t, false⟩, l.length + t.size - 1) := by
  intro t
  induction t with
  | e | beg | fin =>
    intro left rest l g hf hn hs hl hb
    obtain ⟨left, rfl⟩ : ∃ k, left = k + 1 := ⟨left - 1, by simp only [size] at hl; omega⟩
    simp only [size] at hb
    simp only [textT, List.cons_append, List.nil_append]
    rw [node_step (by omega)]
    simp [pushP, nodes, root, cnt, size]
  | set s =>
    intro left rest l g hf hn hs hl hb
    obtain ⟨left, rfl⟩ : ∃ k, left = k + 1 := ⟨left - 1, by simp only [size] at hl; omega⟩
    simp only [size] at hb
    simp only [textT, List.cons_append, List.append_assoc, List.nil_append]
    rw [node_step (by omega), set_back hs]
    simp [pushP, nodes, root, cnt, size]
  | ref n =>
    intro left rest l g hf hn hs hl hb
    obtain ⟨left, rfl⟩ : ∃ k, left = k + 1 := ⟨left - 1, by simp only [size] at hl; omega⟩
    simp only [size] at hb
    simp only [textT, List.cons_append]
    rw [node_step (by omega), ref_back hf.1 hf.2]
    simp [pushP, nodes, root, cnt, size]
  | cat x y ihx ihy | alt x y ihx ihy =>
    intro left rest l g hf hn hs hl hb
    obtain ⟨left, rfl⟩ : ∃ k, left = k + 1 := ⟨left - 1, by simp only [size] at hl; omega⟩
    simp only [size] at hl hb
    have px := size_pos x
    have py := size_pos y
    have hx := ihx left (textT y ++ rest) l g hf.1 hn.1 hs.1 (by omega) (by omega)
    have hy := ihy left rest (l ++ x.nodes l.length) (g + cnt x) hf.2.1 hn.2 hs.2 (by omega) (by rw [List.length_append, nodes_len]; omega)
    simp only [textT, List.cons_append, List.append_assoc]
    rw [node_step (by omega), hx]
    dsimp only
    rw [hy]
    simp only [List.length_append, nodes_len, pushP, nodes, root, cnt, size]
    simp [Int.add_assoc]
    omega
  | times mn mx x ihx =>
    intro left rest l g hf hn hs hl hb
    obtain ⟨left, rfl⟩ : ∃ k, left = k + 1 := ⟨left - 1, by simp only [size] at hl; omega⟩
    simp only [size] at hl hb
    have px := size_pos x
    have hx := ihx left rest l g hf.1 hn hs (by omega) (by omega)
    simp only [textT, List.cons_append, List.append_assoc]
    rw [node_step (by omega), num_back (by have := hf.2.1; omega) hf.2.2.1 (by decide)]
    dsimp only
    rw [num_back (by have := hf.2.2.2.1; omega) (by have := hf.2.2.2.1; omega) (by decide)]
    dsimp only
    rw [hx]
    simp only [List.length_append, nodes_len, pushP, nodes, root, cnt, size]
    simp
    try omega
  | grp n x ihx =>
    intro left rest l g hf hn hs hl hb
    obtain ⟨left, rfl⟩ : ∃ k, left = k + 1 := ⟨left - 1, by simp only [size] at hl; omega⟩
    simp only [size] at hl hb
    have px := size_pos x
    have hx := ihx left (41 :: rest) l (g + 1) hf.1 hn.2 hs (by omega) (by omega)
    obtain rfl := hn.1
    simp only [textT, List.cons_append, List.append_assoc, List.nil_append]
    rw [node_step (by omega), hx]
    simp only [List.length_append, nodes_len, pushP, closeP, nodes, root, cnt, size]
    simp [nodes_len]
    omega
/-! ### Numbers of groups -/
structure NSt where
  g : Int
  e : List Bool
  r : Bool
  ok : Bool
  deriving DecidableEq
def numT : Tr → NSt → NSt
  | .cat x y, s => numT y (numT x s)
  | .alt x y, s => numT y (numT x s)
  | .times _ _ x, s => numT x s
  | .grp n x, s => ⟨(numT x ⟨s.g + 1, s.e, s.r, s.ok && decide (n = s.g + 1)⟩).g, (numT x ⟨s.g + 1, s.e, s.r, s.ok && decide (n = s.g + 1)⟩).e.set n.toNat true, (numT x ⟨s.g + 1, s.e, s.r, s.ok && decide (n = s.g + 1)⟩).r, (numT x ⟨s.g + 1, s.e, s.r, s.ok && decide (n = s.g + 1)⟩).ok⟩
  | .ref n, s => ⟨s.g, s.e, true, s.ok && (s.e[n.toNat]?).getD false⟩
  | _, s => s
def num0 : NSt := ⟨0, List.replicate 10 false, false, true⟩
theorem num_g : ∀ (t : Tr) (s : NSt), (numT t s).g = s.g + cnt t
  | .e, s | .set _, s | .beg, s | .fin, s | .ref _, s => by simp [numT, cnt]
  | .cat x y, s | .alt x y, s => by simp only [numT, cnt]; rw [num_g y, num_g x]; omega
  | .times _ _ x, s => by simp only [numT, cnt]; exact num_g x s
  | .grp n x, s => by simp only [numT, cnt]; rw [num_g x]; dsimp only; omega
theorem num_e : ∀ (t : Tr) (s : NSt), (numT t s).e.length = s.e.length
  | .e, s | .set _, s | .beg, s | .fin, s | .ref _, s => by simp [numT]
  | .cat x y, s | .alt x y, s => by simp only [numT]; rw [num_e y, num_e x]
  | .times _ _ x, s => by simp only [numT]; exact num_e x s
  | .grp n x, s => by simp only [numT]; rw [List.length_set, num_e x]
theorem num_ok : ∀ (t : Tr) (s : NSt), (numT t s).ok = true → s.ok = true ∧ NumOk t s.g
  | .e, s, h | .set _, s, h | .beg, s, h | .fin, s, h => ⟨h, trivial⟩
  | .ref _, s, h => by simp only [numT, Bool.and_eq_true] at h; exact ⟨h.1, trivial⟩
  | .cat x y, s, h | .alt x y, s, h => by
    simp only [numT] at h
    have h2 := num_ok y _ h
    have h1 := num_ok x _ h2.1
    rw [num_g] at h2
    exact ⟨h1.1, h1.2, h2.2⟩
  | .times _ _ x, s, h => num_ok x s h
  | .grp n x, s, h => by
    simp only [numT] at h
    have h1 := num_ok x _ h
    simp only [Bool.and_eq_true, decide_eq_true_eq] at h1
    exact ⟨h1.1.1, h1.1.2, h1.2⟩
theorem cnt_pos : ∀ t : Tr, 0 ≤ cnt t
  | .e | .set _ | .beg | .fin | .ref _ => by simp [cnt]
  | .cat x y | .alt x y => by simp only [cnt]; have := cnt_pos x; have := cnt_pos y; omega
  | .times _ _ x => by simp only [cnt]; exact cnt_pos x
  | .grp _ x => by simp only [cnt]; have := cnt_pos x; omega
theorem cnt_size : ∀ t : Tr, cnt t ≤ (t.size : Int)
  | .e | .set _ | .beg | .fin | .ref _ => by simp [cnt, size]
  | .cat x y | .alt x y => by simp only [cnt, size]; have := cnt_size x; have := cnt_size y; omega
  | .times _ _ x => by simp only [cnt, size]; have := cnt_size x; omega
  | .grp _ x => by simp only [cnt, size]; have := cnt_size x; omega
theorem cnt_le (em : Prop) : ∀ (t : Tr) (g : Int), t.Fine em → NumOk t g → g ≤ 9 → g + cnt t ≤ 9
  | .e, g, _, _, h | .set _, g, _, _, h | .beg, g, _, _, h | .fin, g, _, _, h | .ref _, g, _, _, h => by simp only [cnt]; omega
  | .cat x y, g, hf, hn, h | .alt x y, g, hf, hn, h => by
    simp only [cnt]
    have h1 := cnt_le em x g hf.1 hn.1 h
    have h2 := cnt_le em y _ hf.2.1 hn.2 h1
    omega
  | .times _ _ x, g, hf, hn, h => cnt_le em x g hf.1 hn h
  | .grp n x, g, hf, hn, h => by
    simp only [cnt]
    obtain ⟨rfl, hn⟩ := hn
    have := cnt_le em x (g + 1) hf.1 hn hf.2.2
    omega
/-- Refs in a tree. -/
def refsT : Tr → Nat
  | .cat x y => refsT x + refsT y
  | .alt x y => refsT x + refsT y
  | .times _ _ x => refsT x
  | .grp _ x => refsT x
  | .ref _ => 1
  | _ => 0
theorem dec_add (a b : Nat) : decide (0 < a + b) = (decide (0 < a) || decide (0 < b)) := by
  by_cases h : 0 < a
  · rw [decide_eq_true h, decide_eq_true (by omega), Bool.true_or]
  · obtain rfl : a = 0 := by omega
    simp
theorem num_r : ∀ (t : Tr) (s : NSt), (numT t s).r = (s.r || decide (0 < refsT t))
  | .e, s | .set _, s | .beg, s | .fin, s | .ref _, s => by simp [numT, refsT]
  | .cat x y, s | .alt x y, s => by
    show (numT y (numT x s)).r = (s.r || decide (0 < refsT x + refsT y))
    rw [num_r y, num_r x, Bool.or_assoc, dec_add]
  | .times _ _ x, s => by simp only [numT, refsT]; exact num_r x s
  | .grp n x, s => by
    simp only [numT, refsT]
    exact num_r x _
/-- A pattern. -/
def Good (t : Tr) : Prop := Whole t ∧ t.size ≤ 120 ∧ (numT t num0).ok = true
theorem Good.numOk {t : Tr} (h : Good t) : NumOk t 0 := (num_ok t num0 h.2.2).2
/-- Two trees with the same nodes are one. -/
theorem tree_text {t u : Tr} (ht : Good t) (hu : Good u) (st : SetsOk t) (su : SetsOk u) (h : textT t = textT u) : t.nodes 0 = u.nodes 0 := by
  have h1 := node_text _ t 120 [] [] 0 ht.1 ht.numOk st ht.2.1 (by have := ht.2.1; simp; omega)
  have h2 := node_text _ u 120 [] [] 0 hu.1 hu.numOk su hu.2.1 (by have := hu.2.1; simp; omega)
  rw [h, h2] at h1
  simpa using (congrArg (fun p => p.1.l) h1).symm
end Go.Proofs.YtdjedjfanfbbcaaGreatDoor.Rx
