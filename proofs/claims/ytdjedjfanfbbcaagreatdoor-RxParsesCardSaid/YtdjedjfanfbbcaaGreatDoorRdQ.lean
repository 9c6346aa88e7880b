/- Patterns: what the document reads from a text: plain facts. The document's number in a text: the walk. The document's reading of a node: what lies in memory. -/
import Derived.Test.YtdjedjfanfbbcaaGreatDoorRxPat
import Derived.Test.YtdjedjfanfbbcaaGreatDoorRxC
import Derived.Test.YtdjedjfanfbbcaaGreatDoorRxS
import Derived.Test.YtdjedjfanfbbcaaGreatDoorRxR3
namespace Go.Proofs.YtdjedjfanfbbcaaGreatDoor.Rx
open Tr
open Go.Proofs.YtdjedjfanfbbcaaGreatDoor.St (Wf zeroW mem ofL bytesL bytesN wf_ofL mem_ofL ext_mem wf_zero bytesN_lt)
open Go.Proofs.YtdjedjfanfbbcaaGreatDoor.Ad (decFrom_dec dec_len itoa_dec not_dec)
set_option linter.unusedVariables false
set_option linter.unusedSimpArgs false
/-! ### Sets -/
def pairB (f : Nat → Bool) (c d : UInt8) : Nat → Bool := fun k => f k || decide (hexB (UInt8.ofNat k) = [c, d])
def pairsR : List UInt8 → (Nat → Bool) → Option ((Nat → Bool) × List UInt8)
  | [], f => none
  | [c], f => if c = 93 then some (f, []) else none
  | c :: d :: r, f => if c = 93 then some (f, d :: r) else pairsR r (pairB f c d)
/-- The set that a row of truths is. -/
def wsOf (f : Nat → Bool) : List Nat := ofL (((List.range 256).filter f).map UInt8.ofNat)
theorem nat_of {n : Nat} (h : n < 256) : (UInt8.ofNat n).toNat = n := by
  have : (UInt8.ofNat n).toNat = n % 256 := rfl
  omega
theorem wf_wsOf (f : Nat → Bool) : Wf (wsOf f) := wf_ofL _
theorem mem_wsOf (f : Nat → Bool) {c : Nat} (hc : c < 256) : mem (wsOf f) c = f c := by
  unfold wsOf
  rw [mem_ofL, Bool.eq_iff_iff, List.any_eq_true]
  constructor
  · rintro ⟨d, hd, he⟩
    obtain ⟨n, hn, rfl⟩ := List.mem_map.1 hd
    have hn2 := List.mem_filter.1 hn
    rw [nat_of (List.mem_range.1 hn2.1)] at he
    obtain rfl : c = n := by simpa using he
    exact hn2.2
  · intro hm
    exact ⟨UInt8.ofNat c, List.mem_map.2 ⟨c, List.mem_filter.2 ⟨List.mem_range.2 hc, hm⟩, rfl⟩, by rw [nat_of hc]; simp⟩
theorem hexd_inj : ∀ a, a < 16 → ∀ b, b < 16 → hexd a = hexd b → a = b := by decide
theorem hexB_inj {a b : Nat} (ha : a < 256) (hb : b < 256) : hexB (UInt8.ofNat a) = hexB (UInt8.ofNat b) ↔ a = b := by
  constructor
  · intro h
    unfold hexB at h
    rw [nat_of ha, nat_of hb] at h
    simp only [List.cons.injEq, and_true] at h
    have h1 := hexd_inj _ (by omega) _ (by omega) h.1
    have h2 := hexd_inj _ (by omega) _ (by omega) h.2
    omega
  · rintro rfl; rfl
theorem pairs_hexR : ∀ (l : List UInt8) (f : Nat → Bool) (rest : List UInt8), ∃ g, pairsR (l.flatMap hexB ++ 93 :: rest) f = some (g, rest) ∧ ∀ k, k < 256 → g k = (f k || l.any fun d => k == d.toNat)
  | [], f, rest => ⟨f, by
      cases rest with
      | nil => simp [pairsR]
      | cons d r => simp [pairsR], fun k _ => by simp⟩
  | b :: r, f, rest => by
    have hb := UInt8.toNat_lt b
    obtain ⟨g, h1, h2⟩ := pairs_hexR r (pairB f (hexd (b.toNat / 16)) (hexd (b.toNat % 16))) rest
    refine ⟨g, ?_, fun k hk => ?_⟩
    · rw [List.flatMap_cons]
      show pairsR (hexd (b.toNat / 16) :: hexd (b.toNat % 16) :: (r.flatMap hexB ++ 93 :: rest)) f = _
      rw [pairsR, if_neg (hexd_ne _ (by omega)), h1]
    · rw [h2 k hk]
      unfold pairB
      rw [List.any_cons, ← Bool.or_assoc]
      congr 2
      have e : (hexB (UInt8.ofNat k) = [hexd (b.toNat / 16), hexd (b.toNat % 16)]) ↔ k = b.toNat := by
        have := hexB_inj hk hb
        rw [UInt8.ofNat_toNat] at this
        exact this
      rw [Bool.eq_iff_iff, decide_eq_true_iff, e, beq_iff_eq]
theorem set_read {s : List Nat} (h : Wf s) (rest : List UInt8) : ∃ g, pairsR ((bytesL s).flatMap hexB ++ 93 :: rest) (fun _ => false) = some (g, rest) ∧ wsOf g = s := by
  obtain ⟨g, h1, h2⟩ := pairs_hexR (bytesL s) (fun _ => false) rest
  refine ⟨g, h1, ext_mem (wf_wsOf g) h fun c hc => ?_⟩
  rw [mem_wsOf g hc, h2 c hc, Bool.false_or, ← mem_ofL, of_bytes h]
/-! ### Numbers -/
def digR (c : UInt8) (n : Int) : Int := if 48 ≤ c.toNat ∧ c.toNat ≤ 57 then n * 10 + ((c.toNat : Int) - 48) else n
def numR (e : UInt8) : Nat → Int → List UInt8 → List UInt8 → Option (Int × List UInt8)
  | _, _, _, [] => none
  | 0, n, pre, c :: t => if c = e then some (if pre = [45, 49] then -1 else n, t) else none
  | k + 1, n, pre, c :: t => if c = e then some (if pre = [45, 49] then -1 else n, t) else numR e k (digR c n) (pre ++ [c]) t
theorem num_at (e : UInt8) : ∀ (x : List UInt8) (k : Nat) (n : Int) (pre rest : List UInt8), x.length ≤ k → e ∉ x →
    numR e k n pre (x ++ e :: rest) = some (if pre ++ x = [45, 49] then -1 else x.foldl (fun n c => digR c n) n, rest)
  | [], k, n, pre, rest, _, _ => by
    cases k <;> simp [numR]
  | c :: x, k, n, pre, rest, hk, he => by
    obtain ⟨k, rfl⟩ : ∃ j, k = j + 1 := ⟨k - 1, by simp at hk; omega⟩
    rw [List.cons_append, numR, if_neg (fun q => he (by rw [q]; exact List.mem_cons_self)), num_at e x k _ _ rest (by simpa using hk) (fun q => he (List.mem_cons_of_mem _ q))]
    simp
theorem fold_dec : ∀ (x : List UInt8) (a b : Nat), Lib.decFrom a x = some b → x.foldl (fun n c => digR c n) (a : Int) = (b : Int)
  | [], a, b, h => by
    simp only [Lib.decFrom, Option.some.injEq] at h
    simp [h]
  | c :: r, a, b, h => by
    unfold Lib.decFrom at h
    cases hd : Lib.digitVal c with
    | none => rw [hd] at h; cases h
    | some d =>
      rw [hd] at h
      have e : digR c (a : Int) = ((a * 10 + d : Nat) : Int) := by
        unfold Lib.digitVal at hd
        split at hd
        · rename_i q
          have hd := Option.some.inj hd
          unfold digR
          rw [if_pos q]
          omega
        · cases hd
      rw [List.foldl_cons, e]
      exact fold_dec r _ _ h
theorem not_neg_dec (u : Nat) : Lib.decDigits u ≠ [45, 49] := by
  intro h
  have := not_dec (c := 45) (by decide) u
  rw [h] at this
  simp at this
theorem dec_len3 (u : Nat) (h : u ≤ 255) : (Lib.decDigits u).length ≤ 3 := by
  rw [Lib.decDigits]
  by_cases h1 : u < 10
  · rw [dif_pos h1]; simp
  · rw [dif_neg h1, Lib.decDigits]
    by_cases h2 : u / 10 < 10
    · rw [dif_pos h2]; simp
    · rw [dif_neg h2, Lib.decDigits, dif_pos (by omega)]; simp
theorem num_read {n : Int} (h0 : -1 ≤ n) (h : n ≤ 255) {e : UInt8} (he : e.toNat < 45 ∨ 57 < e.toNat) (rest : List UInt8) : numR e 3 0 [] (Lib.itoa n ++ e :: rest) = some (n, rest) := by
  by_cases hn : n = -1
  · subst hn
    have e1 : Lib.itoa (-1) = [45, 49] := by
      unfold Lib.itoa
      rw [if_pos (by decide)]
      show 45 :: Lib.decDigits 1 = _
      rw [Lib.decDigits, dif_pos (by decide)]
      rfl
    rw [num_at _ _ _ _ _ _ (by rw [e1]; decide) (not_itoa he), e1]
    simp
  · obtain ⟨u, rfl⟩ : ∃ u : Nat, n = u := ⟨n.toNat, by omega⟩
    rw [num_at _ _ _ _ _ _ (by rw [Lib.itoa_nonneg]; exact dec_len3 u (by omega)) (not_itoa he), Lib.itoa_nonneg, List.nil_append, if_neg (not_neg_dec u)]
    have := fold_dec _ 0 u (decFrom_dec u)
    rw [show ((0 : Nat) : Int) = 0 from rfl] at this
    rw [this]
/-! ### Nodes -/
/-- What is read: the nodes up to there, the groups, what is left; or none. -/
def closeR : List UInt8 → Option (List UInt8)
  | [] => none
  | d :: r => if d = 41 then some r else none
def refR : List UInt8 → Option (Int × List UInt8)
  | [] => none
  | d :: r => if 48 ≤ d.toNat ∧ d.toNat ≤ 57 then some ((d.toNat : Int) - 48, r) else none
theorem close_len {s r : List UInt8} (h : closeR s = some r) : r.length < s.length := by
  cases s with
  | nil => cases h
  | cons d t =>
    simp only [closeR] at h
    split at h
    · cases h; simp
    · cases h
theorem ref_len {s r : List UInt8} {n : Int} (h : refR s = some (n, r)) : r.length < s.length := by
  cases s with
  | nil => cases h
  | cons d t =>
    simp only [refR] at h
    split at h
    · cases h; simp
    · cases h
def readB (rd : List UInt8 → List Nd → Int → Option (List Nd × Int × List UInt8)) (c : UInt8) (t : List UInt8) (l : List Nd) (g : Int) : Option (List Nd × Int × List UInt8) :=
  if c = 101 then some (l ++ [⟨0, z4, 0, 0, 0, 0, 0⟩], g, t)
  else if c = 94 then some (l ++ [⟨2, z4, 0, 0, 0, 0, 0⟩], g, t)
  else if c = 36 then some (l ++ [⟨3, z4, 0, 0, 0, 0, 0⟩], g, t)
  else if c = 91 then (pairsR t (fun _ => false)).bind fun p => some (l ++ [⟨1, wsOf p.1, 0, 0, 0, 0, 0⟩], g, p.2)
  else if c = 38 ∨ c = 124 then (rd t l g).bind fun p => (rd p.2.2 p.1 p.2.1).bind fun q =>
    some (q.1 ++ [⟨if c = 124 then 5 else 4, z4, (p.1.length : Int) - 1, (q.1.length : Int) - 1, 0, 0, 0⟩], q.2.1, q.2.2)
  else if c = 42 then (numR 44 3 0 [] t).bind fun a => (numR 59 3 0 [] a.2).bind fun b => (rd b.2 l g).bind fun p =>
    some (p.1 ++ [⟨6, z4, (p.1.length : Int) - 1, 0, a.1, b.1, 0⟩], p.2.1, p.2.2)
  else if c = 40 then (rd t l (g + 1)).bind fun p => (closeR p.2.2).bind fun r => some (p.1 ++ [⟨7, z4, (p.1.length : Int) - 1, 0, 0, 0, g + 1⟩], p.2.1, r)
  else if c = 92 then (refR t).bind fun p => some (l ++ [⟨8, z4, 0, 0, 0, 0, p.1⟩], g, p.2)
  else none
def readR : Nat → List UInt8 → List Nd → Int → Option (List Nd × Int × List UInt8)
  | 0, _, _, _ => none
  | _ + 1, [], _, _ => none
  | k + 1, c :: t, l, g => readB (readR k) c t l g
theorem read_text (em : Prop) : ∀ (t : Tr) (k : Nat) (rest : List UInt8) (l : List Nd) (g : Int), t.Fine em → NumOk t g → SetsOk t → t.size ≤ k →
    readR k (textT t ++ rest) l g = some (l ++ t.nodes l.length, g + cnt t, rest) := by
  intro t
  induction t with
  | e | beg | fin =>
    intro k rest l g hf hn hs hl
    obtain ⟨k, rfl⟩ : ∃ j, k = j + 1 := ⟨k - 1, by simp only [size] at hl; omega⟩
    simp only [textT, List.cons_append, List.nil_append]
    rw [readR, readB]
    simp [nodes, root, cnt]
  | set s =>
    intro k rest l g hf hn hs hl
    obtain ⟨k, rfl⟩ : ∃ j, k = j + 1 := ⟨k - 1, by simp only [size] at hl; omega⟩
    simp only [textT, List.cons_append, List.append_assoc, List.nil_append]
    obtain ⟨w, h1, h2⟩ := set_read hs rest
    rw [readR, readB, if_neg (by decide), if_neg (by decide), if_neg (by decide), if_pos rfl, h1, Option.bind_some]
    simp [nodes, root, cnt, h2]
  | ref n =>
    intro k rest l g hf hn hs hl
    obtain ⟨k, rfl⟩ : ∃ j, k = j + 1 := ⟨k - 1, by simp only [size] at hl; omega⟩
    have h0 := hf.1
    have h9 := hf.2
    simp only [textT, List.cons_append]
    rw [itoa_digit (by omega) h9, readR, readB]
    have e : (UInt8.ofNat (48 + n.toNat)).toNat = 48 + n.toNat := nat_of (by omega)
    simp only [List.singleton_append]
    rw [if_neg (by decide), if_neg (by decide), if_neg (by decide), if_neg (by decide), if_neg (by decide), if_neg (by decide), if_neg (by decide), if_pos (by decide), refR, if_pos (by rw [e]; omega), Option.bind_some, e]
    simp only [nodes, root, cnt, Int.add_zero, Option.some.injEq, Prod.mk.injEq, and_true, List.append_cancel_left_eq]
    simp
    omega
  | cat x y ihx ihy | alt x y ihx ihy =>
    intro k rest l g hf hn hs hl
    obtain ⟨k, rfl⟩ : ∃ j, k = j + 1 := ⟨k - 1, by simp only [size] at hl; omega⟩
    simp only [size] at hl
    have px := size_pos x
    have py := size_pos y
    have hx := ihx k (textT y ++ rest) l g hf.1 hn.1 hs.1 (by omega)
    have hy := ihy k rest (l ++ x.nodes l.length) (g + cnt x) hf.2.1 hn.2 hs.2 (by omega)
    simp only [textT, List.cons_append, List.append_assoc]
    rw [readR, readB, if_neg (by decide), if_neg (by decide), if_neg (by decide), if_neg (by decide), if_pos (by decide), hx, Option.bind_some]
    dsimp only
    rw [hy, Option.bind_some]
    simp only [List.length_append, nodes_len, nodes, root, cnt]
    simp [Int.add_assoc]
    omega
  | times mn mx x ihx =>
    intro k rest l g hf hn hs hl
    obtain ⟨k, rfl⟩ : ∃ j, k = j + 1 := ⟨k - 1, by simp only [size] at hl; omega⟩
    simp only [size] at hl
    have px := size_pos x
    have hx := ihx k rest l g hf.1 hn hs (by omega)
    simp only [textT, List.cons_append, List.append_assoc]
    rw [readR, readB, if_neg (by decide), if_neg (by decide), if_neg (by decide), if_neg (by decide), if_neg (by decide), if_pos rfl, num_read (by have := hf.2.1; omega) hf.2.2.1 (by decide), Option.bind_some]
    dsimp only
    rw [num_read (by have := hf.2.2.2.1; omega) (by have := hf.2.2.2.1; omega) (by decide), Option.bind_some]
    dsimp only
    rw [hx, Option.bind_some]
    simp only [List.length_append, nodes_len, nodes, root, cnt]
    simp
    omega
  | grp n x ihx =>
    intro k rest l g hf hn hs hl
    obtain ⟨k, rfl⟩ : ∃ j, k = j + 1 := ⟨k - 1, by simp only [size] at hl; omega⟩
    simp only [size] at hl
    have px := size_pos x
    have hx := ihx k (41 :: rest) l (g + 1) hf.1 hn.2 hs (by omega)
    obtain rfl := hn.1
    simp only [textT, List.cons_append, List.append_assoc, List.nil_append]
    rw [readR, readB, if_neg (by decide), if_neg (by decide), if_neg (by decide), if_neg (by decide), if_neg (by decide), if_neg (by decide), if_pos rfl, hx, Option.bind_some]
    dsimp only
    rw [closeR, if_pos rfl, Option.bind_some]
    simp only [List.length_append, nodes_len, nodes, root, cnt]
    simp
    omega
theorem pairs_len : ∀ (s : List UInt8) (f : Nat → Bool) (g : Nat → Bool) (r : List UInt8), pairsR s f = some (g, r) → r.length < s.length
  | [], f, g, r, h => by cases h
  | [c], f, g, r, h => by
    unfold pairsR at h
    split at h
    · cases h; simp
    · cases h
  | c :: d :: s, f, g, r, h => by
    unfold pairsR at h
    split at h
    · cases h; simp
    · have := pairs_len s _ g r h
      simp; omega
theorem num_len (e : UInt8) : ∀ (s : List UInt8) (k : Nat) (n : Int) (pre : List UInt8) (m : Int) (r : List UInt8), numR e k n pre s = some (m, r) → r.length < s.length
  | [], k, n, pre, m, r, h => by cases k <;> cases h
  | c :: t, 0, n, pre, m, r, h => by
    unfold numR at h
    split at h
    · cases h; simp
    · cases h
  | c :: t, k + 1, n, pre, m, r, h => by
    unfold numR at h
    split at h
    · cases h; simp
    · have := num_len e t _ _ _ m r h
      simp; omega
theorem wf_push2 {l : List Nd} (h : ∀ n ∈ l, Wf n.s) {m : Nd} (hm : Wf m.s) : ∀ n ∈ l ++ [m], Wf n.s := by
  intro n hn
  rcases List.mem_append.1 hn with q | q
  · exact h n q
  · obtain rfl := List.mem_singleton.1 q
    exact hm
/-- What is read is no longer than the text, its sets are sets, and the groups are not many. -/
theorem read_len : ∀ (k : Nat) (s : List UInt8) (l : List Nd) (g : Int) (l' : List Nd) (g' : Int) (r : List UInt8), readR k s l g = some (l', g', r) → (∀ n ∈ l, Wf n.s) →
    r.length < s.length ∧ l'.length + r.length ≤ l.length + s.length ∧ l.length < l'.length ∧ g ≤ g' ∧ g' + r.length ≤ g + s.length ∧ ∀ n ∈ l', Wf n.s
  | 0, s, l, g, l', g', r, h, hw => by cases h
  | k + 1, [], l, g, l', g', r, h, hw => by cases h
  | k + 1, c :: t, l, g, l', g', r, h, hw => by
    have hz : Wf z4 := wf_zero
    unfold readR readB at h
    split at h
    · cases h; exact ⟨by simp, by simp; omega, by simp, Int.le_refl _, by simp; omega, wf_push2 hw hz⟩
    split at h
    · cases h; exact ⟨by simp, by simp; omega, by simp, Int.le_refl _, by simp; omega, wf_push2 hw hz⟩
    split at h
    · cases h; exact ⟨by simp, by simp; omega, by simp, Int.le_refl _, by simp; omega, wf_push2 hw hz⟩
    split at h
    · cases hp : pairsR t (fun _ => false) with
      | none => rw [hp] at h; cases h
      | some p =>
        obtain ⟨f, q⟩ := p
        have hq := pairs_len t _ f q hp
        rw [hp] at h
        cases h
        exact ⟨by simp; omega, by simp; omega, by simp, Int.le_refl _, by simp; omega, wf_push2 hw (wf_wsOf f)⟩
    split at h
    · cases hp : readR k t l g with
      | none => rw [hp] at h; cases h
      | some p =>
        obtain ⟨l1, g1, r1⟩ := p
        have h1 := read_len k t l g l1 g1 r1 hp hw
        rw [hp, Option.bind_some] at h
        dsimp only at h
        cases hq : readR k r1 l1 g1 with
        | none => rw [hq] at h; cases h
        | some q =>
          obtain ⟨l2, g2, r2⟩ := q
          have h2 := read_len k r1 l1 g1 l2 g2 r2 hq h1.2.2.2.2.2
          rw [hq] at h
          cases h
          exact ⟨by simp; omega, by simp; omega, by simp; omega, by dsimp only; omega, by simp; omega, wf_push2 h2.2.2.2.2.2 hz⟩
    split at h
    · cases hp : numR 44 3 0 [] t with
      | none => rw [hp] at h; cases h
      | some p =>
        obtain ⟨m1, r1⟩ := p
        have h1 := num_len _ _ _ _ _ _ _ hp
        rw [hp, Option.bind_some] at h
        dsimp only at h
        cases hq : numR 59 3 0 [] r1 with
        | none => rw [hq] at h; cases h
        | some q =>
          obtain ⟨m2, r2⟩ := q
          have h2 := num_len _ _ _ _ _ _ _ hq
          rw [hq, Option.bind_some] at h
          dsimp only at h
          cases hx : readR k r2 l g with
          | none => rw [hx] at h; cases h
          | some q =>
            obtain ⟨l3, g3, r3⟩ := q
            have h3 := read_len k r2 l g l3 g3 r3 hx hw
            rw [hx] at h
            cases h
            exact ⟨by simp; omega, by simp; omega, by simp; omega, by dsimp only; omega, by simp; omega, wf_push2 h3.2.2.2.2.2 hz⟩
    split at h
    · cases hp : readR k t l (g + 1) with
      | none => rw [hp] at h; cases h
      | some p =>
        obtain ⟨l1, g1, r1⟩ := p
        have h1 := read_len k t l (g + 1) l1 g1 r1 hp hw
        rw [hp, Option.bind_some] at h
        dsimp only at h
        cases hq : closeR r1 with
        | none => rw [hq] at h; cases h
        | some r2 =>
          have h2 := close_len hq
          rw [hq] at h
          cases h
          exact ⟨by simp; omega, by simp; omega, by simp; omega, by (try dsimp only); omega, by simp; omega, wf_push2 h1.2.2.2.2.2 hz⟩
    split at h
    · cases hq : refR t with
      | none => rw [hq] at h; cases h
      | some p =>
        obtain ⟨m, r2⟩ := p
        have h2 := ref_len hq
        rw [hq] at h
        cases h
        exact ⟨by simp; omega, by simp; omega, by simp, Int.le_refl _, by simp; omega, wf_push2 hw hz⟩
    · cases h
/-- What is read is no longer than the text. -/
theorem read_len' : ∀ (k : Nat) (s : List UInt8) (l : List Nd) (g : Int) (l' : List Nd) (g' : Int) (r : List UInt8), readR k s l g = some (l', g', r) →
    r.length < s.length ∧ l'.length + r.length ≤ l.length + s.length ∧ l.length < l'.length ∧ g ≤ g' ∧ g' + r.length ≤ g + s.length
  | 0, s, l, g, l', g', r, h => by cases h
  | k + 1, [], l, g, l', g', r, h => by cases h
  | k + 1, c :: t, l, g, l', g', r, h => by
    unfold readR readB at h
    split at h
    · cases h; exact ⟨by simp, by simp; omega, by simp, Int.le_refl _, by simp; omega⟩
    split at h
    · cases h; exact ⟨by simp, by simp; omega, by simp, Int.le_refl _, by simp; omega⟩
    split at h
    · cases h; exact ⟨by simp, by simp; omega, by simp, Int.le_refl _, by simp; omega⟩
    split at h
    · cases hp : pairsR t (fun _ => false) with
      | none => rw [hp] at h; cases h
      | some p =>
        obtain ⟨f, q⟩ := p
        have hq := pairs_len t _ f q hp
        rw [hp] at h
        cases h
        exact ⟨by simp; omega, by simp; omega, by simp, Int.le_refl _, by simp; omega⟩
    split at h
    · cases hp : readR k t l g with
      | none => rw [hp] at h; cases h
      | some p =>
        obtain ⟨l1, g1, r1⟩ := p
        have h1 := read_len' k t l g l1 g1 r1 hp
        rw [hp, Option.bind_some] at h
        dsimp only at h
        cases hq : readR k r1 l1 g1 with
        | none => rw [hq] at h; cases h
        | some q =>
          obtain ⟨l2, g2, r2⟩ := q
          have h2 := read_len' k r1 l1 g1 l2 g2 r2 hq
          rw [hq] at h
          cases h
          exact ⟨by simp; omega, by simp; omega, by simp; omega, by dsimp only; omega, by simp; omega⟩
    split at h
    · cases hp : numR 44 3 0 [] t with
      | none => rw [hp] at h; cases h
      | some p =>
        obtain ⟨m1, r1⟩ := p
        have h1 := num_len _ _ _ _ _ _ _ hp
        rw [hp, Option.bind_some] at h
        dsimp only at h
        cases hq : numR 59 3 0 [] r1 with
        | none => rw [hq] at h; cases h
        | some q =>
          obtain ⟨m2, r2⟩ := q
          have h2 := num_len _ _ _ _ _ _ _ hq
          rw [hq, Option.bind_some] at h
          dsimp only at h
          cases hx : readR k r2 l g with
          | none => rw [hx] at h; cases h
          | some q =>
            obtain ⟨l3, g3, r3⟩ := q
            have h3 := read_len' k r2 l g l3 g3 r3 hx
            rw [hx] at h
            cases h
            exact ⟨by simp; omega, by simp; omega, by simp; omega, by dsimp only; omega, by simp; omega⟩
    split at h
    · cases hp : readR k t l (g + 1) with
      | none => rw [hp] at h; cases h
      | some p =>
        obtain ⟨l1, g1, r1⟩ := p
        have h1 := read_len' k t l (g + 1) l1 g1 r1 hp
        rw [hp, Option.bind_some] at h
        dsimp only at h
        cases hq : closeR r1 with
        | none => rw [hq] at h; cases h
        | some r2 =>
          have h2 := close_len hq
          rw [hq] at h
          cases h
          exact ⟨by simp; omega, by simp; omega, by simp; omega, by (try dsimp only); omega, by simp; omega⟩
    split at h
    · cases hq : refR t with
      | none => rw [hq] at h; cases h
      | some p =>
        obtain ⟨m, r2⟩ := p
        have h2 := ref_len hq
        rw [hq] at h
        cases h
        exact ⟨by simp; omega, by simp; omega, by simp, Int.le_refl _, by simp; omega⟩
    · cases h
theorem pairs_suf : ∀ (s : List UInt8) (f : Nat → Bool) (g : Nat → Bool) (r : List UInt8), pairsR s f = some (g, r) → r <:+ s
  | [], f, g, r, h => by cases h
  | [c], f, g, r, h => by
    unfold pairsR at h
    split at h
    · cases h; exact List.suffix_cons _ _
    · cases h
  | c :: d :: s, f, g, r, h => by
    unfold pairsR at h
    split at h
    · cases h; exact List.suffix_cons _ _
    · exact (pairs_suf s _ g r h).trans ((List.suffix_cons d s).trans (List.suffix_cons c _))
theorem num_suf (e : UInt8) : ∀ (s : List UInt8) (k : Nat) (n : Int) (pre : List UInt8) (m : Int) (r : List UInt8), numR e k n pre s = some (m, r) → r <:+ s
  | [], k, n, pre, m, r, h => by cases k <;> cases h
  | c :: t, 0, n, pre, m, r, h => by
    unfold numR at h
    split at h
    · cases h; exact List.suffix_cons _ _
    · cases h
  | c :: t, k + 1, n, pre, m, r, h => by
    unfold numR at h
    split at h
    · cases h; exact List.suffix_cons _ _
    · exact (num_suf e t _ _ _ m r h).trans (List.suffix_cons _ _)
theorem close_suf {s r : List UInt8} (h : closeR s = some r) : r <:+ s := by
  cases s with
  | nil => cases h
  | cons d t =>
    simp only [closeR] at h
    split at h
    · cases h; exact List.suffix_cons _ _
    · cases h
theorem ref_suf {s r : List UInt8} {n : Int} (h : refR s = some (n, r)) : r <:+ s := by
  cases s with
  | nil => cases h
  | cons d t =>
    simp only [refR] at h
    split at h
    · cases h; exact List.suffix_cons _ _
    · cases h
theorem read_suf : ∀ (k : Nat) (s : List UInt8) (l : List Nd) (g : Int) (l' : List Nd) (g' : Int) (r : List UInt8), readR k s l g = some (l', g', r) → r <:+ s
  | 0, s, l, g, l', g', r, h => by cases h
  | k + 1, [], l, g, l', g', r, h => by cases h
  | k + 1, c :: t, l, g, l', g', r, h => by
    have hc : t <:+ c :: t := List.suffix_cons _ _
    unfold readR readB at h
    split at h
    · cases h; exact hc
    split at h
    · cases h; exact hc
    split at h
    · cases h; exact hc
    split at h
    · cases hp : pairsR t (fun _ => false) with
      | none => rw [hp] at h; cases h
      | some p =>
        obtain ⟨f, q⟩ := p
        have hq := pairs_suf t _ f q hp
        rw [hp] at h
        cases h
        exact hq.trans hc
    split at h
    · cases hp : readR k t l g with
      | none => rw [hp] at h; cases h
      | some p =>
        obtain ⟨l1, g1, r1⟩ := p
        have h1 := read_suf k t l g l1 g1 r1 hp
        rw [hp, Option.bind_some] at h
        dsimp only at h
        cases hq : readR k r1 l1 g1 with
        | none => rw [hq] at h; cases h
        | some q =>
          obtain ⟨l2, g2, r2⟩ := q
          have h2 := read_suf k r1 l1 g1 l2 g2 r2 hq
          rw [hq] at h
          cases h
          exact h2.trans (h1.trans hc)
    split at h
    · cases hp : numR 44 3 0 [] t with
      | none => rw [hp] at h; cases h
      | some p =>
        obtain ⟨m1, r1⟩ := p
        have h1 := num_suf _ _ _ _ _ _ _ hp
        rw [hp, Option.bind_some] at h
        dsimp only at h
        cases hq : numR 59 3 0 [] r1 with
        | none => rw [hq] at h; cases h
        | some q =>
          obtain ⟨m2, r2⟩ := q
          have h2 := num_suf _ _ _ _ _ _ _ hq
          rw [hq, Option.bind_some] at h
          dsimp only at h
          cases hx : readR k r2 l g with
          | none => rw [hx] at h; cases h
          | some q =>
            obtain ⟨l3, g3, r3⟩ := q
            have h3 := read_suf k r2 l g l3 g3 r3 hx
            rw [hx] at h
            cases h
            exact h3.trans (h2.trans (h1.trans hc))
    split at h
    · cases hp : readR k t l (g + 1) with
      | none => rw [hp] at h; cases h
      | some p =>
        obtain ⟨l1, g1, r1⟩ := p
        have h1 := read_suf k t l (g + 1) l1 g1 r1 hp
        rw [hp, Option.bind_some] at h
        dsimp only at h
        cases hq : closeR r1 with
        | none => rw [hq] at h; cases h
        | some r2 =>
          have h2 := close_suf hq
          rw [hq] at h
          cases h
          exact h2.trans (h1.trans hc)
    split at h
    · cases hq : refR t with
      | none => rw [hq] at h; cases h
      | some p =>
        obtain ⟨m, r2⟩ := p
        have h2 := ref_suf hq
        rw [hq] at h
        cases h
        exact h2.trans hc
    · cases h
theorem suf_drop {r s : List UInt8} (h : r <:+ s) : r = s.drop (s.length - r.length) := by
  obtain ⟨x, rfl⟩ := h
  simp
/-- What the document parses a text as. -/
def rparseL (s : List UInt8) : Option (List Nd) := match readR 131 s [] 0 with
  | some (l, _, _) => if textL l = s ∧ s ≠ [] then some l else none
  | none => none
theorem text_ne : ∀ t : Tr, textT t ≠ [] := by
  intro t; cases t <;> simp [textT]
theorem rparse_eq (hwf : ∀ (s : List UInt8) (l : List Nd), parseL s = some l → ∀ n ∈ l, Wf n.s) (s : List UInt8) : rparseL s = parseL s := by
  cases hp : parseL s with
  | some l =>
    have h1 := parse_some hp
    have hw := hwf s l hp
    unfold textL at h1
    cases ht : patOf l with
    | none => unfold mayL at h1; rw [ht] at h1; cases h1.1
    | some t =>
      rw [ht] at h1
      obtain ⟨rfl, hg⟩ := patOf_some ht
      have hs := sets_nodes t 0 hw
      obtain rfl : textT t = s := h1.2
      have hr := read_text _ t 131 [] [] 0 hg.1 hg.numOk hs (by have := hg.2.1; omega)
      rw [List.append_nil] at hr
      unfold rparseL
      rw [hr]
      simp only [List.nil_append, List.length_nil]
      have e1 : textL (t.nodes 0) = textT t := by unfold textL; rw [ht]
      rw [if_pos ⟨e1, text_ne t⟩]
  | none =>
    unfold rparseL
    cases hr : readR 131 s [] 0 with
    | none => rfl
    | some p =>
      obtain ⟨l, g, r⟩ := p
      dsimp only
      split
      · rename_i hc
        exfalso
        have hw := (read_len 131 s [] 0 l g r hr (by intro n hn; cases hn)).2.2.2.2.2
        cases ht : patOf l with
        | none =>
          have : textL l = [] := by unfold textL; rw [ht]
          exact hc.2 (by rw [← hc.1, this])
        | some t =>
          obtain ⟨rfl, hg⟩ := patOf_some ht
          have e1 : textL (t.nodes 0) = textT t := by unfold textL; rw [ht]
          have hq := parse_text hg (sets_nodes t 0 hw)
          rw [← e1, hc.1, hp] at hq
          cases hq
      · rfl
end Go.Proofs.YtdjedjfanfbbcaaGreatDoor.Rx
namespace Go.Proofs.YtdjedjfanfbbcaaGreatDoor.Rx
open Go.RowKit Go.Shelf
set_option linter.unusedVariables false
set_option linter.unusedSimpArgs false
def numA (n : Nat) : Option (Int × List UInt8) → Value
  | none => .tuple #[E 0, E (-1)]
  | some (m, r) => .tuple #[E m, E ((n - r.length - 1 : Nat) : Int)]
theorem ex_midR {l : List UInt8} (i j : Nat) : (⟨l.toArray⟩ : ByteArray).extract i (i + j) = ⟨((l.drop i).take j).toArray⟩ := by
  rw [Go.Lib.extract_eq]
  simp
theorem num_cons (e : UInt8) (k : Nat) (n : Int) (pre : List UInt8) (c : UInt8) (t : List UInt8) (h : c ≠ e) : numR e (k + 1) n pre (c :: t) = numR e k (digR c n) (pre ++ [c]) t := by rw [numR, if_neg h]
theorem num_end (e : UInt8) (k : Nat) (n : Int) (pre : List UInt8) (t : List UInt8) : numR e k n pre (e :: t) = some (if pre = [45, 49] then -1 else n, t) := by
  cases k <;> rw [numR, if_pos rfl]
theorem num_no (e : UInt8) (n : Int) (pre : List UInt8) (c : UInt8) (t : List UInt8) (h : c ≠ e) : numR e 0 n pre (c :: t) = none := by rw [numR, if_neg h]
theorem num_nil (e : UInt8) (k : Nat) (n : Int) (pre : List UInt8) : numR e k n pre [] = none := by cases k <;> rfl
theorem take_next {l : List UInt8} {p j : Nat} (h : p + j < l.length) : (l.drop p).take (j + 1) = (l.drop p).take j ++ [l[p + j]] := by
  rw [List.take_succ_eq_append_getElem (by simp; omega)]
  simp
set_option maxRecDepth 100000 in
set_option maxHeartbeats 3200000 in
theorem number_at (s : List UInt8) (p : Nat) (e : UInt8) (w : World) (hp : p ≤ s.length) (hs : s.length ≤ 100000) :
    Calls Tryz.prog 42 #[S s, E (p : Nat), .int .u8 (e.toNat : Nat)] w fun en w' => en = .returned (numA s.length (numR e 3 0 [] (s.drop p))) ∧ Below w.heap.size w w' := by
  have hsz : (ByteArray.mk s.toArray).size = s.length := by simp [ByteArray.size]
  have HI := Lib.hid (fun (k : Nat) (h : k < s.length) => show (ByteArray.mk s.toArray)[k]'(by rw [hsz]; exact h) = s[k] from rfl)
  generalize hN : numR e 3 0 [] (s.drop p) = res at *
  have HN := Lib.hid hN
  have hp3 : IntKind.i64.wrap ((p : Int) + 3) = (p : Int) + 3 := by rw [IntKind.wrap_i64]; omega
  clear hN
  go_enter Tryz.func42, Tryz.ntmps42
  go_wp2
  go_loopw [8, 9] (fun i n wr => ∃ (j : Nat) (m : Nat), j ≤ 3 ∧ p + j ≤ s.length ∧ i = .int .i64 ((p : Int) + (j : Int)) ∧ n = E (m : Nat) ∧ Hid (m < 10 ^ j ∧ numR e (3 - j) m ((s.drop p).take j) (s.drop (p + j)) = res) ∧ Hid (Below w.heap.size w wr)) (fun i _ _ => s.length - (intOf i).toNat)
  case atStart => exact ⟨0, 0, by omega, by omega, by go_num, rfl, Lib.hid ⟨by decide, by simpa using HN.out⟩, Lib.hid (Below.refl _ _)⟩
  case round =>
    clear HN
    obtain ⟨j, m, hj, hl, rfl, rfl, HR, HB⟩ := hrel
    by_cases hlt : p + j < s.length
    · have hg := HI.out (p + j) hlt
      have hd : s.drop (p + j) = s[p + j] :: s.drop (p + j + 1) := List.drop_eq_getElem_cons hlt
      have htk := take_next hlt
      have hm : m ≤ 999 := by
        have h1 := HR.out.1
        have : 10 ^ j ≤ 10 ^ 3 := Nat.pow_le_pow_right (by decide) hj
        omega
      have hlt' : (p : Int) + (j : Int) < ((s.length : Nat) : Int) := by omega
      have hnn : (0 : Int) ≤ (p : Int) + (j : Int) := by omega
      have htn : ((p : Int) + (j : Int)).toNat = p + j := by omega
      have HR2 := Lib.hid (show _ ∧ numR e (3 - j) m ((s.drop p).take j) (s[p + j] :: s.drop (p + j + 1)) = res from ⟨HR.out.1, by rw [← hd]; exact HR.out.2⟩)
      have HTK := Lib.hid htk
      clear hd htk HR
      generalize s[p + j] = c at *
      have hcl := UInt8.toNat_lt c
      by_cases hce : c = e
      · subst hce
        have hr := HR2.out.2
        rw [num_end] at hr
        have hcc : ((c.toNat : Int) == (c.toNat : Int)) = true := by simp
        have hge : ¬ ((s.length : Nat) : Int) ≤ (p : Int) + (j : Int) := by omega
        have hex := ex_midR (l := s) p j
        have h01 : (p : Int) ≤ (p : Int) + (j : Int) := by omega
        have hle : (p : Int) + (j : Int) ≤ ((s.length : Nat) : Int) := by omega
        have hpl : s.length - (s.drop (p + j + 1)).length - 1 = p + j := by rw [List.length_drop]; omega
        by_cases hneg : (s.drop p).take j = [45, 49]
        · rw [if_pos hneg] at hr
          have hq : ((s.drop p).take j == [45, 49]) = true := by rw [hneg]; rfl
          have HO := Lib.hid (show numA s.length res = .tuple #[E (-1), E ((p : Int) + (j : Int))] from by
            rw [← hr]; unfold numA; dsimp only; rw [hpl]; rfl)
          clear hr HR2 hneg HTK
          generalize (s.drop p).take j = pre at *
          clear hpl
          by_cases h3 : j < 3
          · have h3' : (p : Int) + (j : Int) < (p : Int) + 3 := by omega
            go_wp2
            go_ret2
            exact ⟨by rw [HO.out]; rfl, HB.out⟩
          · have h3' : ¬ (p : Int) + (j : Int) < (p : Int) + 3 := by omega
            go_wp2
            go_ret2
            exact ⟨by rw [HO.out]; rfl, HB.out⟩
        · rw [if_neg hneg] at hr
          have hq : ((s.drop p).take j == [45, 49]) = false := by rw [beq_eq_false_iff_ne]; exact hneg
          have HO := Lib.hid (show numA s.length res = .tuple #[E (m : Nat), E ((p : Int) + (j : Int))] from by
            rw [← hr]; unfold numA; dsimp only; rw [hpl]; rfl)
          clear hr HR2 hneg HTK
          generalize (s.drop p).take j = pre at *
          clear hpl
          by_cases h3 : j < 3
          · have h3' : (p : Int) + (j : Int) < (p : Int) + 3 := by omega
            go_wp2
            go_ret2
            exact ⟨by rw [HO.out]; rfl, HB.out⟩
          · have h3' : ¬ (p : Int) + (j : Int) < (p : Int) + 3 := by omega
            go_wp2
            go_ret2
            exact ⟨by rw [HO.out]; rfl, HB.out⟩
      · have hne : ¬ ((c.toNat : Int) = (e.toNat : Int)) := by
          intro q
          exact hce (UInt8.toNat.inj (by omega))
        by_cases h3 : j < 3
        · have h3' : (p : Int) + (j : Int) < (p : Int) + 3 := by omega
          obtain ⟨k, hk⟩ : ∃ k, 3 - j = k + 1 := ⟨2 - j, by omega⟩
          have hr := HR2.out.2
          rw [hk, num_cons e k _ _ c _ hce, ← HTK.out] at hr
          have hk2 : 3 - (j + 1) = k := by omega
          rw [← hk2] at hr
          have hw1 : IntKind.i64.wrap ((p : Int) + (j : Int) + 1) = (p : Int) + ((j + 1 : Nat) : Int) := by rw [IntKind.wrap_i64]; omega
          have hpw := HR2.out.1
          have hpw2 : 10 ^ (j + 1) = 10 ^ j * 10 := Nat.pow_succ 10 j
          by_cases h48 : 48 ≤ c.toNat
          · by_cases h57 : c.toNat ≤ 57
            · have hdg : digR c (m : Int) = ((m * 10 + (c.toNat - 48) : Nat) : Int) := by unfold digR; rw [if_pos ⟨h48, h57⟩]; omega
              rw [hdg] at hr
              have HO := Lib.hid (show m * 10 + (c.toNat - 48) < 10 ^ (j + 1) ∧ _ from ⟨by omega, hr⟩)
              have a1 : (48 : Int) ≤ (c.toNat : Int) := by omega
              have a2 : (c.toNat : Int) ≤ 57 := by omega
              have b1 : IntKind.i64.wrap ((m : Int) * 10) = (m : Int) * 10 := by rw [IntKind.wrap_i64]; omega
              have b2 : IntKind.u8.wrap ((c.toNat : Int) - 48) = (c.toNat : Int) - 48 := by rw [IntKind.wrap_u8]; omega
              have b3 : IntKind.i64.wrap ((c.toNat : Int) - 48) = (c.toNat : Int) - 48 := by rw [IntKind.wrap_i64]; omega
              have b4 : IntKind.i64.wrap ((m : Int) * 10 + ((c.toNat : Int) - 48)) = ((m * 10 + (c.toNat - 48) : Nat) : Int) := by rw [IntKind.wrap_i64]; omega
              clear hr HR2 hdg HTK hpw hpw2 hk2 hk
              go_wp2
              go_roundw
              case rel => exact ⟨j + 1, m * 10 + (c.toNat - 48), by omega, by omega, by go_num, by go_num, HO, HB⟩
              case measure => simp [intOf]; omega
            · have hdg : digR c (m : Int) = (m : Int) := by unfold digR; rw [if_neg (by omega)]
              rw [hdg] at hr
              have HO := Lib.hid (show m < 10 ^ (j + 1) ∧ _ from ⟨by omega, hr⟩)
              have a1 : (48 : Int) ≤ (c.toNat : Int) := by omega
              have a2 : ¬ (c.toNat : Int) ≤ 57 := by omega
              clear hr HR2 hdg HTK hpw hpw2 hk2 hk
              go_wp2
              go_roundw
              case rel => exact ⟨j + 1, m, by omega, by omega, by go_num, rfl, HO, HB⟩
              case measure => simp [intOf]; omega
          · have hdg : digR c (m : Int) = (m : Int) := by unfold digR; rw [if_neg (by omega)]
            rw [hdg] at hr
            have HO := Lib.hid (show m < 10 ^ (j + 1) ∧ _ from ⟨by omega, hr⟩)
            have a1 : ¬ (48 : Int) ≤ (c.toNat : Int) := by omega
            clear hr HR2 hdg HTK hpw hpw2 hk2 hk
            go_wp2
            go_roundw
            case rel => exact ⟨j + 1, m, by omega, by omega, by go_num, rfl, HO, HB⟩
            case measure => simp [intOf]; omega
        · have h3' : ¬ (p : Int) + (j : Int) < (p : Int) + 3 := by omega
          have hr := HR2.out.2
          rw [show 3 - j = 0 by omega, num_no e _ _ c _ hce] at hr
          have HO := Lib.hid (show numA s.length res = .tuple #[E 0, E (-1)] from by rw [← hr]; rfl)
          have hge : ¬ ((s.length : Nat) : Int) ≤ (p : Int) + (j : Int) := by omega
          clear hr HR2 HTK
          go_wp2
          go_ret2
          exact ⟨by rw [HO.out]; rfl, HB.out⟩
    · have hle : p + j = s.length := by omega
      have hr := HR.out.2
      rw [hle, List.drop_length, num_nil] at hr
      have HO := Lib.hid (show numA s.length res = .tuple #[E 0, E (-1)] from by rw [← hr]; rfl)
      have hlt' : ¬ (p : Int) + (j : Int) < ((s.length : Nat) : Int) := by omega
      have hge : ((s.length : Nat) : Int) ≤ (p : Int) + (j : Int) := by omega
      clear hr HR hle
      go_wp2
      go_ret2
      exact ⟨by rw [HO.out]; rfl, HB.out⟩
end Go.Proofs.YtdjedjfanfbbcaaGreatDoor.Rx
namespace Go.Proofs.YtdjedjfanfbbcaaGreatDoor.Rx
open Go.RowKit Go.Shelf
open Go.Proofs.YtdjedjfanfbbcaaGreatDoor.St (Wf word zeroW Tab SV SV_eq)
set_option linter.unusedVariables false
set_option linter.unusedSimpArgs false
/-- What is kept but for the row of nodes. -/
structure Kd (w : World) (v : Value) (w' : World) (v' : Value) : Prop where
  size : w.heap.size ≤ w'.heap.size
  far : ∀ k, k < w.heap.size → v.ownBlock ≠ some k → w'.heap[k]? = w.heap[k]? ∧ v'.ownBlock ≠ some k
theorem Kd.refl (w : World) (v : Value) : Kd w v w v := ⟨Nat.le_refl _, fun _ _ h => ⟨rfl, h⟩⟩
theorem Kd.trans {w1 w2 w3 : World} {v1 v2 v3 : Value} (h : Kd w1 v1 w2 v2) (k : Kd w2 v2 w3 v3) : Kd w1 v1 w3 v3 :=
  ⟨Nat.le_trans h.size k.size, fun i h1 h3 => by
    obtain ⟨e1, e2⟩ := h.far i h1 h3
    obtain ⟨e3, e4⟩ := k.far i (Nat.lt_of_lt_of_le h1 h.size) e2
    exact ⟨e3.trans e1, e4⟩⟩
theorem Kd.below {w1 w2 w3 : World} {v1 v2 : Value} (h : Kd w1 v1 w2 v2) (hb : Below w2.heap.size w2 w3) : Kd w1 v1 w3 v2 :=
  h.trans ⟨hb.size, fun i h1 h3 => ⟨hb.block i h1, h3⟩⟩
structure RO (w0 : World) (l : List Nd) (v : Value) (w : World) : Prop where
  own : w.ownsRow w0.heap.size 54 10 v l.length (flat l)
  bel : Below w0.heap.size w0 w
theorem RO.below {w0 w w' : World} {l : List Nd} {v : Value} (h : RO w0 l v w) (hb : Below w.heap.size w w') : RO w0 l v w' :=
  ⟨own_below h.own hb, h.bel.trans (hb.mono h.bel.size)⟩
/-- A node, and the row, while it is read. -/
structure SN (w0 w1 : World) (v1 : Value) (n : Nd) (l : List Nd) (v : Value) (w : World) : Prop where
  ro : RO w0 l v w
  kd : Kd w1 v1 w v
  nb : w.heap[w1.heap.size]? = some (.cells (NC n) 54 (0, 0))
  own : v.ownBlock ≠ some w1.heap.size
  h01 : w0.heap.size ≤ w1.heap.size
section
variable {w0 w1 w w' : World} {v1 v v' : Value} {n : Nd} {l l' : List Nd}
theorem SN.sz (h : SN w0 w1 v1 n l v w) : w1.heap.size < w.heap.size := lt_heap' h.nb
theorem SN.below (h : SN w0 w1 v1 n l v w) (hb : Below w.heap.size w w') : SN w0 w1 v1 n l v w' :=
  ⟨h.ro.below hb, h.kd.below hb, (hb.block _ h.sz).trans h.nb, h.own, h.h01⟩
/-- Behind a call that reads on. -/
theorem SN.step (h : SN w0 w1 v1 n l v w) (hr : RO w0 l' v' w') (hk : Kd w v w' v') : SN w0 w1 v1 n l' v' w' :=
  have f := hk.far w1.heap.size h.sz h.own
  ⟨hr, h.kd.trans hk, f.1.trans h.nb, f.2, h.h01⟩
theorem SN.node (h : SN w0 w1 v1 n l v w) {i : Nat} {u : Value} {m : Nd} (e : (NC n).setIfInBounds i u = NC m) : SN w0 w1 v1 m l v (w.setCell ⟨w1.heap.size, i, none⟩ u) := by
  refine ⟨⟨ownsRow_setCell_other h.ro.own h.own _, h.ro.bel.setCell h.h01 _⟩, ?_, ?_, h.own, h.h01⟩
  · refine ⟨by simpa using h.kd.size, fun k h1 h2 => ?_⟩
    obtain ⟨e1, e2⟩ := h.kd.far k h1 h2
    exact ⟨(Below.heap_setCell w ⟨w1.heap.size, i, none⟩ u k (by show k ≠ w1.heap.size; omega)).trans e1, e2⟩
  · have := Go.Joins.block_setCell h.nb (i := i) u
    rw [e] at this
    exact this
theorem SN.cells (h : SN w0 w1 v1 n l v w) :
    (w.cell? ⟨w1.heap.size, 0, none⟩ = some (E n.k) ∧ w.cell? ⟨w1.heap.size, 1, none⟩ = some (U (word n.s 0)) ∧ w.cell? ⟨w1.heap.size, 2, none⟩ = some (U (word n.s 1)) ∧ w.cell? ⟨w1.heap.size, 3, none⟩ = some (U (word n.s 2)) ∧ w.cell? ⟨w1.heap.size, 4, none⟩ = some (U (word n.s 3)) ∧
      w.cell? ⟨w1.heap.size, 5, none⟩ = some (E n.a) ∧ w.cell? ⟨w1.heap.size, 6, none⟩ = some (E n.b) ∧ w.cell? ⟨w1.heap.size, 7, none⟩ = some (E n.mn) ∧ w.cell? ⟨w1.heap.size, 8, none⟩ = some (E n.mx) ∧ w.cell? ⟨w1.heap.size, 9, none⟩ = some (E n.n)) ∧
    (∀ i, w.frozen? ⟨w1.heap.size, i, none⟩ = false) :=
  ⟨⟨(Lib.cell_of_heap h.nb 0).trans rfl, (Lib.cell_of_heap h.nb 1).trans rfl, (Lib.cell_of_heap h.nb 2).trans rfl, (Lib.cell_of_heap h.nb 3).trans rfl, (Lib.cell_of_heap h.nb 4).trans rfl, (Lib.cell_of_heap h.nb 5).trans rfl, (Lib.cell_of_heap h.nb 6).trans rfl, (Lib.cell_of_heap h.nb 7).trans rfl, (Lib.cell_of_heap h.nb 8).trans rfl, (Lib.cell_of_heap h.nb 9).trans rfl⟩, fun i => by simp [World.frozen?, h.nb]⟩
/-- The node is pushed. -/
theorem SN.push {o : Obj} {gg cap : Nat} (h : SN w0 w1 v1 n l v w)
    (hown : w'.ownsRow w0.heap.size 54 10 (.slice (some ⟨gg, 0, none⟩) (l.length + 1) cap) (l.length + 1) (flat l ++ (NC n).toList)) (hgrow : (w.alloc o).grownBy w' v.ownBlock) (hg : v.ownBlock = some gg ∨ gg = w.heap.size + 1) :
    RO w0 (l ++ [n]) (.slice (some ⟨gg, 0, none⟩) (l.length + 1) cap) w' ∧ Kd w1 v1 w' (.slice (some ⟨gg, 0, none⟩) (l.length + 1) cap) := by
  have hb := (Below.refl w.heap.size w).alloc (Nat.le_refl _) o
  have h2 := h.below hb
  have e1 : (l ++ [n]).length = l.length + 1 := by simp
  have hsz := h.sz
  have hks := h.kd.size
  have ha : (w.alloc o).heap.size = w.heap.size + 1 := by simp
  refine ⟨⟨?_, h2.ro.bel.grown hgrow h2.ro.bel.size (own_ge h2.ro.own)⟩, h2.kd.trans ⟨hgrow.size, fun k h3 h4 => ⟨hgrow.block k h3 (Ne.symm h4), ?_⟩⟩⟩
  · rw [e1, show flat (l ++ [n]) = flat l ++ (NC n).toList from by rw [flat_append, flat_one]]
    exact hown
  · simp only [Value.ownBlock, ne_eq, Option.some.injEq]
    rcases hg with hg | hg
    · intro q; exact h4 (by rw [hg, q])
    · omega
end
/-- Where the reading of a node begins. -/
theorem sn_start {w0 w : World} {l : List Nd} {v : Value} (h : RO w0 l v w) : SN w0 w v N0 l v (w.alloc (.cells (NC N0) 54)) := by
  have hb := (Below.refl w.heap.size w).alloc (Nat.le_refl _) (.cells (NC N0) 54)
  refine ⟨h.below hb, (Kd.refl w v).below hb, heap_alloc_new _ _, ?_, h.bel.size⟩
  intro q
  rcases own_forms h.own with ⟨rfl, _⟩ | ⟨g, cap, rfl, _⟩
  · cases q
  · have h3 := (h.own.lt g rfl).2
    simp only [Value.ownBlock, Option.some.injEq] at q
    omega
/-- What read answers. -/
def ReadAns (w0 : World) (N : Nat) (v : Value) (w : World) (o : Option (List Nd × Int × List UInt8)) (e : Ending) (w' : World) : Prop :=
  match o with
  | none => ∃ v' g', e = .returned (.tuple #[v', E g', E (-1)]) ∧ Below w0.heap.size w0 w'
  | some (l', g', r) => ∃ v', e = .returned (.tuple #[v', E g', E ((N - r.length : Nat) : Int)]) ∧ RO w0 l' v' w' ∧ Kd w v w' v'
def ReadOk (w0 : World) (s : List UInt8) (k : Nat) : Prop := ∀ (p d : Nat) (l : List Nd) (g : Int) (v : Value) (w : World), RO w0 l v w → p ≤ s.length → d + k = 131 → l.length + (s.length - p) ≤ 100000 → 0 ≤ g → g + ((s.length - p : Nat) : Int) ≤ 100000 →
  Calls Tryz.prog 22 #[S s, E (p : Nat), v, E g, E (d : Nat)] w (ReadAns w0 s.length v w (readR k (s.drop p) l g))
end Go.Proofs.YtdjedjfanfbbcaaGreatDoor.Rx
