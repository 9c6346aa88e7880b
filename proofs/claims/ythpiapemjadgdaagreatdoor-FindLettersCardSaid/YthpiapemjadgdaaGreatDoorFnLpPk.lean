/- FindLetters: the pattern of a text of letters, and where it is found: plain. -/
import Derived.Test.YthpiapemjadgdaaGreatDoorFnPPk
import Derived.Test.YthpiapemjadgdaaGreatDoorBk07
namespace Go.Proofs.YthpiapemjadgdaaGreatDoor.Mt
open Go.Proofs.YthpiapemjadgdaaGreatDoor.Rx
open Go.Proofs.YthpiapemjadgdaaGreatDoor.Rx.Tr
open Go.Proofs.YthpiapemjadgdaaGreatDoor.Fn
open Go.Proofs.YthpiapemjadgdaaGreatDoor.St (Wf word mem ofL wf_ofL mem_ofL)
set_option linter.unusedVariables false
set_option linter.unusedSimpArgs false
def LT : List UInt8 → Tr
  | [] => .e
  | [b] => .set (ofL [b])
  | b :: c :: r => .cat (.set (ofL [b])) (LT (c :: r))
abbrev bN (b : UInt8) : Nd := ⟨1, ofL [b], 0, 0, 0, 0, 0⟩
abbrev cN (a b : Nat) : Nd := ⟨4, z4, (a : Nat), (b : Nat), 0, 0, 0⟩
/-- The nodes that put letters one behind the other, k of them. -/
def catsO (o m : Nat) : Nat → List Nd
  | 0 => []
  | k + 1 => catsO o m k ++ [cN (o + (m - 2 - k)) (o + m + k - 1)]
theorem cats_len (o m : Nat) : ∀ k, (catsO o m k).length = k
  | 0 => rfl
  | k + 1 => by rw [catsO, List.length_append, cats_len o m k]; rfl
theorem cats_shift (o m : Nat) : ∀ k, k + 1 ≤ m → catsO (o + 1) m k = catsO o (m + 1) k
  | 0, _ => rfl
  | k + 1, h => by
    rw [catsO, catsO, cats_shift o m k (by omega)]
    congr 3 <;> omega
theorem lt_size : ∀ (s : List UInt8), s ≠ [] → (LT s).size = 2 * s.length - 1
  | [], h => absurd rfl h
  | [b], _ => rfl
  | b :: c :: r, _ => by
    have := lt_size (c :: r) (by simp)
    show 1 + (LT (c :: r)).size + 1 = _
    rw [this]
    simp only [List.length_cons]
    omega
theorem lt_nodes : ∀ (s : List UInt8) (o : Nat), s ≠ [] → (LT s).nodes o = s.map bN ++ catsO o s.length (s.length - 1)
  | [], _, h => absurd rfl h
  | [b], o, _ => rfl
  | b :: c :: r, o, _ => by
    have ih := lt_nodes (c :: r) (o + 1) (by simp)
    have hs := lt_size (c :: r) (by simp)
    have e : (LT (b :: c :: r)).nodes o = [bN b] ++ (LT (c :: r)).nodes (o + 1) ++ [(LT (b :: c :: r)).root o] := rfl
    have er : (LT (b :: c :: r)).root o = cN (o + 1 - 1) (o + 1 + (LT (c :: r)).size - 1) := rfl
    have hk : catsO (o + 1) (c :: r).length ((c :: r).length - 1) = catsO o (b :: c :: r).length ((c :: r).length - 1) := by
      cases r with
      | nil => rfl
      | cons d r' => exact cats_shift o _ _ (by simp) 
    rw [e, ih, er, hs, hk]
    have e3 : (b :: c :: r).length - 1 = ((c :: r).length - 1) + 1 := by simp
    rw [e3, catsO]
    simp only [List.map_cons, List.append_assoc, List.cons_append, List.nil_append]
    congr 4
    simp only [List.length_cons]
    congr 2 <;> omega
theorem of1_ne (b : UInt8) : ofL [b] ≠ z4 := fun h => by
  have h1 := mem_ofL [b] b.toNat
  rw [h] at h1
  have h2 : mem z4 b.toNat = false := Go.Proofs.YthpiapemjadgdaaGreatDoor.St.mem_zero b.toNat
  rw [h2] at h1
  simp at h1
theorem lt_rk : ∀ (s : List UInt8), s ≠ [] → (LT s).rk ≠ 5
  | [], h => absurd rfl h
  | [b], _ => by show (1 : Int) ≠ 5; decide
  | b :: c :: r, _ => by show (4 : Int) ≠ 5; decide
theorem lt_fine (em : Prop) : ∀ (s : List UInt8), s ≠ [] → (LT s).Fine em
  | [], h => absurd rfl h
  | [b], _ => of1_ne b
  | b :: c :: r, _ => ⟨of1_ne b, lt_fine em (c :: r) (by simp), by show (1 : Int) ≠ 4; decide, by show (1 : Int) ≠ 5; decide, lt_rk (c :: r) (by simp)⟩
theorem lt_sets : ∀ (s : List UInt8), SetsOk (LT s)
  | [] => trivial
  | [b] => wf_ofL _
  | b :: c :: r => ⟨wf_ofL _, lt_sets (c :: r)⟩
theorem lt_num : ∀ (s : List UInt8) (n : NSt), n.ok = true → (numT (LT s) n).ok = true
  | [], n, h => h
  | [b], n, h => h
  | b :: c :: r, n, h => lt_num (c :: r) n h
theorem lt_good {s : List UInt8} (h : s ≠ []) (h6 : s.length ≤ 6) : Go.Proofs.YthpiapemjadgdaaGreatDoor.Rx.Good (LT s) :=
  ⟨lt_fine _ s h, by rw [lt_size s h]; omega, lt_num s num0 rfl⟩
/-- Whether a text stands at a place. -/
def here (T s : List UInt8) (i : Nat) : Bool := decide ((T.drop i).take s.length = s)
theorem has1 (b : UInt8) (T : List UInt8) (i : Nat) : hasAt (ofL [b]) T i = decide (T[i]? = some b) := by
  unfold hasAt
  cases h : T[i]? with
  | none => simp
  | some x =>
    dsimp only
    rw [mem_ofL, Bool.eq_iff_iff]
    simp only [List.any_cons, List.any_nil, Bool.or_false, beq_iff_eq, decide_eq_true_eq, Option.some.injEq]
    exact ⟨fun e => UInt8.toNat_inj.1 e, fun e => by rw [e]⟩
theorem here_cons (T : List UInt8) (b : UInt8) (r : List UInt8) (i : Nat) : here T (b :: r) i = (decide (T[i]? = some b) && here T r (i + 1)) := by
  unfold here
  cases h : T[i]? with
  | none =>
    have hl : T.length ≤ i := List.getElem?_eq_none_iff.1 h
    rw [List.drop_eq_nil_of_le hl]
    simp
  | some x =>
    obtain ⟨hl, hx⟩ := List.getElem?_eq_some_iff.1 h
    rw [List.drop_eq_getElem_cons hl, hx]
    simp only [List.length_cons, List.take_succ_cons, List.cons.injEq, Option.some.injEq, Bool.decide_and]
theorem here_nil (T : List UInt8) (i : Nat) : here T [] i = true := by simp [here]
theorem down_no {α : Type} {f : Nat → Option α} {i : Nat} : ∀ {n : Nat}, (∀ k, i ≤ k → k ≤ i + n → f k = none) → down f i n = none
  | 0, h => h i (Nat.le_refl _) (Nat.le_refl _)
  | n + 1, h => by
    unfold down
    rw [h (i + n + 1) (by omega) (by omega)]
    exact down_no fun k h1 h2 => h k h1 (by omega)
theorem lt_fit (T : List UInt8) : ∀ (s : List UInt8) (i j : Nat) (c : Caps), s ≠ [] → i ≤ j → j ≤ T.length → fitP T (LT s) i j c = if j = i + s.length ∧ here T s i = true then some c else none
  | [], _, _, _, h, _, _ => absurd rfl h
  | [b], i, j, c, _, _, _ => by
    show (if j = i + 1 ∧ hasAt (ofL [b]) T i = true then some c else none) = _
    rw [has1, here_cons, here_nil, Bool.and_true]
    rfl
  | b :: c' :: r, i, j, c, _, hij, hj => by
    have ih := fun (k : Nat) (hk : k ≤ j) (a : Caps) => lt_fit T (c' :: r) k j a (by simp) hk hj
    show down (fun k => (fitP T (.set (ofL [b])) i k c).bind fun a => fitP T (LT (c' :: r)) k j a) i (j - i) = _
    rw [here_cons]
    have key : ∀ k, i ≤ k → k ≤ i + (j - i) → ((fitP T (.set (ofL [b])) i k c).bind fun a => fitP T (LT (c' :: r)) k j a) = if k = i + 1 ∧ j = i + (b :: c' :: r).length ∧ (decide (T[i]? = some b) && here T (c' :: r) (i + 1)) = true then some c else none := fun k h1 h2 => by
      have e : fitP T (.set (ofL [b])) i k c = if k = i + 1 ∧ decide (T[i]? = some b) = true then some c else none := by
        show (if k = i + 1 ∧ hasAt (ofL [b]) T i = true then some c else none) = _
        rw [has1]
      rw [e]
      by_cases hk : k = i + 1
      · subst hk
        by_cases hb : decide (T[i]? = some b) = true
        · rw [if_pos ⟨rfl, hb⟩, Option.bind_some, ih (i + 1) (by omega) c, hb, Bool.true_and]
          by_cases hh : here T (c' :: r) (i + 1) = true
          · by_cases hl : j = i + (b :: c' :: r).length
            · rw [if_pos ⟨by simp only [List.length_cons] at hl ⊢; omega, hh⟩, if_pos ⟨rfl, hl, hh⟩]
            · rw [if_neg (fun q => hl (by have := q.1; simp only [List.length_cons] at this ⊢; omega)), if_neg (fun q => hl q.2.1)]
          · rw [if_neg (fun q => hh q.2), if_neg (fun q => hh q.2.2)]
        · rw [if_neg (fun q => hb q.2), if_neg (fun q => hb (by have := q.2.2; simp only [Bool.and_eq_true] at this; exact this.1))]
          rfl
      · rw [if_neg (fun q => hk q.1), if_neg (fun q => hk q.1)]
        rfl
    rw [down_congr key]
    by_cases hc : j = i + (b :: c' :: r).length ∧ (decide (T[i]? = some b) && here T (c' :: r) (i + 1)) = true
    · rw [if_pos hc]
      have hl : i + 1 ≤ j := by have := hc.1; simp only [List.length_cons] at this; omega
      have hd : ∀ n, i + 1 ≤ i + n → down (fun k => if k = i + 1 ∧ j = i + (b :: c' :: r).length ∧ (decide (T[i]? = some b) && here T (c' :: r) (i + 1)) = true then some c else none) i n = some c := by
        intro n
        induction n with
        | zero => intro h; omega
        | succ n ihn =>
          intro h
          unfold down
          by_cases e : i + n + 1 = i + 1
          · rw [if_pos ⟨e, hc⟩]
          · rw [if_neg (fun q => e q.1)]
            exact ihn (by omega)
      exact hd _ (by omega)
    · rw [if_neg hc]
      exact down_no fun k _ _ => if_neg fun q => hc q.2
/-- The longest one, of letters. -/
theorem lt_long {T s : List UInt8} (hs : s ≠ []) {i : Nat} (hi : i ≤ T.length) : longP T (LT s) i = if i + s.length ≤ T.length ∧ here T s i = true then some (nones.set 0 (some (i, i + s.length))) else none := by
  have hw : ∀ j, i ≤ j → j ≤ T.length → wholeP T (LT s) i j = if j = i + s.length ∧ here T s i = true then some (nones.set 0 (some (i, i + s.length))) else none := fun j h1 h2 => by
    unfold wholeP
    rw [lt_fit T s i j nones hs h1 h2]
    by_cases hc : j = i + s.length ∧ here T s i = true
    · rw [if_pos hc, if_pos hc, Option.map_some, hc.1]
    · rw [if_neg hc, if_neg hc]; rfl
  unfold longP
  cases h : dn (fun j => wholeP T (LT s) i j) i (T.length + 1 - i) with
  | some a =>
    obtain ⟨q, q1, q2, _⟩ := dn_some h
    rw [hw (i + q) (by omega) (by omega)] at q2
    by_cases hc : i + q = i + s.length ∧ here T s i = true
    · rw [if_pos hc] at q2
      rw [if_pos ⟨by omega, hc.2⟩]
      exact q2.symm
    · rw [if_neg hc] at q2; cases q2
  | none =>
    by_cases hc : i + s.length ≤ T.length ∧ here T s i = true
    · have := dn_none h s.length (by omega)
      rw [hw (i + s.length) (by omega) hc.1, if_pos ⟨rfl, hc.2⟩] at this
      cases this
    · rw [if_neg hc]
/-- The first of n places from i on at which something holds. -/
def upB (q : Nat → Bool) : Nat → Nat → Option Nat
  | _, 0 => none
  | i, n + 1 => if q i = true then some i else upB q (i + 1) n
theorem upB_step (q : Nat → Bool) (i n : Nat) : upB q i (n + 1) = if q i = true then some i else upB q (i + 1) n := rfl
theorem upB_none (q : Nat → Bool) : ∀ (n i : Nat), (∀ k, i ≤ k → k < i + n → q k = false) → upB q i n = none
  | 0, _, _ => rfl
  | n + 1, i, h => by
    rw [upB_step, if_neg (by rw [h i (Nat.le_refl _) (by omega)]; simp)]
    exact upB_none q n (i + 1) fun k h1 h2 => h k (by omega) (by omega)
theorem upB_ext (q : Nat → Bool) : ∀ (n i m : Nat), (∀ k, i + n ≤ k → k < i + n + m → q k = false) → upB q i (n + m) = upB q i n
  | 0, i, m, h => by rw [Nat.zero_add]; exact upB_none q m i fun k h1 h2 => h k (by omega) (by omega)
  | n + 1, i, m, h => by
    rw [show n + 1 + m = (n + m) + 1 by omega, upB_step, upB_step, upB_ext q n (i + 1) m fun k h1 h2 => h k (by omega) (by omega)]
theorem upB_le {q : Nat → Bool} : ∀ {n i k : Nat}, upB q i n = some k → i ≤ k ∧ k < i + n ∧ q k = true
  | 0, i, k, h => by cases h
  | n + 1, i, k, h => by
    rw [upB_step] at h
    by_cases hq : q i = true
    · rw [if_pos hq] at h
      cases h
      exact ⟨Nat.le_refl _, by omega, hq⟩
    · rw [if_neg hq] at h
      obtain ⟨h1, h2, h3⟩ := upB_le h
      exact ⟨by omega, by omega, h3⟩
theorem upF_map {F : Nat → Option Caps} {q : Nat → Bool} {f : Nat → Caps} : ∀ (n i : Nat), (∀ k, i ≤ k → k < i + n → F k = if q k = true then some (f k) else none) → upF F i n = (upB q i n).map f
  | 0, _, _ => rfl
  | n + 1, i, h => by
    rw [upB_step]
    unfold upF
    rw [h i (Nat.le_refl _) (by omega)]
    by_cases hq : q i = true
    · rw [if_pos hq, if_pos hq]; rfl
    · rw [if_neg hq, if_neg hq]
      exact upF_map n (i + 1) fun k h1 h2 => h k (by omega) (by omega)
/-- Where a text is found first. -/
theorem lt_first {T s : List UInt8} (hs : s ≠ []) : firstF (longP T (LT s)) T.length 0 = (upB (here T s) 0 (T.length + 1 - s.length)).map fun k => nones.set 0 (some (k, k + s.length)) := by
  have hl : 0 < s.length := List.length_pos_iff.2 hs
  have h0 : ∀ k, T.length < k + s.length → here T s k = false := fun k hk => by
    unfold here
    rw [decide_eq_false_iff_not]
    intro e
    have := congrArg List.length e
    rw [List.length_take, List.length_drop] at this
    omega
  unfold firstF
  rw [upF_map (q := here T s) (f := fun k => nones.set 0 (some (k, k + s.length))) _ _ fun k h1 h2 => by
    rw [lt_long hs (by omega)]
    by_cases hh : here T s k = true
    · have : k + s.length ≤ T.length := by
        rcases Nat.lt_or_ge T.length (k + s.length) with q | q
        · rw [h0 k q] at hh; cases hh
        · exact q
      rw [if_pos ⟨this, hh⟩, if_pos hh]
    · rw [if_neg (fun q => hh q.2), if_neg hh]]
  congr 1
  obtain ⟨d, hd⟩ : ∃ d, T.length + 1 - 0 = (T.length + 1 - s.length) + d := ⟨T.length + 1 - (T.length + 1 - s.length), by omega⟩
  rw [hd]
  exact upB_ext _ _ _ _ fun k h1 h2 => h0 k (by omega)
end Go.Proofs.YthpiapemjadgdaaGreatDoor.Mt
