/- What the package piece and its reference compute, on lists of bytes: plain functions. -/
import Derived.Lib.Strings
import Derived.Lib.UnsafeStr
namespace Go.Proofs.YtiaiipmocamofaaGreatDoor.Pc
set_option linter.unusedVariables false
set_option linter.unusedSimpArgs false

/-- A text, byte by byte, but a backslash together with the byte behind it: how far one comes, and with what. -/
def pairsL {α : Type} (step : α → List UInt8 → Option α) : List UInt8 → α → Nat × α
  | [], a => (0, a)
  | [c], a => match step a [c] with
    | none => (0, a)
    | some a' => (1, a')
  | c :: d :: r, a =>
    if c = 92 then
      match step a [c, d] with
      | none => (0, a)
      | some a' => ((pairsL step r a').1 + 2, (pairsL step r a').2)
    else
      match step a [c] with
      | none => (0, a)
      | some a' => ((pairsL step (d :: r) a').1 + 1, (pairsL step (d :: r) a').2)

/-- How many bytes are taken together. -/
def width (l : List UInt8) : Nat := match l with
  | c :: _ :: _ => if c = 92 then 2 else 1
  | _ => 1

theorem pairsL_step {α : Type} (step : α → List UInt8 → Option α) (l : List UInt8) (a : α) (h : l ≠ []) :
    pairsL step l a = match step a (l.take (width l)) with
      | none => (0, a)
      | some a' => ((pairsL step (l.drop (width l)) a').1 + width l, (pairsL step (l.drop (width l)) a').2) := by
  match l, h with
  | [c], _ =>
    simp only [pairsL, width, List.take, List.drop]
  | c :: d :: r, _ =>
    simp only [pairsL, width]
    by_cases hc : c = 92
    · simp only [hc, if_true, List.take, List.drop]
    · simp only [hc, if_false, List.take, List.drop]
theorem width_le {l : List UInt8} (h : l ≠ []) : width l ≤ l.length ∧ 1 ≤ width l ∧ width l ≤ 2 := by
  match l, h with
  | [c], _ => simp [width]
  | c :: d :: r, _ => unfold width; simp only; split <;> simp
theorem pairsL_le {α : Type} (step : α → List UInt8 → Option α) : ∀ (n : Nat) (l : List UInt8) (a : α), l.length ≤ n → (pairsL step l a).1 ≤ l.length
  | 0, [], a, _ => by simp [pairsL]
  | n + 1, [], a, _ => by simp [pairsL]
  | n + 1, c :: r, a, h => by
    rw [pairsL_step step (c :: r) a (by simp)]
    have hw := width_le (l := c :: r) (by simp)
    split
    · simp
    · rename_i a' _
      have := pairsL_le step n ((c :: r).drop (width (c :: r))) a' (by simp at h ⊢; omega)
      simp only [List.length_drop] at this ⊢
      have := width_le (l := c :: r) (by simp)
      omega

/-- A place, and what is left from there. -/
def fromL (n : Nat) (at_ : Int) : Nat := if at_ < 0 ∨ (n : Int) < at_ then n else at_.toNat
theorem fromL_le (n : Nat) (at_ : Int) : fromL n at_ ≤ n := by unfold fromL; split <;> omega

def takeStep (d : UInt8) (acc : List UInt8) (one : List UInt8) : Option (List UInt8) :=
  if (one == [d] || one == [10] || one == [92]) then none else some (acc ++ if one == [92, d] then [d] else one)
def giveStep (d : UInt8) (acc : List UInt8) (one : List UInt8) : Option (List UInt8) :=
  if (one == [10] || one == [92] || one == [92, d]) then none else some (acc ++ if one == [d] then [92, d] else one)
def textStep (acc : List UInt8) (one : List UInt8) : Option (List UInt8) :=
  if (one == [10] || one == [92]) then none else some (acc ++ one.drop (one.length - 1))

theorem width_drop {l : List UInt8} {k : Nat} (h : k < l.length) : width (l.drop k) = if l[k] = 92 ∧ k + 1 < l.length then 2 else 1 := by
  rw [List.drop_eq_getElem_cons h]
  by_cases h2 : k + 1 < l.length
  · rw [List.drop_eq_getElem_cons h2]
    simp only [width, h2, and_true]
  · rw [List.drop_of_length_le (by omega)]
    simp [width, h2]
theorem extract_take (l : List UInt8) (k n : Nat) : (⟨l.toArray⟩ : ByteArray).extract k (k + n) = ⟨((l.drop k).take n).toArray⟩ := by
  rw [Go.Lib.extract_eq]; simp

/-- What Take answers: the text, where it ends, and the error's number. -/
def takeL (l : List UInt8) (at_ : Int) (d : UInt8) : List UInt8 × Nat × Int :=
  if d = 92 ∨ d = 10 then ([], fromL l.length at_, 120)
  else
    let rest := l.drop (fromL l.length at_)
    let r := pairsL (takeStep d) rest []
    if Go.Lib.hasPrefix (rest.drop r.1) [d] then (r.2, fromL l.length at_ + r.1 + 1, 0) else ([], fromL l.length at_, 120)
/-- What Give answers. -/
def giveL (l : List UInt8) (d : UInt8) : List UInt8 × Int :=
  let r := pairsL (giveStep d) l []
  if r.1 < l.length ∨ d = 92 ∨ d = 10 then ([], 1) else (r.2, 0)
/-- What Text answers. -/
def textL (l : List UInt8) (at_ : Int) : List UInt8 × Nat × Int :=
  let rest := l.drop (fromL l.length at_)
  let r := pairsL textStep rest []
  if Go.Lib.hasPrefix (rest.drop r.1) [92] then ([], fromL l.length at_, 120)
  else (r.2 ++ [10], fromL l.length at_ + (if r.1 < rest.length then r.1 + 1 else r.1), 0)
theorem extract_end (l : List UInt8) (k : Nat) : (⟨l.toArray⟩ : ByteArray).extract k l.length = ⟨(l.drop k).toArray⟩ := by
  rw [Go.Lib.extract_eq]
  congr 2
  exact List.take_of_length_le (by simp)
theorem pairsL_len {step : List UInt8 → List UInt8 → Option (List UInt8)} (hs : ∀ acc one acc', one ≠ [] → step acc one = some acc' → acc'.length ≤ acc.length + 2 * one.length) :
    ∀ (n : Nat) (l acc : List UInt8), l.length ≤ n → (pairsL step l acc).2.length ≤ acc.length + 2 * l.length
  | 0, [], acc, _ => by simp [pairsL]
  | n + 1, [], acc, _ => by simp [pairsL]
  | n + 1, c :: r, acc, h => by
    rw [pairsL_step step (c :: r) acc (by simp)]
    have hw := width_le (l := c :: r) (by simp)
    split
    · simp
    · rename_i a' ha
      have h1 := pairsL_len hs n ((c :: r).drop (width (c :: r))) a' (by simp at h ⊢; omega)
      have h2 := hs _ _ _ (by intro h; have := congrArg List.length h; simp only [List.length_take, List.length_nil] at this; omega) ha
      simp only [List.length_drop, List.length_take] at h1 h2 ⊢
      omega

/-! ### The reference -/
/-- The reference's Take from a place on, with what is out: what is taken, and how many bytes on. -/
def rtk (d : UInt8) : List UInt8 → List UInt8 → Option (List UInt8 × Nat)
  | [], _ => none
  | [c], out => if c = d then some (out, 1) else if c = 10 ∨ c = 92 then none else none
  | c :: e :: r, out =>
    if c = d then some (out, 1)
    else if c = 10 then none
    else if c = 92 then (rtk d r (out ++ if e = d then [e] else [c, e])).map fun x => (x.1, x.2 + 2)
    else (rtk d (e :: r) (out ++ [c])).map fun x => (x.1, x.2 + 1)
def rtakeL (l : List UInt8) (at_ : Int) (d : UInt8) : List UInt8 × Nat × Int :=
  if d = 92 ∨ d = 10 then ([], fromL l.length at_, 120)
  else match rtk d (l.drop (fromL l.length at_)) [] with
    | none => ([], fromL l.length at_, 120)
    | some x => (x.1, fromL l.length at_ + x.2, 0)

theorem hasPrefix_one (l : List UInt8) (d : UInt8) : Go.Lib.hasPrefix l [d] = match l with | [] => false | c :: _ => c == d := by
  cases l with
  | nil => simp [Go.Lib.hasPrefix]
  | cons c r => 
    simp only [Go.Lib.hasPrefix, List.isPrefixOf, Bool.and_true]
    exact Bool.eq_iff_iff.2 (by rw [beq_iff_eq, beq_iff_eq]; exact eq_comm)

/-- The program's Take and the reference's. -/
theorem take_rtk (d : UInt8) (h1 : d ≠ 92) (h2 : d ≠ 10) : ∀ (n : Nat) (l acc : List UInt8), l.length ≤ n →
    (if Go.Lib.hasPrefix (l.drop (pairsL (takeStep d) l acc).1) [d] then some ((pairsL (takeStep d) l acc).2, (pairsL (takeStep d) l acc).1 + 1) else none) = rtk d l acc
  | 0, [], acc, _ => by simp [pairsL, rtk, Go.Lib.hasPrefix]
  | n + 1, [], acc, _ => by simp [pairsL, rtk, Go.Lib.hasPrefix]
  | n + 1, [c], acc, _ => by
    by_cases hd : c = d
    · subst hd; simp [pairsL, rtk, takeStep, hasPrefix_one]
    · by_cases ha : c = 10
      · simp [pairsL, rtk, takeStep, hasPrefix_one, hd, ha, Ne.symm h2]
      · by_cases hb : c = 92
        · simp [pairsL, rtk, takeStep, hasPrefix_one, hd, ha, hb, Ne.symm h1]
        · simp [pairsL, rtk, takeStep, hasPrefix_one, hd, ha, hb]
  | n + 1, c :: e :: r, acc, h => by
    by_cases hd : c = d
    · subst hd; simp [pairsL, rtk, takeStep, hasPrefix_one, h1]
    · by_cases ha : c = 10
      · subst ha; simp [pairsL, rtk, takeStep, hasPrefix_one, hd]
      · by_cases hb : c = 92
        · subst hb
          have ih := take_rtk d h1 h2 n r (acc ++ if e = d then [e] else [92, e]) (by simp at h ⊢; omega)
          have e0 : takeStep d acc [92, e] = some (acc ++ if e = d then [e] else [92, e]) := by
            simp [takeStep]
            by_cases he : e = d <;> simp [he]
          simp only [pairsL, if_true, e0, rtk, hd, if_false, ← ih]
          simp only [show (92 : UInt8) ≠ 10 from by decide, if_false, List.drop_succ_cons]
          split <;> simp
        · have ih := take_rtk d h1 h2 n (e :: r) (acc ++ [c]) (by simp at h ⊢; omega)
          have e0 : takeStep d acc [c] = some (acc ++ [c]) := by simp [takeStep, hd, ha, hb]
          simp only [pairsL, hb, if_false, e0, rtk, hd, ha, ← ih]
          simp only [List.drop_succ_cons]
          split <;> simp
theorem take_same (l : List UInt8) (at_ : Int) (d : UInt8) : takeL l at_ d = rtakeL l at_ d := by
  unfold takeL rtakeL
  by_cases h : d = 92 ∨ d = 10
  · rw [if_pos h, if_pos h]
  · rw [if_neg h, if_neg h, ← take_rtk d (fun e => h (Or.inl e)) (fun e => h (Or.inr e)) _ _ [] (Nat.le_refl _)]
    simp only
    split <;> simp <;> omega

/-- The reference's Give, without the look whether it is taken so. -/
def rgv (d : UInt8) : List UInt8 → List UInt8
  | [] => []
  | [c] => (if c = d then [92] else []) ++ [c]
  | c :: e :: r => (if c = d then [92] else []) ++ (if c = 92 then c :: e :: rgv d r else c :: rgv d (e :: r))
def rgiveL (l : List UInt8) (d : UInt8) : List UInt8 × Int :=
  let o := rgv d l
  let t := rtakeL (o ++ [d]) 0 d
  if t.2.2 ≠ 0 ∨ t.1 ≠ l ∨ t.2.1 ≠ o.length + 1 then ([], 1) else (o, 0)
end Go.Proofs.YtiaiipmocamofaaGreatDoor.Pc
