/- Lists of texts: what trans and its reference compute: plain functions. -/
import Derived.Lib.Strings
import Derived.Lib.UnsafeStr
import Derived.Lib.Bytealg
namespace Go.Proofs.YtpgglnibfojdgaaGreatDoor.Tr
set_option linter.unusedVariables false
set_option linter.unusedSimpArgs false

def shortL : List UInt8 := [97, 98, 116, 110, 118, 102, 114]
/-- How a byte is listed. -/
def pieceL (c : UInt8) : List UInt8 :=
  if c = 92 then [92, 92]
  else if 7 ≤ c.toNat ∧ c.toNat ≤ 13 then [92, shortL.getD (c.toNat - 7) 0]
  else if c.toNat < 32 ∨ 126 < c.toNat then [92, UInt8.ofNat (48 + c.toNat / 64), UInt8.ofNat (48 + c.toNat / 8 % 8), UInt8.ofNat (48 + c.toNat % 8)]
  else [c]
theorem every {p : UInt8 → Prop} (h : ∀ n, n < 256 → p (UInt8.ofNat n)) (c : UInt8) : p c := by
  have := h c.toNat (UInt8.toNat_lt c)
  rwa [UInt8.ofNat_toNat] at this
theorem piece_len (c : UInt8) : 1 ≤ (pieceL c).length ∧ (pieceL c).length ≤ 4 := by
  unfold pieceL
  split
  · decide
  · split
    · simp
    · split <;> simp
/-- One byte more: what is out, and how long the line is. -/
def stepL (width : Int) (st : List UInt8 × Nat) (p : List UInt8) : List UInt8 × Nat :=
  if 1 < width ∧ 0 < st.2 ∧ width ≤ ((st.2 + p.length : Nat) : Int) then (st.1 ++ [92, 10] ++ p, p.length) else (st.1 ++ p, st.2 + p.length)
def runL (width : Int) (s : List UInt8) (st : List UInt8 × Nat) : List UInt8 × Nat := s.foldl (fun st c => stepL width st (pieceL c)) st
def listL (s : List UInt8) (width : Int) : List UInt8 := (runL width s ([], 0)).1 ++ [36, 10]
theorem runL_take {width : Int} {s : List UInt8} {st : List UInt8 × Nat} {k : Nat} (h : k < s.length) : runL width (s.take (k + 1)) st = stepL width (runL width (s.take k) st) (pieceL s[k]) := by
  unfold runL
  rw [List.take_succ_eq_append_getElem h, List.foldl_append]
  rfl
theorem stepL_len (width : Int) (st : List UInt8 × Nat) (p : List UInt8) (h : p.length ≤ 4) : (stepL width st p).1.length ≤ st.1.length + 6 ∧ (stepL width st p).2 ≤ st.2 + 4 := by
  unfold stepL
  split
  · simp; omega
  · simp; omega
theorem runL_len (width : Int) (s : List UInt8) : ∀ st : List UInt8 × Nat, (runL width s st).1.length ≤ st.1.length + 6 * s.length ∧ (runL width s st).2 ≤ st.2 + 4 * s.length := by
  induction s with
  | nil => intro st; simp [runL]
  | cons c r ih =>
    intro st
    have h1 := stepL_len width st (pieceL c) (piece_len c).2
    have h2 := ih (stepL width st (pieceL c))
    have e : runL width (c :: r) st = runL width r (stepL width st (pieceL c)) := rfl
    rw [e]
    simp only [List.length_cons]
    omega
theorem listL_len (s : List UInt8) (width : Int) : (listL s width).length ≤ 6 * s.length + 2 ∧ 2 ≤ (listL s width).length := by
  have := (runL_len width s ([], 0)).1
  unfold listL
  simp at this ⊢
  omega
/-- What stands for a text in a list, from a line that is so long. -/
def bodyL (width : Int) : Nat → List UInt8 → List UInt8
  | _, [] => []
  | line, c :: r => if 1 < width ∧ 0 < line ∧ width ≤ ((line + (pieceL c).length : Nat) : Int) then [92, 10] ++ (pieceL c ++ bodyL width (pieceL c).length r)
    else pieceL c ++ bodyL width (line + (pieceL c).length) r
theorem runL_body (width : Int) (s : List UInt8) : ∀ out line, (runL width s (out, line)).1 = out ++ bodyL width line s := by
  induction s with
  | nil => intro out line; simp [runL, bodyL]
  | cons c r ih =>
    intro out line
    have e : runL width (c :: r) (out, line) = runL width r (stepL width (out, line) (pieceL c)) := rfl
    rw [e]
    unfold bodyL stepL
    simp only
    split
    · rw [ih]; simp
    · rw [ih]; simp
theorem listL_body (s : List UInt8) (width : Int) : listL s width = bodyL width 0 s ++ [36, 10] := by
  unfold listL; rw [runL_body]; simp

/-! ### No width -/
theorem body_none {width : Int} (h : ¬ 1 < width) (s : List UInt8) : ∀ line, bodyL width line s = s.flatMap pieceL := by
  induction s with
  | nil => intro line; rfl
  | cons c r ih =>
    intro line
    unfold bodyL
    rw [if_neg (fun q => h q.1), ih]; simp
theorem list_none {width : Int} (h : ¬ 1 < width) (s : List UInt8) : listL s width = s.flatMap pieceL ++ [36, 10] := by
  rw [listL_body, body_none h]
theorem list_two (s t : List UInt8) : listL (s ++ t) 0 = (listL s 0).take ((listL s 0).length - 2) ++ listL t 0 := by
  rw [list_none (by omega), list_none (by omega), list_none (by omega)]
  have e : (List.flatMap pieceL s ++ [36, 10]).length - 2 = (List.flatMap pieceL s).length := by simp
  rw [e, List.take_left]
  simp

/-! ### Lines -/
/-- Goes through a list, byte by byte: how long the last line is. -/
def chk (w : Nat) : Nat → List UInt8 → Option Nat
  | line, [] => some line
  | line, c :: r => if c = 10 then (if 2 ≤ w ∧ w < line ∧ 5 < line then none else chk w 0 r) else if c.toNat < 32 ∨ 126 < c.toNat then none else chk w (line + 1) r
theorem chk_append (w : Nat) (x y : List UInt8) : ∀ line, chk w line (x ++ y) = (chk w line x).bind fun n => chk w n y := by
  induction x with
  | nil => intro line; rfl
  | cons c r ih =>
    intro line
    simp only [List.cons_append, chk]
    split
    · split
      · rfl
      · exact ih 0
    · split
      · rfl
      · exact ih _
theorem piece_plain (c : UInt8) : ∀ b ∈ pieceL c, b ≠ 10 ∧ 32 ≤ b.toNat ∧ b.toNat ≤ 126 :=
  every (p := fun c => ∀ b ∈ pieceL c, b ≠ 10 ∧ 32 ≤ b.toNat ∧ b.toNat ≤ 126) (by decide +kernel) c
theorem chk_plain (w : Nat) : ∀ (p : List UInt8) (line : Nat), (∀ b ∈ p, b ≠ 10 ∧ 32 ≤ b.toNat ∧ b.toNat ≤ 126) → chk w line p = some (line + p.length)
  | [], line, _ => rfl
  | c :: r, line, h => by
    obtain ⟨h1, h2, h3⟩ := h c (by simp)
    simp only [chk]
    rw [if_neg h1, if_neg (by omega), chk_plain w r (line + 1) (fun b hb => h b (by simp [hb]))]
    simp; omega
theorem chk_body (w : Nat) : ∀ (s : List UInt8) (line : Nat), (2 ≤ w → line + 1 ≤ w ∨ line ≤ 4) → ∃ n, chk w line (bodyL (w : Int) line s) = some n ∧ (2 ≤ w → n + 1 ≤ w ∨ n ≤ 4)
  | [], line, h => ⟨line, rfl, h⟩
  | c :: r, line, h => by
    have hp := piece_len c
    unfold bodyL
    split
    · obtain ⟨n, hn, hb⟩ := chk_body w r (pieceL c).length (fun _ => Or.inr hp.2)
      refine ⟨n, ?_, hb⟩
      simp only [List.cons_append, List.nil_append, chk]
      rw [if_neg (by decide), if_neg (by decide), if_pos trivial, if_neg (by intro q; have := h q.1; omega), chk_append, chk_plain w _ 0 (piece_plain c)]
      simpa using hn
    · rename_i hc
      obtain ⟨n, hn, hb⟩ := chk_body w r (line + (pieceL c).length) (fun h2 => by
        by_cases h0 : 0 < line
        · left; omega
        · right; omega)
      refine ⟨n, ?_, hb⟩
      rw [chk_append, chk_plain w _ line (piece_plain c)]
      exact hn
theorem chk_list (w : Nat) (s : List UInt8) : chk w 0 (listL s (w : Int)) = some 0 := by
  obtain ⟨n, hn, hb⟩ := chk_body w s 0 (fun _ => Or.inr (by omega))
  rw [listL_body, chk_append, hn]
  show chk w n [36, 10] = some 0
  simp only [chk]
  rw [if_neg (by decide), if_neg (by decide), if_pos trivial, if_neg (by intro q; have := hb q.1; omega)]

/-! ### Back -/
/-- What three digits spell. -/
def oct (acc : Nat) : List UInt8 → Option Nat
  | [] => some acc
  | d :: r => if 48 ≤ d.toNat ∧ d.toNat ≤ 55 then (if acc * 8 + (d.toNat - 48) ≤ 255 then oct (acc * 8 + (d.toNat - 48)) r else none) else none
theorem oct_le : ∀ (l : List UInt8) (acc x : Nat), acc ≤ 255 → oct acc l = some x → x ≤ 255
  | [], acc, x, h, e => by simp [oct] at e; omega
  | d :: r, acc, x, h, e => by
    simp only [oct] at e
    split at e
    · split at e
      · rename_i h2; exact oct_le r _ x h2 e
      · cases e
    · cases e
/-- The byte that a list begins with, and how many bytes it takes. -/
def oneL (l : List UInt8) : UInt8 × Nat := match l with
  | [] => (0, 1)
  | [c] => (c, 1)
  | c :: d :: r =>
    if c = 92 then
      (if Go.Lib.indexByte shortL d < 0 then (match oct 0 ((d :: r).take 3) with
        | some x => if 2 ≤ r.length then (UInt8.ofNat x, 4) else (92, 2)
        | none => (92, 2))
      else (UInt8.ofNat (7 + (Go.Lib.indexByte shortL d).toNat), 2))
    else (c, 1)
theorem oneL_pos (l : List UInt8) : 1 ≤ (oneL l).2 := by
  unfold oneL
  split
  · exact Nat.le_refl _
  · exact Nat.le_refl _
  · split
    · split
      · split
        · split <;> simp
        · simp
      · simp
    · exact Nat.le_refl _
/-- Which bytes a list tells. -/
def decP (l : List UInt8) : List UInt8 :=
  if h : l = [] then [] else if l.take 2 = [92, 10] then decP (l.drop 2) else (oneL l).1 :: decP (l.drop (oneL l).2)
termination_by l.length
decreasing_by
  · have := List.length_pos_iff.2 h; simp; omega
  · have := List.length_pos_iff.2 h; have := oneL_pos l; simp; omega
theorem decP_nil : decP [] = [] := by rw [decP]; rfl
theorem decP_fold (x : List UInt8) : decP (92 :: 10 :: x) = decP x := by
  rw [decP, dif_neg (by simp), if_pos (by simp)]; rfl
theorem one_piece (c : UInt8) (x : List UInt8) : oneL (pieceL c ++ x) = (c, (pieceL c).length) ∧ (pieceL c ++ x).take 2 ≠ [92, 10] := by
  have k1 : ∀ c : UInt8, 7 ≤ c.toNat ∧ c.toNat ≤ 13 → Go.Lib.indexByte shortL (shortL.getD (c.toNat - 7) 0) = (c.toNat - 7 : Nat) ∧ shortL.getD (c.toNat - 7) 0 ≠ 10 ∧ 7 + (c.toNat - 7) = c.toNat :=
    fun c => every (p := fun c => 7 ≤ c.toNat ∧ c.toNat ≤ 13 → Go.Lib.indexByte shortL (shortL.getD (c.toNat - 7) 0) = (c.toNat - 7 : Nat) ∧ shortL.getD (c.toNat - 7) 0 ≠ 10 ∧ 7 + (c.toNat - 7) = c.toNat) (by decide +kernel) c
  have k2 : ∀ c : UInt8, Go.Lib.indexByte shortL (UInt8.ofNat (48 + c.toNat / 64)) < 0 ∧ UInt8.ofNat (48 + c.toNat / 64) ≠ 10 ∧ oct 0 [UInt8.ofNat (48 + c.toNat / 64), UInt8.ofNat (48 + c.toNat / 8 % 8), UInt8.ofNat (48 + c.toNat % 8)] = some c.toNat :=
    fun c => every (p := fun c => Go.Lib.indexByte shortL (UInt8.ofNat (48 + c.toNat / 64)) < 0 ∧ UInt8.ofNat (48 + c.toNat / 64) ≠ 10 ∧ oct 0 [UInt8.ofNat (48 + c.toNat / 64), UInt8.ofNat (48 + c.toNat / 8 % 8), UInt8.ofNat (48 + c.toNat % 8)] = some c.toNat) (by decide +kernel) c
  unfold pieceL
  split
  · rename_i h
    subst h
    refine ⟨?_, by simp⟩
    simp only [List.cons_append, List.nil_append, oneL]
    rw [if_pos trivial, if_pos (by decide)]
    simp [oct]
  · rename_i h
    split
    · rename_i h2
      obtain ⟨a1, a2, a3⟩ := k1 c h2
      refine ⟨?_, fun e => a2 (by
        have := congrArg (fun z => z[1]?) e
        simp only [List.cons_append, List.nil_append, List.take_succ_cons, List.take_zero, List.getElem?_cons_succ, List.getElem?_cons_zero] at this
        exact Option.some.inj this)⟩
      simp only [List.cons_append, List.nil_append, oneL]
      rw [if_pos trivial, a1, if_neg (by omega)]
      simp only [Int.toNat_natCast, a3, UInt8.ofNat_toNat, List.length_cons, List.length_nil]
    · split
      · obtain ⟨a1, a2, a3⟩ := k2 c
        refine ⟨?_, fun e => a2 (by
          have := congrArg (fun z => z[1]?) e
          simp only [List.cons_append, List.nil_append, List.take_succ_cons, List.take_zero, List.getElem?_cons_succ, List.getElem?_cons_zero] at this
          exact Option.some.inj this)⟩
        simp only [List.cons_append, List.nil_append, oneL]
        rw [if_pos trivial, if_pos a1]
        simp only [List.take_succ_cons, List.take_zero, a3]
        rw [if_pos (by simp)]
        simp
      · refine ⟨?_, by simp [h]⟩
        simp only [List.cons_append, List.nil_append, List.length_cons, List.length_nil]
        cases x with
        | nil => rfl
        | cons d r => simp only [oneL]; rw [if_neg h]
theorem decP_piece (c : UInt8) (x : List UInt8) : decP (pieceL c ++ x) = c :: decP x := by
  obtain ⟨h1, h2⟩ := one_piece c x
  have h0 : pieceL c ++ x ≠ [] := by
    intro e
    have h3 := congrArg List.length e
    have h4 := (piece_len c).1
    rw [List.length_append, List.length_nil] at h3
    omega
  rw [decP, dif_neg h0, if_neg h2, h1]
  simp
theorem decP_body (width : Int) (s : List UInt8) : ∀ line, decP (bodyL width line s) = s := by
  induction s with
  | nil => intro line; exact decP_nil
  | cons c r ih =>
    intro line
    unfold bodyL
    split
    · rw [List.cons_append, List.cons_append, List.nil_append, decP_fold, decP_piece, ih]
    · rw [decP_piece, ih]
/-- The first byte whose piece begins a list. -/
def firstL (l : List UInt8) : Option Nat := (List.range 256).find? fun n => (pieceL (UInt8.ofNat n)).isPrefixOf l
theorem free_all : ((List.range 256).all fun b => (List.range 256).all fun c => b == c || !(pieceL (UInt8.ofNat b)).isPrefixOf (pieceL (UInt8.ofNat c))) = true := by decide +kernel
theorem free (b c : Nat) (hb : b < 256) (hc : c < 256) (h : b ≠ c) : (pieceL (UInt8.ofNat b)).isPrefixOf (pieceL (UInt8.ofNat c)) = false := by
  have h1 := List.all_eq_true.1 free_all b (List.mem_range.2 hb)
  have h2 := List.all_eq_true.1 h1 c (List.mem_range.2 hc)
  simpa [h] using h2
theorem first_piece (c : UInt8) (x : List UInt8) : firstL (pieceL c ++ x) = some c.toNat := by
  have hc := UInt8.toNat_lt c
  unfold firstL
  rw [List.find?_range_eq_some]
  have key : ∀ n, n < 256 → (pieceL (UInt8.ofNat n)).isPrefixOf (pieceL c ++ x) = true → n = c.toNat := by
    intro n hn h
    have h1 : pieceL (UInt8.ofNat n) <+: pieceL c ++ x := List.isPrefixOf_iff_prefix.1 h
    have h2 : pieceL c <+: pieceL c ++ x := List.prefix_append _ _
    by_cases e : n = c.toNat
    · exact e
    · exfalso
      rcases List.prefix_or_prefix_of_prefix h1 h2 with q | q
      · have := free n c.toNat hn hc e
        rw [UInt8.ofNat_toNat, List.isPrefixOf_iff_prefix.2 q] at this
        cases this
      · have := free c.toNat n hc hn (Ne.symm e)
        rw [UInt8.ofNat_toNat, List.isPrefixOf_iff_prefix.2 q] at this
        cases this
  refine ⟨?_, List.mem_range.2 hc, ?_⟩
  · rw [UInt8.ofNat_toNat]
    exact List.isPrefixOf_iff_prefix.2 (List.prefix_append _ _)
  · intro j hj
    cases hp : (pieceL (UInt8.ofNat j)).isPrefixOf (pieceL c ++ x)
    · rfl
    · have := key j (by omega) hp
      omega
def decR (l : List UInt8) : Option (List UInt8) :=
  if h : l.length ≤ 2 then some [] else if l.take 2 = [92, 10] then decR (l.drop 2) else
    match firstL l with
    | none => none
    | some n => (decR (l.drop (pieceL (UInt8.ofNat n)).length)).map (UInt8.ofNat n :: ·)
termination_by l.length
decreasing_by
  · simp; omega
  · have := (piece_len (UInt8.ofNat n)).1; simp; omega
theorem decR_short {l : List UInt8} (h : l.length ≤ 2) : decR l = some [] := by rw [decR, dif_pos h]
theorem decR_fold {x : List UInt8} (h : 0 < x.length) : decR (92 :: 10 :: x) = decR x := by
  rw [decR, dif_neg (by simp only [List.length_cons]; omega), if_pos (by simp)]; rfl
theorem decR_piece (c : UInt8) {x : List UInt8} (h : 2 ≤ x.length) : decR (pieceL c ++ x) = (decR x).map (c :: ·) := by
  obtain ⟨_, h2⟩ := one_piece c x
  have hp := (piece_len c).1
  rw [decR, dif_neg (by simp; omega), if_neg h2, first_piece]
  simp
theorem decR_body (width : Int) (s : List UInt8) : ∀ line, decR (bodyL width line s ++ [36, 10]) = some s := by
  induction s with
  | nil => intro line; exact decR_short (by simp [bodyL])
  | cons c r ih =>
    intro line
    unfold bodyL
    split
    · rw [List.append_assoc, List.append_assoc, List.cons_append, List.cons_append, List.nil_append, decR_fold (by simp only [List.length_append, List.length_cons]; omega), decR_piece c (by simp), ih]; rfl
    · rw [List.append_assoc, decR_piece c (by simp), ih]; rfl
/-- Whether a text is listed so, by any width. -/
def okL (t s : List UInt8) : Bool := (List.range 301).any fun w => listL t (w : Int) == s
def backP (s : List UInt8) : List UInt8 × Int := if Go.Lib.hasSuffix s [36, 10] then (if okL (decP (s.take (s.length - 2))) s then (decP (s.take (s.length - 2)), 0) else ([], 1)) else ([], 1)
def backR (s : List UInt8) : List UInt8 × Int := match decR s with
  | none => ([], 1)
  | some t => if okL t s then (t, 0) else ([], 1)
theorem ok_dec {t s : List UInt8} (h : okL t s = true) : Go.Lib.hasSuffix s [36, 10] = true ∧ decP (s.take (s.length - 2)) = t ∧ decR s = some t := by
  unfold okL at h
  rw [List.any_eq_true] at h
  obtain ⟨w, _, hw⟩ := h
  have e : listL t (w : Int) = s := by simpa using hw
  rw [listL_body] at e
  subst e
  refine ⟨?_, ?_, decR_body _ t 0⟩
  · unfold Go.Lib.hasSuffix
    rw [List.isSuffixOf_iff_suffix]
    exact ⟨_, rfl⟩
  · have : (bodyL (w : Int) 0 t ++ [36, 10]).length - 2 = (bodyL (w : Int) 0 t).length := by simp
    rw [this, List.take_left, decP_body]
theorem back_same (s : List UInt8) : backP s = backR s := by
  unfold backP backR
  cases h1 : okL (decP (s.take (s.length - 2))) s
  · cases h2 : decR s with
    | none => simp
    | some t =>
      cases h3 : okL t s
      · simp [h3]
      · exfalso
        obtain ⟨_, e, _⟩ := ok_dec h3
        rw [e, h3] at h1
        cases h1
  · obtain ⟨e1, e2, e3⟩ := ok_dec h1
    rw [e1, e3]
    simp [h1]
end Go.Proofs.YtpgglnibfojdgaaGreatDoor.Tr
