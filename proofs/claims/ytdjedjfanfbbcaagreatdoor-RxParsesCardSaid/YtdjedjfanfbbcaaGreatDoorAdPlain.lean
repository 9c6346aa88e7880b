/- Addresses: what addr and its reference compute: plain functions. -/
import Derived.Lib.AtoiTie
import Derived.Lib.AtoiAllCases
import Derived.Lib.ItoaMem
import Derived.Lib.ItoaLen
import Derived.Lib.IndexMore
import Derived.Lib.Strings
import Derived.Lib.TrimByte
namespace Go.Proofs.YtdjedjfanfbbcaaGreatDoor.Ad
set_option linter.unusedVariables false
set_option linter.unusedSimpArgs false
/-- An address: its kind, N and M. -/
structure A3 where
  k : Int
  n : Int
  m : Int
  deriving DecidableEq, Repr
def One (a : A3) : Prop :=
  ((a.k = 0 ∨ a.k = 2) ∧ a.n = 0 ∧ a.m = 0) ∨ ((a.k = 1 ∨ a.k = 5 ∨ a.k = 6) ∧ 0 ≤ a.n ∧ a.n ≤ 999999999 ∧ a.m = 0) ∨
  (a.k = 3 ∧ 0 ≤ a.n ∧ a.n ≤ 999999999 ∧ 0 ≤ a.m ∧ a.m ≤ 999999999) ∨ (a.k = 4 ∧ 0 ≤ a.n ∧ a.n ≤ 999 ∧ a.m = 0)
instance (a : A3) : Decidable (One a) := by unfold One; infer_instance
def May (a b : A3) : Prop := One a ∧ One b ∧ a.k ≤ 4 ∧ b.k ≠ 3 ∧ (a.k = 0 → b.k = 0) ∧ (a.k = 1 → a.n = 0 → b.k = 4)
instance (a b : A3) : Decidable (May a b) := by unfold May; infer_instance
/-- The text of an address. -/
def textA (a : A3) : List UInt8 :=
  if a.k = 1 then Lib.itoa a.n else if a.k = 2 then [36] else if a.k = 3 then Lib.itoa a.n ++ [126] ++ Lib.itoa a.m
  else if a.k = 4 then [47] ++ Lib.itoa a.n ++ [47] else if a.k = 5 then [43] ++ Lib.itoa a.n else if a.k = 6 then [126] ++ Lib.itoa a.n else []
def tailB (b : A3) : List UInt8 := if b.k = 0 then [] else [44] ++ textA b
def tailN (n : Bool) : List UInt8 := if n then [33] else []
def printR (a b : A3) (n : Bool) : List UInt8 × Int := if May a b then (textA a ++ tailB b ++ tailN n, 0) else ([], 1)
/-- What strconv.Atoi hands back as a number. -/
def atoiV (l : List UInt8) : Int := match Lib.atoiAll l with
  | .ok v => v
  | .syntax => 0
  | .range => Lib.atoiSat l
/-- At the first place of a byte. -/
def cutB (c : UInt8) : List UInt8 → List UInt8 × List UInt8 × Bool
  | [] => ([], [], false)
  | b :: r => if b = c then ([], r, true) else (b :: (cutB c r).1, (cutB c r).2.1, (cutB c r).2.2)
theorem index_one (c : UInt8) : ∀ l : List UInt8, (Lib.index l [c] = -1 ∧ (cutB c l).2.2 = false ∧ (cutB c l).1 = l ∧ (cutB c l).2.1 = []) ∨ (0 ≤ Lib.index l [c] ∧ (cutB c l).2.2 = true ∧ (cutB c l).1 = l.take (Lib.index l [c]).toNat ∧ (cutB c l).2.1 = l.drop ((Lib.index l [c]).toNat + 1))
  | [] => by left; simp [Lib.index, cutB]
  | b :: r => by
    unfold Lib.index cutB
    by_cases h : b = c
    · right
      subst h
      simp
    · have h' : ([c].isPrefixOf (b :: r)) = false := by
        simp [List.isPrefixOf]; intro q; exact h q.symm
      rw [h', if_neg h]
      rcases index_one c r with ⟨h1, h2, h3, h4⟩ | ⟨h1, h2, h3, h4⟩
      · left
        rw [h1]
        simp [h2, h3, h4]
      · right
        have hn : (Lib.index r [c] == -1) = false := by rw [beq_eq_false_iff_ne]; omega
        rw [hn]
        have ht : (Lib.index r [c] + 1).toNat = (Lib.index r [c]).toNat + 1 := by omega
        simp only [Bool.false_eq_true, if_false, ht]
        refine ⟨by omega, h2, ?_, ?_⟩
        · rw [h3]; rfl
        · rw [h4]; rfl
theorem cut_one (c : UInt8) (l : List UInt8) : Lib.cut l [c] = cutB c l := by
  unfold Lib.cut
  rcases index_one c l with ⟨h1, h2, h3, h4⟩ | ⟨h1, h2, h3, h4⟩
  · rw [if_neg (by omega)]
    apply Prod.ext
    · exact h3.symm
    · apply Prod.ext
      · exact h4.symm
      · exact h2.symm
  · rw [if_pos h1]
    apply Prod.ext
    · exact h3.symm
    · apply Prod.ext
      · exact h4.symm
      · exact h2.symm
theorem cutB_none {c : UInt8} : ∀ {l : List UInt8}, c ∉ l → cutB c l = (l, [], false)
  | [], _ => rfl
  | b :: r, h => by
    unfold cutB
    rw [if_neg (by rintro rfl; exact h (by simp)), cutB_none (l := r) (fun q => h (by simp [q]))]
theorem cutB_at {c : UInt8} : ∀ {l r : List UInt8}, c ∉ l → cutB c (l ++ c :: r) = (l, r, true)
  | [], r, _ => by simp [cutB]
  | b :: l, r, h => by
    rw [List.cons_append]
    unfold cutB
    rw [if_neg (by rintro rfl; exact h (by simp)), cutB_at (l := l) (fun q => h (by simp [q]))]
/-- A reading, of which it is looked at later whether it is told just so. -/
def readP (s : List UInt8) : A3 :=
  match s with
  | [] => ⟨0, 0, 0⟩
  | c :: r =>
    if c :: r = [36] then ⟨2, atoiV (cutB 126 (c :: r)).1, 0⟩
    else if c = 47 then ⟨4, atoiV (Lib.trimB (c :: r) 47), 0⟩
    else if c = 43 then ⟨5, atoiV r, 0⟩
    else if c = 126 then ⟨6, atoiV (cutB 126 (c :: r)).2.1, 0⟩
    else if (cutB 126 (c :: r)).2.2 then ⟨3, atoiV (cutB 126 (c :: r)).1, atoiV (cutB 126 (c :: r)).2.1⟩
    else ⟨1, atoiV (cutB 126 (c :: r)).1, 0⟩
def stripN (s : List UInt8) : List UInt8 := Lib.trimSuffix s [33]
def parseP (s : List UInt8) : (A3 × A3 × Bool) × Int :=
  let a := readP (cutB 44 (stripN s)).1
  let b := readP (cutB 44 (stripN s)).2.1
  let n := Lib.hasSuffix s [33]
  if (printR a b n).2 = 0 ∧ (printR a b n).1 = s then ((a, b, n), 0) else ((⟨0, 0, 0⟩, ⟨0, 0, 0⟩, false), 121)
def digLoop : List UInt8 → Nat → Option Nat
  | [], n => some n
  | c :: r, n => if c.toNat < 48 ∨ 57 < c.toNat ∨ 999999999 < n then none else digLoop r (n * 10 + (c.toNat - 48))
def digL (s : List UInt8) : Int × Bool := match digLoop s 0 with
  | none => (0, false)
  | some n => ((n : Int), !(s == []) && (Lib.decDigits n == s))
def readR (s : List UInt8) : A3 × Bool :=
  match s with
  | [] => (⟨0, 0, 0⟩, true)
  | c :: r =>
    if c :: r = [36] then (⟨2, 0, 0⟩, true)
    else if (digL (c :: r)).2 then (⟨1, (digL (c :: r)).1, 0⟩, true)
    else if c = 43 then (⟨5, (digL r).1, 0⟩, (digL r).2)
    else if c = 126 then (⟨6, (digL r).1, 0⟩, (digL r).2)
    else if c = 47 then (⟨4, (digL (r.take (r.length - 1))).1, 0⟩, (digL (r.take (r.length - 1))).2 && ((c :: r).getLast? == some 47))
    else if (cutB 126 (c :: r)).2.2 then (⟨3, (digL (cutB 126 (c :: r)).1).1, (digL (cutB 126 (c :: r)).2.1).1⟩, (digL (cutB 126 (c :: r)).1).2 && (digL (cutB 126 (c :: r)).2.1).2)
    else (⟨0, 0, 0⟩, false)
def parseR (s : List UInt8) : (A3 × A3 × Bool) × Int :=
  let a := readR (cutB 44 (stripN s)).1
  let b := readR (cutB 44 (stripN s)).2.1
  let n := Lib.hasSuffix s [33]
  if a.2 = true ∧ b.2 = true ∧ (printR a.1 b.1 n).2 = 0 ∧ (printR a.1 b.1 n).1 = s then ((a.1, b.1, n), 0) else ((⟨0, 0, 0⟩, ⟨0, 0, 0⟩, false), 121)

/-! ### Digits -/
theorem digit_nat {d : Nat} (h : d < 10) : (UInt8.ofNat (48 + d)).toNat = 48 + d := by
  have : (UInt8.ofNat (48 + d)).toNat = (48 + d) % 256 := rfl
  omega
theorem dec_digit (u : Nat) : ∀ c ∈ Lib.decDigits u, 48 ≤ c.toNat ∧ c.toNat ≤ 57 := by
  induction u using Nat.strongRecOn with
  | ind u ih =>
    rw [Lib.decDigits]
    by_cases h : u < 10
    · rw [dif_pos h]
      intro c hc
      have : c = UInt8.ofNat (48 + u) := by simpa using hc
      rw [this, digit_nat h]; omega
    · rw [dif_neg h]
      intro c hc
      rw [List.mem_append, List.mem_singleton] at hc
      rcases hc with hc | rfl
      · exact ih (u / 10) (by omega) c hc
      · rw [digit_nat (by omega)]; omega
theorem dec_ne (u : Nat) : ∃ c r, Lib.decDigits u = c :: r ∧ 48 ≤ c.toNat ∧ c.toNat ≤ 57 := by
  have hd := dec_digit u
  cases h : Lib.decDigits u with
  | nil =>
    exfalso
    rw [Lib.decDigits] at h
    by_cases h2 : u < 10
    · rw [dif_pos h2] at h; cases h
    · rw [dif_neg h2] at h; simp at h
  | cons c r =>
    rw [h] at hd
    exact ⟨c, r, rfl, hd c (by simp)⟩
theorem decFrom_append : ∀ (l r : List UInt8) (a : Nat), Lib.decFrom a (l ++ r) = (Lib.decFrom a l).bind fun n => Lib.decFrom n r
  | [], r, a => rfl
  | c :: l, r, a => by
    simp only [List.cons_append, Lib.decFrom]
    cases Lib.digitVal c with
    | none => rfl
    | some d => exact decFrom_append l r _
theorem digit_val {d : Nat} (h : d < 10) : Lib.digitVal (UInt8.ofNat (48 + d)) = some d := by
  unfold Lib.digitVal
  rw [digit_nat h, if_pos (by omega)]
  congr 1; omega
theorem decFrom_dec (u : Nat) : Lib.decFrom 0 (Lib.decDigits u) = some u := by
  induction u using Nat.strongRecOn with
  | ind u ih =>
    rw [Lib.decDigits]
    by_cases h : u < 10
    · rw [dif_pos h]
      simp only [Lib.decFrom, digit_val h]
      simp
    · rw [dif_neg h, decFrom_append, ih (u / 10) (by omega)]
      simp only [Option.bind_some, Lib.decFrom, digit_val (Nat.mod_lt u (by omega) : u % 10 < 10)]
      congr 1; omega
theorem digLoop_append : ∀ (l r : List UInt8) (a : Nat), digLoop (l ++ r) a = (digLoop l a).bind fun n => digLoop r n
  | [], r, a => rfl
  | c :: l, r, a => by
    simp only [List.cons_append, digLoop]
    split
    · rfl
    · exact digLoop_append l r _
theorem digLoop_dec (u : Nat) (hu : u ≤ 9999999999) : digLoop (Lib.decDigits u) 0 = some u := by
  induction u using Nat.strongRecOn with
  | ind u ih =>
    rw [Lib.decDigits]
    by_cases h : u < 10
    · rw [dif_pos h]
      simp only [digLoop, digit_nat h]
      rw [if_neg (by omega)]
      congr 1; omega
    · rw [dif_neg h, digLoop_append, ih (u / 10) (by omega) (by omega)]
      simp only [Option.bind_some, digLoop, digit_nat (Nat.mod_lt u (by omega) : u % 10 < 10)]
      rw [if_neg (by omega)]
      congr 1; omega
theorem dec_len (u : Nat) (h : u ≤ 999999999) : (Lib.decDigits u).length ≤ 9 := by
  have k : ∀ (n : Nat) (u : Nat), u < 10 ^ (n + 1) → (Lib.decDigits u).length ≤ n + 1 := by
    intro n
    induction n with
    | zero => intro u hu; rw [Lib.decDigits, dif_pos (by simpa using hu)]; simp
    | succ n ih =>
      intro u hu
      rw [Lib.decDigits]
      by_cases h2 : u < 10
      · rw [dif_pos h2]; simp
      · rw [dif_neg h2]
        have := ih (u / 10) (by rw [Nat.pow_succ] at hu; omega)
        simp; omega
  exact k 8 u (by omega)
theorem atoiV_dec (u : Nat) (h : u ≤ 999999999) : atoiV (Lib.decDigits u) = (u : Int) := by
  have hl := dec_len u h
  have hd := decFrom_dec u
  obtain ⟨c, r, hc, h1, h2⟩ := dec_ne u
  unfold atoiV
  rw [Lib.atoiAll_short _ (by omega), hc]
  rw [hc] at hd
  have n45 : (c == 45) = false := by rw [beq_eq_false_iff_ne]; rintro rfl; simp at h1
  have n43 : (c == 43) = false := by rw [beq_eq_false_iff_ne]; rintro rfl; simp at h1
  simp only [Lib.atoi, n45, n43, Bool.false_eq_true, if_false, Lib.decNat, List.isEmpty_cons, hd, Option.map_some]
  rfl
theorem itoa_dec {n : Int} (h : 0 ≤ n) : Lib.itoa n = Lib.decDigits n.toNat := by
  obtain ⟨u, rfl⟩ : ∃ u : Nat, n = u := ⟨n.toNat, by omega⟩
  rw [Lib.itoa_nonneg, Int.toNat_natCast]
theorem digL_dec (u : Nat) (h : u ≤ 999999999) : digL (Lib.decDigits u) = ((u : Int), true) := by
  unfold digL
  rw [digLoop_dec u (by omega)]
  obtain ⟨c, r, hc, _⟩ := dec_ne u
  simp [hc]
theorem digL_no {c : UInt8} (h : c.toNat < 48 ∨ 57 < c.toNat) (r : List UInt8) : digL (c :: r) = (0, false) := by
  unfold digL digLoop
  rw [if_pos (by omega)]
theorem digLoop_no {c : UInt8} (h : c.toNat < 48 ∨ 57 < c.toNat) (l r : List UInt8) (n : Nat) : digLoop (l ++ c :: r) n = none := by
  rw [digLoop_append]
  cases digLoop l n with
  | none => rfl
  | some m => simp only [Option.bind_some, digLoop]; rw [if_pos (by omega)]
theorem digL_in {c : UInt8} (h : c.toNat < 48 ∨ 57 < c.toNat) (l r : List UInt8) : digL (l ++ c :: r) = (0, false) := by
  unfold digL
  rw [digLoop_no h]
theorem not_dec {c : UInt8} (h : c.toNat < 48 ∨ 57 < c.toNat) (u : Nat) : c ∉ Lib.decDigits u := fun q => by
  have := dec_digit u c q; omega

/-! ### Back -/
theorem trimB_dec (u : Nat) : Lib.trimB (47 :: (Lib.decDigits u ++ [47])) 47 = Lib.decDigits u := by
  obtain ⟨c, r, hc, h1, h2⟩ := dec_ne u
  have n47 : ∀ x ∈ Lib.decDigits u, (x == 47) = false := fun x hx => by
    rw [beq_eq_false_iff_ne]; rintro rfl; exact not_dec (by decide) u hx
  unfold Lib.trimB
  have e1 : Lib.trimRightB (47 :: (Lib.decDigits u ++ [47])) 47 = 47 :: Lib.decDigits u := by
    unfold Lib.trimRightB
    rw [← List.cons_append, List.reverse_append]
    simp only [List.reverse_cons, List.reverse_nil, List.nil_append, List.singleton_append]
    rw [List.dropWhile_cons_of_pos (by decide)]
    cases hr : (Lib.decDigits u).reverse with
    | nil => rw [hc] at hr; simp at hr
    | cons x y =>
      have hx : x ∈ Lib.decDigits u := by rw [← List.mem_reverse, hr]; simp
      rw [List.cons_append, List.dropWhile_cons_of_neg (by rw [n47 x hx]; simp), ← List.cons_append, ← hr]
      simp
  rw [e1]
  unfold Lib.trimLeftB
  rw [List.dropWhile_cons_of_pos (by decide), hc]
  rw [hc] at n47
  rw [List.dropWhile_cons_of_neg (by rw [n47 c (by simp)]; simp)]
/-- An address comes back. -/
theorem read_text {a : A3} (h : One a) : readP (textA a) = a ∧ readR (textA a) = (a, true) := by
  obtain ⟨k, n, m⟩ := a
  rcases h with ⟨hk, rfl, rfl⟩ | ⟨hk, h0, h1, rfl⟩ | ⟨hk, h0, h1, h2, h3⟩ | ⟨hk, h0, h1, rfl⟩
  · simp only at hk
    rcases hk with rfl | rfl
    · exact ⟨rfl, rfl⟩
    · have e : textA ⟨2, 0, 0⟩ = [36] := rfl
      rw [e]
      exact ⟨by decide, rfl⟩
  · simp only at hk h0 h1
    obtain ⟨u, rfl⟩ : ∃ u : Nat, n = u := ⟨n.toNat, by omega⟩
    have hu : u ≤ 999999999 := by omega
    have ea := atoiV_dec u hu
    have ed := digL_dec u hu
    obtain ⟨c, r, hc, hc1, hc2⟩ := dec_ne u
    have ecut := cutB_none (not_dec (c := 126) (by decide) u)
    rcases hk with rfl | rfl | rfl
    · have e : textA ⟨1, (u : Int), 0⟩ = Lib.decDigits u := by unfold textA; rw [if_pos rfl]; exact Lib.itoa_nonneg u
      rw [e]
      rw [hc] at ea ed ecut ⊢
      have n36 : c :: r ≠ [36] := by intro q; have : c = 36 := (List.cons.inj q).1; subst this; simp at hc1
      have n47 : c ≠ 47 := by rintro rfl; simp at hc1
      have n43 : c ≠ 43 := by rintro rfl; simp at hc1
      have n126 : c ≠ 126 := by rintro rfl; simp at hc2
      constructor
      · unfold readP
        simp only [if_neg n36, if_neg n47, if_neg n43, if_neg n126, ecut, ea, Bool.false_eq_true, if_false]
      · unfold readR
        simp only [if_neg n36, ed, if_true]
    · have e : textA ⟨5, (u : Int), 0⟩ = 43 :: Lib.decDigits u := by
        unfold textA; simp [Lib.itoa_nonneg]
      rw [e]
      have n36 : (43 : UInt8) :: Lib.decDigits u ≠ [36] := by intro q; exact absurd (List.cons.inj q).1 (by decide)
      constructor
      · unfold readP
        simp only [if_neg n36]
        rw [if_neg (by decide), if_pos trivial, ea]
      · unfold readR
        simp only [if_neg n36, digL_no (c := 43) (by decide), Bool.false_eq_true, if_false]
        rw [if_pos trivial, ed]
    · have e : textA ⟨6, (u : Int), 0⟩ = 126 :: Lib.decDigits u := by
        unfold textA; simp [Lib.itoa_nonneg]
      rw [e]
      have n36 : (126 : UInt8) :: Lib.decDigits u ≠ [36] := by intro q; exact absurd (List.cons.inj q).1 (by decide)
      have ecut2 : cutB 126 (126 :: Lib.decDigits u) = ([], Lib.decDigits u, true) := by unfold cutB; rw [if_pos rfl]
      constructor
      · unfold readP
        simp only [if_neg n36, ecut2]
        rw [if_neg (by decide), if_neg (by decide), if_pos trivial, ea]
      · unfold readR
        simp only [if_neg n36, digL_no (c := 126) (by decide), Bool.false_eq_true, if_false]
        rw [if_neg (by decide), if_pos trivial, ed]
  · simp only at hk h0 h1 h2 h3
    subst hk
    obtain ⟨u, rfl⟩ : ∃ u : Nat, n = u := ⟨n.toNat, by omega⟩
    obtain ⟨v, rfl⟩ : ∃ v : Nat, m = v := ⟨m.toNat, by omega⟩
    have e : textA ⟨3, (u : Int), (v : Int)⟩ = Lib.decDigits u ++ 126 :: Lib.decDigits v := by
      unfold textA; simp [Lib.itoa_nonneg]
    have ea := atoiV_dec u (by omega)
    have ea2 := atoiV_dec v (by omega)
    have ed := digL_dec u (by omega)
    have ed2 := digL_dec v (by omega)
    have ecut : cutB 126 (Lib.decDigits u ++ 126 :: Lib.decDigits v) = (Lib.decDigits u, Lib.decDigits v, true) := cutB_at (not_dec (by decide) u)
    have eno : digL (Lib.decDigits u ++ 126 :: Lib.decDigits v) = (0, false) := digL_in (by decide) _ _
    obtain ⟨c, r, hc, hc1, hc2⟩ := dec_ne u
    rw [e]
    have n36 : c :: (r ++ 126 :: Lib.decDigits v) ≠ [36] := by intro q; have : c = 36 := (List.cons.inj q).1; subst this; simp at hc1
    have n47 : c ≠ 47 := by rintro rfl; simp at hc1
    have n43 : c ≠ 43 := by rintro rfl; simp at hc1
    have n126 : c ≠ 126 := by rintro rfl; simp at hc2
    have hcc : Lib.decDigits u ++ 126 :: Lib.decDigits v = c :: (r ++ 126 :: Lib.decDigits v) := by rw [hc]; rfl
    rw [hcc] at ecut eno ⊢
    constructor
    · unfold readP
      simp only [if_neg n36, if_neg n47, if_neg n43, if_neg n126, ecut, ea, ea2, if_true]
    · unfold readR
      simp only [if_neg n36, if_neg n47, if_neg n43, if_neg n126, eno, ecut, ed, ed2, Bool.false_eq_true, if_false, if_true]
      rfl
  · simp only at hk h0 h1
    subst hk
    obtain ⟨u, rfl⟩ : ∃ u : Nat, n = u := ⟨n.toNat, by omega⟩
    have e : textA ⟨4, (u : Int), 0⟩ = 47 :: (Lib.decDigits u ++ [47]) := by
      unfold textA; simp [Lib.itoa_nonneg]
    have ea := atoiV_dec u (by omega)
    have ed := digL_dec u (by omega)
    have n36 : (47 : UInt8) :: (Lib.decDigits u ++ [47]) ≠ [36] := by intro q; exact absurd (List.cons.inj q).1 (by decide)
    rw [e]
    constructor
    · unfold readP
      simp only [if_neg n36]
      rw [if_pos trivial, trimB_dec, ea]
    · unfold readR
      simp only [if_neg n36, digL_no (c := 47) (by decide), Bool.false_eq_true, if_false]
      rw [if_neg (by decide), if_neg (by decide), if_pos trivial]
      have el : (Lib.decDigits u ++ [47]).length - 1 = (Lib.decDigits u).length := by simp
      rw [el, List.take_left, ed]
      have eg : ((47 : UInt8) :: (Lib.decDigits u ++ [47])).getLast? = some 47 := by
        rw [← List.cons_append, List.getLast?_append]; simp
      rw [eg]; rfl
theorem text_plain {a : A3} (h : One a) : ∀ c ∈ textA a, c ≠ 44 ∧ c ≠ 33 := by
  have hi : ∀ n : Int, 0 ≤ n → ∀ c ∈ Lib.itoa n, c ≠ 44 ∧ c ≠ 33 := by
    intro n hn c hc
    rw [itoa_dec hn] at hc
    constructor
    · rintro rfl; exact not_dec (by decide) _ hc
    · rintro rfl; exact not_dec (by decide) _ hc
  have hn : 0 ≤ a.n ∧ 0 ≤ a.m := by
    rcases h with ⟨_, h1, h2⟩ | ⟨_, h1, _, h2⟩ | ⟨_, h1, _, h2, _⟩ | ⟨_, h1, _, h2⟩ <;> omega
  intro c hc
  unfold textA at hc
  have h36 : (36 : UInt8) ≠ 44 ∧ (36 : UInt8) ≠ 33 := by decide
  have h126 : (126 : UInt8) ≠ 44 ∧ (126 : UInt8) ≠ 33 := by decide
  have h47 : (47 : UInt8) ≠ 44 ∧ (47 : UInt8) ≠ 33 := by decide
  have h43 : (43 : UInt8) ≠ 44 ∧ (43 : UInt8) ≠ 33 := by decide
  split at hc
  · exact hi _ hn.1 c hc
  split at hc
  · rw [List.mem_singleton] at hc; subst hc; exact h36
  split at hc
  · rw [List.mem_append, List.mem_append, List.mem_singleton] at hc
    rcases hc with (hc | rfl) | hc
    · exact hi _ hn.1 c hc
    · exact h126
    · exact hi _ hn.2 c hc
  split at hc
  · rw [List.mem_append, List.mem_append, List.mem_singleton] at hc
    rcases hc with (rfl | hc) | rfl
    · exact h47
    · exact hi _ hn.1 c hc
    · exact h47
  split at hc
  · rw [List.mem_append, List.mem_singleton] at hc
    rcases hc with rfl | hc
    · exact h43
    · exact hi _ hn.1 c hc
  split at hc
  · rw [List.mem_append, List.mem_singleton] at hc
    rcases hc with rfl | hc
    · exact h126
    · exact hi _ hn.1 c hc
  · cases hc
theorem suffix_no {l : List UInt8} (h : ∀ c ∈ l, c ≠ 33) : Lib.hasSuffix l [33] = false := by
  cases hs : Lib.hasSuffix l [33]
  · rfl
  · exfalso
    unfold Lib.hasSuffix at hs
    rw [List.isSuffixOf_iff_suffix] at hs
    obtain ⟨t, ht⟩ := hs
    exact h 33 (by rw [← ht]; simp) rfl
theorem suffix_yes (l : List UInt8) : Lib.hasSuffix (l ++ [33]) [33] = true := by
  unfold Lib.hasSuffix
  rw [List.isSuffixOf_iff_suffix]
  exact ⟨l, rfl⟩
/-- The parts of what is printed. -/
theorem print_parts {a b : A3} (h : May a b) (n : Bool) :
    Lib.hasSuffix (textA a ++ tailB b ++ tailN n) [33] = n ∧ (cutB 44 (stripN (textA a ++ tailB b ++ tailN n))).1 = textA a ∧ (cutB 44 (stripN (textA a ++ tailB b ++ tailN n))).2.1 = textA b := by
  have ha := text_plain h.1
  have hb := text_plain h.2.1
  have hbody : ∀ c ∈ textA a ++ tailB b, c ≠ 33 := by
    intro c hc
    rw [List.mem_append] at hc
    rcases hc with hc | hc
    · exact (ha c hc).2
    · unfold tailB at hc
      split at hc
      · cases hc
      · rw [List.mem_append, List.mem_singleton] at hc
        rcases hc with rfl | hc
        · decide
        · exact (hb c hc).2
  have hcut : (cutB 44 (textA a ++ tailB b)).1 = textA a ∧ (cutB 44 (textA a ++ tailB b)).2.1 = textA b := by
    have h44 : (44 : UInt8) ∉ textA a := fun q => (ha 44 q).1 rfl
    unfold tailB
    split
    · rename_i hk
      have e : textA b = [] := by unfold textA; simp [hk]
      rw [List.append_nil, cutB_none h44, e]
      exact ⟨rfl, rfl⟩
    · rw [List.singleton_append, cutB_at h44]
      exact ⟨rfl, rfl⟩
  cases n
  · have hs := suffix_no hbody
    have e : textA a ++ tailB b ++ tailN false = textA a ++ tailB b := by simp [tailN]
    rw [e]
    refine ⟨hs, ?_⟩
    unfold stripN Lib.trimSuffix
    rw [hs]
    simpa using hcut
  · have hs := suffix_yes (textA a ++ tailB b)
    have e : textA a ++ tailB b ++ tailN true = textA a ++ tailB b ++ [33] := rfl
    rw [e]
    refine ⟨hs, ?_⟩
    unfold stripN Lib.trimSuffix
    rw [hs]
    have e2 : (textA a ++ tailB b ++ [33]).length - [(33 : UInt8)].length = (textA a ++ tailB b).length := by simp
    simp only [if_true]
    rw [e2, List.take_left]
    exact hcut
theorem print_ok {a b : A3} {n : Bool} (h : (printR a b n).2 = 0) : May a b := by
  unfold printR at h
  split at h
  · rename_i hm; exact hm
  · simp at h
theorem parse_print {a b : A3} {n : Bool} {s : List UInt8} (h : (printR a b n).2 = 0) (hs : (printR a b n).1 = s) : parseP s = ((a, b, n), 0) ∧ parseR s = ((a, b, n), 0) := by
  have hm := print_ok h
  have e : (printR a b n).1 = textA a ++ tailB b ++ tailN n := by unfold printR; rw [if_pos hm]
  obtain ⟨p1, p2, p3⟩ := print_parts hm n
  rw [← e, hs] at p1 p2 p3
  obtain ⟨ra, qa⟩ := read_text hm.1
  obtain ⟨rb, qb⟩ := read_text hm.2.1
  constructor
  · unfold parseP
    simp only [p1, p2, p3, ra, rb]
    rw [if_pos ⟨h, hs⟩]
  · unfold parseR
    simp only [p1, p2, p3, qa, qb]
    rw [if_pos ⟨trivial, trivial, h, hs⟩]
theorem parse_same (s : List UInt8) : parseP s = parseR s := by
  by_cases hp : (printR (readP (cutB 44 (stripN s)).1) (readP (cutB 44 (stripN s)).2.1) (Lib.hasSuffix s [33])).2 = 0 ∧ (printR (readP (cutB 44 (stripN s)).1) (readP (cutB 44 (stripN s)).2.1) (Lib.hasSuffix s [33])).1 = s
  · obtain ⟨h1, h2⟩ := parse_print hp.1 hp.2
    rw [h1, h2]
  · have e : parseP s = ((⟨0, 0, 0⟩, ⟨0, 0, 0⟩, false), 121) := by unfold parseP; exact if_neg hp
    by_cases hr : (readR (cutB 44 (stripN s)).1).2 = true ∧ (readR (cutB 44 (stripN s)).2.1).2 = true ∧ (printR (readR (cutB 44 (stripN s)).1).1 (readR (cutB 44 (stripN s)).2.1).1 (Lib.hasSuffix s [33])).2 = 0 ∧ (printR (readR (cutB 44 (stripN s)).1).1 (readR (cutB 44 (stripN s)).2.1).1 (Lib.hasSuffix s [33])).1 = s
    · obtain ⟨h1, h2⟩ := parse_print hr.2.2.1 hr.2.2.2
      rw [h1, h2]
    · rw [e]
      unfold parseR
      exact (if_neg hr).symm
end Go.Proofs.YtdjedjfanfbbcaaGreatDoor.Ad
