/- Patterns: their texts, and the reading of texts: plain facts. -/
import Derived.Test.YtdjedjfanfbbcaaGreatDoorRxPlain
import Derived.Test.YtdjedjfanfbbcaaGreatDoorStBits
import Derived.Test.YtdjedjfanfbbcaaGreatDoorAdPlain
namespace Go.Proofs.YtdjedjfanfbbcaaGreatDoor.Rx
open Tr
open Go.Proofs.YtdjedjfanfbbcaaGreatDoor.St (Wf zeroW mem orL ofL add1 bytesL bytesN wf_ofL mem_ofL ext_mem or2 wf_or2 mem_or2 wf_zero mem_zero orL_spec bytesN_lt)
open Go.Proofs.YtdjedjfanfbbcaaGreatDoor.Ad (cutB cutB_at cutB_none atoiV)
set_option linter.unusedVariables false
set_option linter.unusedSimpArgs false
/-! ### Digits to the base 16 -/
def hexd (n : Nat) : UInt8 := if n < 10 then UInt8.ofNat (48 + n) else UInt8.ofNat (87 + n)
def hexB (b : UInt8) : List UInt8 := [hexd (b.toNat / 16), hexd (b.toNat % 16)]
def hexV (c : UInt8) : Option Nat := if 48 ≤ c.toNat ∧ c.toNat ≤ 57 then some (c.toNat - 48) else if 97 ≤ c.toNat ∧ c.toNat ≤ 102 then some (c.toNat - 87) else if 65 ≤ c.toNat ∧ c.toNat ≤ 70 then some (c.toNat - 55) else none
theorem hexV_d : ∀ n, n < 16 → hexV (hexd n) = some n := by decide
theorem hexd_ne : ∀ n, n < 16 → hexd n ≠ 93 := by decide
/-! ### Texts -/
def textT : Tr → List UInt8
  | .e => [101]
  | .set s => 91 :: ((bytesL s).flatMap hexB ++ [93])
  | .beg => [94]
  | .fin => [36]
  | .cat x y => 38 :: (textT x ++ textT y)
  | .alt x y => 124 :: (textT x ++ textT y)
  | .times mn mx x => 42 :: (Lib.itoa mn ++ 44 :: (Lib.itoa mx ++ 59 :: textT x))
  | .grp n x => 40 :: (textT x ++ [41])
  | .ref n => 92 :: Lib.itoa n
/-- How many groups. -/
def cnt : Tr → Int
  | .cat x y => cnt x + cnt y
  | .alt x y => cnt x + cnt y
  | .times _ _ x => cnt x
  | .grp _ x => 1 + cnt x
  | _ => 0
/-- The groups are numbered from left to right, behind so many. -/
def NumOk : Tr → Int → Prop
  | .cat x y, g => NumOk x g ∧ NumOk y (g + cnt x)
  | .alt x y, g => NumOk x g ∧ NumOk y (g + cnt x)
  | .times _ _ x, g => NumOk x g
  | .grp n x, g => n = g + 1 ∧ NumOk x (g + 1)
  | _, _ => True
def SetsOk : Tr → Prop
  | .set s => Wf s
  | .cat x y => SetsOk x ∧ SetsOk y
  | .alt x y => SetsOk x ∧ SetsOk y
  | .times _ _ x => SetsOk x
  | .grp _ x => SetsOk x
  | _ => True
/-! ### Reading -/
structure Rd where
  rest : List UInt8
  l : List Nd
  g : Int
  bad : Bool
def atoiK (l : List UInt8) : Bool := match Lib.atoiAll l with
  | .ok _ => true
  | _ => false
def untilP (e : UInt8) (r : Rd) : Rd × List UInt8 := (⟨(cutB e r.rest).2.1, r.l, r.g, r.bad || !(cutB e r.rest).2.2⟩, (cutB e r.rest).1)
def numP (e : UInt8) (r : Rd) : Rd × Int := (⟨(untilP e r).1.rest, r.l, r.g, (untilP e r).1.bad || !atoiK (untilP e r).2⟩, atoiV (untilP e r).2)
/-- The byte that two digits are, and whether they are digits. -/
def pairV (c d : UInt8) : Nat × Bool := match hexV c, hexV d with
  | some x, some y => (x * 16 + y, true)
  | _, _ => (0, false)
def pairsP : List UInt8 → List Nat → Bool → List Nat × Bool
  | c :: d :: r, s, bad => pairsP r (orL [s, ofL [UInt8.ofNat (pairV c d).1]]) (bad || !(pairV c d).2)
  | _, s, bad => (s, bad)
def setP (r : Rd) : Rd × List Nat :=
  (⟨(untilP 93 r).1.rest, r.l, r.g, (pairsP (untilP 93 r).2 zeroW (untilP 93 r).1.bad).2⟩, (pairsP (untilP 93 r).2 zeroW (untilP 93 r).1.bad).1)
def pushP (r : Rd) (n : Nd) : Rd × Nat := (⟨r.rest, r.l ++ [n], r.g, r.bad⟩, r.l.length)
def closeP (r : Rd) : Rd := match r.rest with
  | [] => ⟨[], r.l, r.g, true⟩
  | c :: t => if c = 41 then ⟨t, r.l, r.g, r.bad⟩ else ⟨c :: t, r.l, r.g, true⟩
def refP (r : Rd) : Rd × Int := match r.rest with
  | [] => (⟨[], r.l, r.g, true⟩, 0)
  | c :: t => (⟨t, r.l, r.g, false⟩, (c.toNat : Int) - 48)
def nodeP : Nat → Rd → Rd × Nat
  | 0, r => (⟨r.rest, r.l, r.g, true⟩, 0)
  | left + 1, r =>
    if r.bad = true ∨ 120 < r.l.length then (⟨r.rest, r.l, r.g, true⟩, 0) else
    match r.rest with
    | [] => (⟨[], r.l, r.g, true⟩, 0)
    | c :: t =>
      if c = 101 then pushP ⟨t, r.l, r.g, false⟩ ⟨0, z4, 0, 0, 0, 0, 0⟩
      else if c = 91 then pushP (setP ⟨t, r.l, r.g, false⟩).1 ⟨1, (setP ⟨t, r.l, r.g, false⟩).2, 0, 0, 0, 0, 0⟩
      else if c = 94 then pushP ⟨t, r.l, r.g, false⟩ ⟨2, z4, 0, 0, 0, 0, 0⟩
      else if c = 36 then pushP ⟨t, r.l, r.g, false⟩ ⟨3, z4, 0, 0, 0, 0, 0⟩
      else if c = 38 ∨ c = 124 then
        let p := nodeP left ⟨t, r.l, r.g, false⟩
        let q := nodeP left p.1
        pushP q.1 ⟨if c = 124 then 5 else 4, z4, p.2, q.2, 0, 0, 0⟩
      else if c = 42 then
        let a := numP 44 ⟨t, r.l, r.g, false⟩
        let b := numP 59 a.1
        let p := nodeP left b.1
        pushP p.1 ⟨6, z4, p.2, 0, a.2, b.2, 0⟩
      else if c = 40 then
        let p := nodeP left ⟨t, r.l, r.g + 1, false⟩
        pushP (closeP p.1) ⟨7, z4, p.2, 0, 0, 0, r.g + 1⟩
      else if c = 92 then pushP (refP ⟨t, r.l, r.g, false⟩).1 ⟨8, z4, 0, 0, 0, 0, (refP ⟨t, r.l, r.g, false⟩).2⟩
      else pushP ⟨t, r.l, r.g, true⟩ ⟨0, z4, 0, 0, 0, 0, 0⟩
/-! ### What a set is told by -/
theorem of_snoc (l : List UInt8) (b : UInt8) : orL [ofL l, ofL [b]] = ofL (l ++ [b]) := by
  have h := orL_spec [ofL l, ofL [b]] zeroW wf_zero (by intro v hv; simp at hv; rcases hv with rfl | rfl; exact wf_ofL _; exact wf_ofL _)
  apply ext_mem h.1 (wf_ofL _)
  intro c hc
  have := h.2 c hc
  show mem (List.foldl or2 zeroW [ofL l, ofL [b]]) c = _
  rw [this, mem_zero, mem_ofL]
  simp [mem_ofL, Bool.or_assoc]
theorem of_bytes {s : List Nat} (h : Wf s) : ofL (bytesL s) = s := by
  apply ext_mem (wf_ofL _) h
  intro c hc
  rw [mem_ofL, Bool.eq_iff_iff, List.any_eq_true]
  have e : ∀ n : Nat, n < 256 → (UInt8.ofNat n).toNat = n := fun n hn => by
    have : (UInt8.ofNat n).toNat = n % 256 := rfl
    omega
  constructor
  · rintro ⟨d, hd, he⟩
    unfold bytesL at hd
    obtain ⟨n, hn, rfl⟩ := List.mem_map.1 hd
    have hn2 := bytesN_lt hn
    rw [e n hn2] at he
    obtain rfl : c = n := by simpa using he
    unfold bytesN at hn
    exact (List.mem_filter.1 hn).2
  · intro hm
    refine ⟨UInt8.ofNat c, ?_, by rw [e c hc]; simp⟩
    unfold bytesL bytesN
    exact List.mem_map.2 ⟨c, List.mem_filter.2 ⟨List.mem_range.2 hc, hm⟩, rfl⟩
theorem pairV_hex (b : UInt8) : pairV (hexd (b.toNat / 16)) (hexd (b.toNat % 16)) = (b.toNat, true) := by
  have hb := UInt8.toNat_lt b
  unfold pairV
  rw [hexV_d _ (by omega), hexV_d _ (by omega)]
  simp
  omega
theorem pairs_hex : ∀ (l pre : List UInt8), pairsP (l.flatMap hexB) (ofL pre) false = (ofL (pre ++ l), false)
  | [], pre => by simp [pairsP]
  | b :: r, pre => by
    rw [List.flatMap_cons]
    show pairsP (hexd (b.toNat / 16) :: hexd (b.toNat % 16) :: r.flatMap hexB) _ _ = _
    unfold pairsP
    rw [pairV_hex, of_snoc]
    simp only [UInt8.ofNat_toNat, Bool.not_true, Bool.or_self]
    rw [pairs_hex r (pre ++ [b])]
    simp
theorem hex_no : ∀ (l : List UInt8), (93 : UInt8) ∉ l.flatMap hexB := by
  intro l hm
  obtain ⟨b, _, hb⟩ := List.mem_flatMap.1 hm
  have hlt := UInt8.toNat_lt b
  unfold hexB at hb
  simp only [List.mem_cons, List.not_mem_nil, or_false] at hb
  rcases hb with hb | hb
  · exact hexd_ne _ (by omega) hb.symm
  · exact hexd_ne _ (by omega) hb.symm
theorem set_back {s : List Nat} (h : Wf s) (rest : List UInt8) (l : List Nd) (g : Int) : setP ⟨(bytesL s).flatMap hexB ++ 93 :: rest, l, g, false⟩ = (⟨rest, l, g, false⟩, s) := by
  have hc : cutB 93 ((bytesL s).flatMap hexB ++ 93 :: rest) = ((bytesL s).flatMap hexB, rest, true) := cutB_at (hex_no _)
  have hp := pairs_hex (bytesL s) []
  rw [List.nil_append, of_bytes h] at hp
  unfold setP untilP
  rw [hc]
  show ((⟨rest, l, g, (pairsP _ zeroW (false || !true)).2⟩ : Rd), (pairsP _ zeroW (false || !true)).1) = _
  rw [show (false || !true) = false from rfl, show zeroW = ofL [] from rfl, hp]
end Go.Proofs.YtdjedjfanfbbcaaGreatDoor.Rx
