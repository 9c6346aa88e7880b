/- Patterns: how often a byte stands in a text: plain facts. -/
import Derived.Test.YtdjedjfanfbbcaaGreatDoorRxBk
namespace Go.Proofs.YtdjedjfanfbbcaaGreatDoor.Rx
open Tr
open Go.Proofs.YtdjedjfanfbbcaaGreatDoor.St (Wf bytesL)
set_option linter.unusedVariables false
set_option linter.unusedSimpArgs false
theorem hex_not {c : UInt8} (h : ∀ n, n < 16 → hexd n ≠ c) (l : List UInt8) : c ∉ l.flatMap hexB := by
  intro hm
  obtain ⟨b, _, hb⟩ := List.mem_flatMap.1 hm
  have hlt := UInt8.toNat_lt b
  unfold hexB at hb
  simp only [List.mem_cons, List.not_mem_nil, or_false] at hb
  rcases hb with hb | hb
  · exact h _ (by omega) hb.symm
  · exact h _ (by omega) hb.symm
theorem hex40 : ∀ n, n < 16 → hexd n ≠ 40 := by decide
theorem hex41 : ∀ n, n < 16 → hexd n ≠ 41 := by decide
theorem hex92 : ∀ n, n < 16 → hexd n ≠ 92 := by decide
theorem hexc (c : UInt8) (h : ∀ n, n < 16 → hexd n ≠ c) (s : List Nat) : ((bytesL s).flatMap hexB).count c = 0 := List.count_eq_zero.2 (hex_not h _)
theorem itoac (c : UInt8) (h : c.toNat < 45 ∨ 57 < c.toNat) (n : Int) : (Lib.itoa n).count c = 0 := List.count_eq_zero.2 (not_itoa h)
theorem opens : ∀ t : Tr, (((textT t).count 40 : Nat) : Int) = cnt t := by
  intro t
  have hi := fun n => itoac 40 (by decide) n
  have hh := fun s => hexc 40 hex40 s
  induction t with
  | e | beg | fin => rfl
  | set s => simp [textT, cnt, List.count_append, List.count_cons, hh]
  | ref n => simp [textT, cnt, List.count_append, List.count_cons, hi]
  | cat x y ihx ihy | alt x y ihx ihy => simp [textT, cnt, List.count_append, List.count_cons]; omega
  | times mn mx x ihx => simp [textT, cnt, List.count_append, List.count_cons, hi]; omega
  | grp n x ihx => simp [textT, cnt, List.count_append, List.count_cons]; omega
theorem closes : ∀ t : Tr, (((textT t).count 41 : Nat) : Int) = cnt t := by
  intro t
  have hi := fun n => itoac 41 (by decide) n
  have hh := fun s => hexc 41 hex41 s
  induction t with
  | e | beg | fin => rfl
  | set s => simp [textT, cnt, List.count_append, List.count_cons, hh]
  | ref n => simp [textT, cnt, List.count_append, List.count_cons, hi]
  | cat x y ihx ihy | alt x y ihx ihy => simp [textT, cnt, List.count_append, List.count_cons]; omega
  | times mn mx x ihx => simp [textT, cnt, List.count_append, List.count_cons, hi]; omega
  | grp n x ihx => simp [textT, cnt, List.count_append, List.count_cons]; omega
theorem slashes : ∀ t : Tr, (textT t).count 92 = refsT t := by
  intro t
  have hi := fun n => itoac 92 (by decide) n
  have hh := fun s => hexc 92 hex92 s
  induction t with
  | e | beg | fin => rfl
  | set s => simp [textT, refsT, List.count_append, List.count_cons, hh]
  | ref n => simp [textT, refsT, List.count_append, List.count_cons, hi]
  | cat x y ihx ihy | alt x y ihx ihy => simp [textT, refsT, List.count_append, List.count_cons]; omega
  | times mn mx x ihx => simp [textT, refsT, List.count_append, List.count_cons, hi]; omega
  | grp n x ihx => simp [textT, refsT, List.count_append, List.count_cons]; omega
/-- How long a text may be. -/
theorem text_len (em : Prop) : ∀ t : Tr, t.Fine em → (textT t).length ≤ 514 * t.size := by
  have hx : ∀ l : List UInt8, (l.flatMap hexB).length = 2 * l.length := by
    intro l
    induction l with
    | nil => rfl
    | cons b r ih => rw [List.flatMap_cons, List.length_append, ih]; simp [hexB]; omega
  have hi : ∀ {n : Int}, -1 ≤ n → n ≤ 255 → (Lib.itoa n).length ≤ 10 := by
    intro n h0 h
    unfold Lib.itoa
    split
    · have := Go.Proofs.YtdjedjfanfbbcaaGreatDoor.Ad.dec_len n.natAbs (by omega)
      simp; omega
    · have := Go.Proofs.YtdjedjfanfbbcaaGreatDoor.Ad.dec_len n.toNat (by omega)
      omega
  intro t
  induction t with
  | e | beg | fin => intro _; simp [textT, size]
  | set s =>
    intro _
    have h1 : (bytesL s).length ≤ 256 := by rw [Go.Proofs.YtdjedjfanfbbcaaGreatDoor.St.bytesL_len]; exact Go.Proofs.YtdjedjfanfbbcaaGreatDoor.St.bytesN_len s
    simp only [textT, size, List.length_cons, List.length_append, hx, List.length_nil]
    omega
  | ref n =>
    intro hf
    have := hi (show -1 ≤ n by have := hf.1; omega) (by have := hf.2; omega)
    simp only [textT, size, List.length_cons]
    omega
  | cat x y ihx ihy | alt x y ihx ihy =>
    intro hf
    have h1 := ihx hf.1
    have h2 := ihy hf.2.1
    simp only [textT, size, List.length_cons, List.length_append]
    omega
  | times mn mx x ihx =>
    intro hf
    have h1 := ihx hf.1
    have h2 := hi (show -1 ≤ mn by have := hf.2.1; omega) hf.2.2.1
    have h3 := hi (show -1 ≤ mx by have := hf.2.2.2.1; omega) (by have := hf.2.2.2.1; omega)
    simp only [textT, size, List.length_cons, List.length_append]
    omega
  | grp n x ihx =>
    intro hf
    have h1 := ihx hf.1
    simp only [textT, size, List.length_cons, List.length_append, List.length_nil]
    omega
end Go.Proofs.YtdjedjfanfbbcaaGreatDoor.Rx
