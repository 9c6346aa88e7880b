/- Subst: what is replaced by itself, and how many: plain. -/
import Derived.Test.YthpiapemjadgdaaGreatDoorSbSPk
namespace Go.Proofs.YthpiapemjadgdaaGreatDoor.Mt
open Go.Proofs.YthpiapemjadgdaaGreatDoor.Rx
open Go.Proofs.YthpiapemjadgdaaGreatDoor.Rx.Tr
open Go.Proofs.YthpiapemjadgdaaGreatDoor.Fn
set_option linter.unusedVariables false
set_option linter.unusedSimpArgs false
theorem take_cut (T : List UInt8) {a b : Nat} (h : a ≤ b) : T.take a ++ cutT T a b = T.take b := by
  unfold cutT
  rw [show b = a + (b - a) by omega, List.take_add, show a + (b - a) - a = b - a by omega]
theorem cut_cut (T : List UInt8) {a b c : Nat} (h1 : a ≤ b) (h2 : b ≤ c) : T.take a ++ (cutT T a b ++ cutT T b c) = T.take c := by
  rw [← List.append_assoc, take_cut T h1, take_cut T h2]
/-- The rest of a row of finds, from a place on. -/
structure Rest (N : Nat) (L : List Caps) (at0 : Nat) : Prop where
  ok : ∀ c ∈ L, gr c 0 = some (from0 c, to0 c) ∧ from0 c ≤ to0 c ∧ to0 c ≤ N ∧ at0 ≤ from0 c
  up : ∀ (i j : Nat) (c d : Caps), i < j → L[i]? = some c → L[j]? = some d → to0 c ≤ from0 d
theorem Row.rest {N : Nat} {L : List Caps} (h : Row N L) : Rest N L 0 :=
  ⟨fun c hc => by
    obtain ⟨i, hi⟩ := List.mem_iff_getElem?.1 hc
    obtain ⟨_, h1, h2, h3⟩ := h.ok i c hi
    exact ⟨h1, h2, h3, Nat.zero_le _⟩, h.up⟩
theorem Rest.tail {N : Nat} {c : Caps} {L : List Caps} {at0 : Nat} (h : Rest N (c :: L) at0) : Rest N L at0 :=
  ⟨fun d hd => h.ok d (List.mem_cons_of_mem _ hd), fun i j d e hij hd he => h.up (i + 1) (j + 1) d e (by omega) (by rw [List.getElem?_cons_succ]; exact hd) (by rw [List.getElem?_cons_succ]; exact he)⟩
theorem Rest.next {N : Nat} {c : Caps} {L : List Caps} {at0 : Nat} (h : Rest N (c :: L) at0) : Rest N L (to0 c) :=
  ⟨fun d hd => by
    obtain ⟨h1, h2, h3, _⟩ := h.ok d (List.mem_cons_of_mem _ hd)
    obtain ⟨i, hi⟩ := List.mem_iff_getElem?.1 hd
    exact ⟨h1, h2, h3, h.up 0 (i + 1) c d (by omega) rfl (by rw [List.getElem?_cons_succ]; exact hi)⟩, h.tail.up⟩
theorem self_run (T : List UInt8) (fl : Caps → List UInt8) (nth : Int) (all : Bool) : ∀ (L : List Caps) (i at0 n : Nat), Rest T.length L at0 → at0 ≤ T.length → (∀ c ∈ L, fl c = cutT T (from0 c) (to0 c)) →
    (subS T fl nth all L i (at0, n, T.take at0)).2.2 = T.take (subS T fl nth all L i (at0, n, T.take at0)).1
  | [], i, at0, n, _, _, _ => rfl
  | c :: r, i, at0, n, h, hat, hf => by
    obtain ⟨_, h2, h3, h4⟩ := h.ok c List.mem_cons_self
    unfold subS
    split
    · exact self_run T fl nth all r (i + 1) at0 n h.tail hat fun d hd => hf d (List.mem_cons_of_mem _ hd)
    · dsimp only
      rw [hf c List.mem_cons_self, cut_cut T h4 h2]
      split
      · exact self_run T fl nth all r (i + 1) (to0 c) (n + 1) h.next h3 fun d hd => hf d (List.mem_cons_of_mem _ hd)
      · rfl
theorem fill_self {T : List UInt8} {c : Caps} (hg : gr c 0 = some (from0 c, to0 c)) : fillP T c [⟨[], 0⟩] = cutT T (from0 c) (to0 c) := by
  simp only [fillP, List.flatMap_cons, List.flatMap_nil, List.append_nil, partP]
  rw [if_neg (by decide)]
  unfold groupP
  rw [if_pos (by decide)]
  show cutC T (gr c 0) = _
  rw [hg]
  rfl
theorem sub_self {T : List UInt8} {L : List Caps} (hL : Row T.length L) (nth : Int) (all : Bool) : (subP T (fun c => fillP T c [⟨[], 0⟩]) nth all L).1 = T := by
  have h := self_run T (fun c => fillP T c [⟨[], 0⟩]) nth all L 0 0 0 hL.rest (Nat.zero_le _) fun c hc => fill_self (hL.rest.ok c hc).1
  unfold subP
  rw [List.take_zero] at h
  dsimp only
  rw [h, List.take_append_drop]
/-- How many are replaced. -/
theorem count_all (T : List UInt8) (fl : Caps → List UInt8) (nth : Nat) : ∀ (L : List Caps) (i : Nat) (s : Nat × Nat × List UInt8), (subS T fl (nth : Int) true L i s).2.1 = s.2.1 + (L.length - (nth - 1 - i))
  | [], i, s => by simp [subS]
  | c :: r, i, s => by
    unfold subS
    split
    · rename_i h
      rw [count_all T fl nth r (i + 1) s, List.length_cons]
      omega
    · rename_i h
      rw [if_pos rfl, count_all T fl nth r (i + 1), List.length_cons]
      dsimp only
      omega
theorem count_one (T : List UInt8) (fl : Caps → List UInt8) (nth : Nat) : ∀ (L : List Caps) (i : Nat) (s : Nat × Nat × List UInt8), (subS T fl (nth : Int) false L i s).2.1 = s.2.1 + (if L.length ≤ nth - 1 - i then 0 else 1)
  | [], i, s => by simp [subS]
  | c :: r, i, s => by
    unfold subS
    split
    · rename_i h
      rw [count_one T fl nth r (i + 1) s, List.length_cons]
      congr 1
      by_cases q : r.length ≤ nth - 1 - (i + 1)
      · rw [if_pos q, if_pos (by omega)]
      · rw [if_neg q, if_neg (by omega)]
    · rename_i h
      rw [if_neg (by simp), List.length_cons, if_neg (by omega)]
theorem few_stay (T : List UInt8) (fl : Caps → List UInt8) (nth : Nat) (all : Bool) : ∀ (L : List Caps) (i : Nat) (s : Nat × Nat × List UInt8), L.length + i < nth → subS T fl (nth : Int) all L i s = s
  | [], i, s, _ => rfl
  | c :: r, i, s, h => by
    rw [List.length_cons] at h
    unfold subS
    rw [if_pos (by omega)]
    exact few_stay T fl nth all r (i + 1) s (by omega)
theorem cut_le (T : List UInt8) (a b : Nat) : (cutT T a b).length ≤ b - a := by unfold cutT; rw [List.length_take]; omega
theorem short_run (T : List UInt8) (nth : Int) (all : Bool) : ∀ (L : List Caps) (i at0 n : Nat) (out : List UInt8), Rest T.length L at0 → at0 ≤ T.length → out.length ≤ at0 →
    (subS T (fun _ => []) nth all L i (at0, n, out)).2.2.length ≤ (subS T (fun _ => []) nth all L i (at0, n, out)).1 ∧ (subS T (fun _ => []) nth all L i (at0, n, out)).1 ≤ T.length
  | [], i, at0, n, out, _, hat, ho => ⟨ho, hat⟩
  | c :: r, i, at0, n, out, h, hat, ho => by
    obtain ⟨_, h2, h3, h4⟩ := h.ok c List.mem_cons_self
    have h5 := cut_le T at0 (from0 c)
    unfold subS
    split
    · exact short_run T nth all r (i + 1) at0 n out h.tail hat ho
    · dsimp only
      have h6 : (out ++ (cutT T at0 (from0 c) ++ [])).length ≤ to0 c := by simp only [List.append_nil, List.length_append]; omega
      split
      · exact short_run T nth all r (i + 1) (to0 c) (n + 1) _ h.next h3 h6
      · exact ⟨h6, h3⟩
theorem sub_short {T : List UInt8} {L : List Caps} (hL : Row T.length L) (nth : Int) (all : Bool) : (subP T (fun c => fillP T c []) nth all L).1.length ≤ T.length := by
  have h := short_run T nth all L 0 0 0 [] hL.rest (Nat.zero_le _) (Nat.le_refl _)
  have e : (fun c => fillP T c []) = fun _ => [] := by funext c; rfl
  unfold subP
  rw [e]
  dsimp only
  rw [List.length_append, List.length_drop]
  omega
theorem sub_nth {T : List UInt8} {L : List Caps} (fl : Caps → List UInt8) (n : Nat) (hn : 1 ≤ n) :
    (subP T fl (n : Int) false L).2 = (if L.length < n then 0 else 1) ∧ (subP T fl (n : Int) true L).2 = L.length - (n - 1) ∧ (L.length < n → (subP T fl (n : Int) true L).1 = T) := by
  refine ⟨?_, ?_, fun h => ?_⟩
  · unfold subP
    dsimp only
    rw [count_one]
    by_cases h : L.length < n
    · rw [if_pos h, if_pos (by omega)]
    · rw [if_neg h, if_neg (by omega)]
  · unfold subP
    dsimp only
    rw [count_all]
    simp
  · unfold subP
    rw [few_stay T fl n true L 0 _ (by omega)]
    simp
end Go.Proofs.YthpiapemjadgdaaGreatDoor.Mt
