/- Patterns: own rows of nodes. -/
import Derived.Test.YtdjedjfanfbbcaaGreatDoorRxW3
import Derived.Laws.OwnMore
import Derived.OwnWalk
import Derived.Lib.SmallJoins
namespace Go.Proofs.YtdjedjfanfbbcaaGreatDoor.Rx
open Go.RowKit Go.Shelf
open Go.Proofs.YtdjedjfanfbbcaaGreatDoor.St (Wf word zeroW)
set_option linter.unusedVariables false
set_option linter.unusedSimpArgs false
theorem infoNd : (Tryz.prog.info? 45).map (fun i => (i.zero, i.size, i.bytes)) = some (some (NV ⟨0, z4, 0, 0, 0, 0, 0⟩), 10, 80) := by kernel_rfl
/-- The cells of nodes, one behind another. -/
def flat (l : List Nd) : List Value := l.flatMap fun n => (NC n).toList
theorem flat_len : ∀ l : List Nd, (flat l).length = l.length * 10
  | [] => rfl
  | n :: l => by
    have := flat_len l
    unfold flat at *
    rw [List.flatMap_cons, List.length_append, this]
    simp
    omega
theorem flat_append (l m : List Nd) : flat (l ++ m) = flat l ++ flat m := by unfold flat; rw [List.flatMap_append]
theorem flat_one (n : Nd) : flat [n] = (NC n).toList := by simp [flat]
theorem flat_get : ∀ (l : List Nd) (i : Nat) (h : i < l.length) (r : Nat), r < 10 → (flat l)[i * 10 + r]? = (NC l[i])[r]?
  | n :: l, 0, _, r, hr => by
    unfold flat
    rw [List.flatMap_cons, List.getElem?_append_left (by simp; omega)]
    simp
  | n :: l, i + 1, h, r, hr => by
    have := flat_get l i (by simpa using h) r hr
    unfold flat at *
    rw [List.flatMap_cons, List.getElem?_append_right (by simp; omega)]
    rw [show (i + 1) * 10 + r - (NC n).toList.length = i * 10 + r by simp; omega, this]
    simp
theorem flat_cells : ∀ (l : List Nd), ∀ u ∈ flat l, u.oneCell' = true := by
  intro l u hu
  obtain ⟨n, _, h⟩ := List.mem_flatMap.1 hu
  simp only [List.mem_cons, List.not_mem_nil, or_false] at h
  rcases h with rfl | rfl | rfl | rfl | rfl | rfl | rfl | rfl | rfl | rfl <;> rfl
theorem ncell_flat {w : World} {b o : Nat} {l : List Nd} {i : Nat} (hi : i < l.length) (h : ∀ r, r < 10 → w.cell? ⟨b, o + i * 10 + r, none⟩ = (flat l)[i * 10 + r]?) : NCell w b (o + i * 10) l[i] := by
  have g : ∀ r, r < 10 → w.cell? ⟨b, o + i * 10 + r, none⟩ = (NC l[i])[r]? := fun r hr => (h r hr).trans (flat_get l i hi r hr)
  exact ⟨g 0 (by decide), g 1 (by decide), g 2 (by decide), g 3 (by decide), g 4 (by decide), g 5 (by decide), g 6 (by decide), g 7 (by decide), g 8 (by decide), g 9 (by decide)⟩
/-- What an own row holds. -/
theorem own_ns {w : World} {B : Nat} {v : Value} {l : List Nd} (h : w.ownsRow B 45 10 v l.length (flat l)) : Ns w v l := by
  rcases h.2 with ⟨rfl, h0⟩ | ⟨g, cap, cur, rfl, h1, h2, h3, h4, h5, h6⟩
  · refine ⟨none, 0, by rw [h0], fun i hi => ?_⟩
    omega
  · refine ⟨some ⟨g, 0, none⟩, cap, rfl, fun i hi => ⟨g, 0, rfl, ncell_flat hi fun r hr => ?_⟩⟩
    rw [Lib.cell_of_heap h2, ← h6, Nat.zero_add, List.getElem?_take_of_lt (by omega)]
    simp
theorem ns_news {w : World} {b o n c : Nat} {l : List Nd} (h : Ns w (.slice (some ⟨b, o, none⟩) n c) l) : ∀ j u, (flat l)[j]? = some u → w.cell? ((⟨b, o, none⟩ : Addr).add j) = some u := by
  intro j u hj
  have hlt : j < (flat l).length := (List.getElem?_eq_some_iff.1 hj).1
  rw [flat_len] at hlt
  obtain ⟨i, r, rfl, hr⟩ : ∃ i r, j = i * 10 + r ∧ r < 10 := ⟨j / 10, j % 10, by omega, by omega⟩
  have hi : i < l.length := by omega
  obtain ⟨b', o', e, h0, h1, h2, h3, h4, h5, h6, h7, h8, h9⟩ := h.at hi
  simp only [Option.some.injEq, Addr.mk.injEq, and_true] at e
  obtain ⟨rfl, rfl⟩ := e
  rw [flat_get l i hi r hr] at hj
  have ea : ((⟨b, o, none⟩ : Addr).add (i * 10 + r)) = ⟨b, o + i * 10 + r, none⟩ := by
    rw [Addr.add_lit, Nat.add_assoc]
  rw [ea]
  match r, hr with
  | 0, _ => exact h0.trans hj
  | 1, _ => exact h1.trans hj
  | 2, _ => exact h2.trans hj
  | 3, _ => exact h3.trans hj
  | 4, _ => exact h4.trans hj
  | 5, _ => exact h5.trans hj
  | 6, _ => exact h6.trans hj
  | 7, _ => exact h7.trans hj
  | 8, _ => exact h8.trans hj
  | 9, _ => exact h9.trans hj
theorem ns_some {w : World} {v : Value} {l : List Nd} (h : Ns w v l) (h0 : 0 < l.length) : ∃ b o c, v = .slice (some ⟨b, o, none⟩) l.length c := by
  obtain ⟨ao, c, rfl, hc⟩ := h
  obtain ⟨b, o, rfl, _⟩ := hc 0 h0
  exact ⟨b, o, c, rfl⟩
/-- Four cells of a node stored anew. -/
theorem flat_set (l : List Nd) (i : Nat) (h : i < l.length) (s : List Nat) :
    ((((flat l).set (i * 10 + 1) (U (word s 0))).set (i * 10 + 2) (U (word s 1))).set (i * 10 + 3) (U (word s 2))).set (i * 10 + 4) (U (word s 3)) = flat (l.set i ⟨l[i].k, s, l[i].a, l[i].b, l[i].mn, l[i].mx, l[i].n⟩) := by
  apply List.ext_getElem?
  intro j
  rcases Nat.lt_or_ge j (l.length * 10) with hj | hj
  · obtain ⟨q, r, rfl, hr⟩ : ∃ q r, j = q * 10 + r ∧ r < 10 := ⟨j / 10, j % 10, by omega, by omega⟩
    have hq : q < l.length := by omega
    rw [flat_get _ q (by simpa using hq) r hr]
    simp only [List.getElem?_set, List.length_set, flat_len]
    by_cases e : q = i
    · subst e
      simp only [List.getElem_set_self]
      match r, hr with
      | 0, _ => rw [if_neg (by omega), if_neg (by omega), if_neg (by omega), if_neg (by omega), flat_get l q hq 0 (by decide)]; rfl
      | 1, _ => rw [if_neg (by omega), if_neg (by omega), if_neg (by omega), if_pos rfl, if_pos (by omega)]; rfl
      | 2, _ => rw [if_neg (by omega), if_neg (by omega), if_pos rfl, if_pos (by omega)]; rfl
      | 3, _ => rw [if_neg (by omega), if_pos rfl, if_pos (by omega)]; rfl
      | 4, _ => rw [if_pos rfl, if_pos (by omega)]; rfl
      | 5, _ => rw [if_neg (by omega), if_neg (by omega), if_neg (by omega), if_neg (by omega), flat_get l q hq 5 (by decide)]; rfl
      | 6, _ => rw [if_neg (by omega), if_neg (by omega), if_neg (by omega), if_neg (by omega), flat_get l q hq 6 (by decide)]; rfl
      | 7, _ => rw [if_neg (by omega), if_neg (by omega), if_neg (by omega), if_neg (by omega), flat_get l q hq 7 (by decide)]; rfl
      | 8, _ => rw [if_neg (by omega), if_neg (by omega), if_neg (by omega), if_neg (by omega), flat_get l q hq 8 (by decide)]; rfl
      | 9, _ => rw [if_neg (by omega), if_neg (by omega), if_neg (by omega), if_neg (by omega), flat_get l q hq 9 (by decide)]; rfl
    · rw [if_neg (by omega), if_neg (by omega), if_neg (by omega), if_neg (by omega), flat_get l q hq r hr, List.getElem_set_ne (by omega)]
  · rw [List.getElem?_eq_none (by simp only [List.length_set, flat_len]; omega), List.getElem?_eq_none (by rw [flat_len, List.length_set]; omega)]
end Go.Proofs.YtdjedjfanfbbcaaGreatDoor.Rx
