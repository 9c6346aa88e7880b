/- What a replacer of some bytes makes of a text: plain facts. -/
import Derived.Test.YtinallojhkaogaaGreatDoorRpPlainPk
namespace Go.Proofs.YtinallojhkaogaaGreatDoor.Rq
set_option linter.unusedVariables false
set_option linter.unusedSimpArgs false
/-- A byte, and the two that it becomes. -/
structure Tp where
  o : UInt8
  p : UInt8
  q : UInt8
def at1 (t : List Tp) (c : UInt8) : Option Tp := t.find? fun x => x.o == c
def rp (t : List Tp) (c : UInt8) : List UInt8 := match at1 t c with | some x => [x.p, x.q] | none => [c]
def hit (t : List Tp) (c : UInt8) : Bool := (at1 t c).isSome
def rep (t : List Tp) (l : List UInt8) : List UInt8 := l.flatMap (rp t)
variable {t : List Tp} {l : List UInt8} {c : UInt8}
theorem at1_some {x : Tp} (h : at1 t c = some x) : x ∈ t ∧ x.o = c := by
  have h1 := List.mem_of_find?_eq_some h
  have h2 := List.find?_some h
  exact ⟨h1, by simpa using h2⟩
theorem at1_none (h : at1 t c = none) : ∀ x ∈ t, x.o ≠ c := fun x hx e => by
  have := List.find?_eq_none.1 h x hx
  simp [e] at this
theorem rp_some {x : Tp} (h : at1 t c = some x) : rp t c = [x.p, x.q] := by unfold rp; rw [h]
theorem rp_none (h : at1 t c = none) : rp t c = [c] := by unfold rp; rw [h]
theorem hit_some {x : Tp} (h : at1 t c = some x) : hit t c = true := by unfold hit; rw [h]; rfl
theorem hit_none (h : at1 t c = none) : hit t c = false := by unfold hit; rw [h]; rfl
theorem rp_len (t : List Tp) (c : UInt8) : (rp t c).length = if hit t c then 2 else 1 := by
  cases h : at1 t c with
  | none => rw [rp_none h, hit_none h]; rfl
  | some x => rw [rp_some h, hit_some h]; rfl
theorem rep_append (t : List Tp) (a b : List UInt8) : rep t (a ++ b) = rep t a ++ rep t b := by unfold rep; rw [List.flatMap_append]
theorem rep_len (t : List Tp) (l : List UInt8) : (rep t l).length = l.length + l.countP (hit t) := by
  induction l with
  | nil => rfl
  | cons c r ih =>
    have e : rep t (c :: r) = rp t c ++ rep t r := rfl
    rw [e, List.length_append, ih, rp_len, List.length_cons]
    cases h : hit t c
    · rw [List.countP_cons_of_neg (by simp [h])]; simp; omega
    · rw [List.countP_cons_of_pos (by simp [h])]; simp; omega
theorem rep_none (h : l.countP (hit t) = 0) : rep t l = l := by
  induction l with
  | nil => rfl
  | cons c r ih =>
    have e : rep t (c :: r) = rp t c ++ rep t r := rfl
    cases hc : at1 t c with
    | none =>
      rw [List.countP_cons_of_neg (by simp [hit_none hc])] at h
      rw [e, rp_none hc, ih h]; rfl
    | some x => rw [List.countP_cons_of_pos (by simp [hit_some hc])] at h; omega
theorem rep_take (t : List Tp) {k : Nat} (h : k < l.length) : rep t (l.take (k + 1)) = rep t (l.take k) ++ rp t l[k] := by
  rw [List.take_succ_eq_append_getElem h, rep_append]
  congr 1
  unfold rep
  simp
theorem rep_fits (t : List Tp) {k : Nat} (h : k < l.length) : (rep t (l.take k)).length + (rp t l[k]).length ≤ (rep t l).length := by
  have e : l = l.take (k + 1) ++ l.drop (k + 1) := (List.take_append_drop _ _).symm
  have h1 : (rep t l).length = (rep t (l.take (k + 1))).length + (rep t (l.drop (k + 1))).length := by
    conv => lhs; rw [e]
    rw [rep_append, List.length_append]
  rw [h1, rep_take t h, List.length_append]; omega
theorem count_take (t : List Tp) {k : Nat} (h : k < l.length) : (l.take (k + 1)).countP (hit t) = (l.take k).countP (hit t) + if hit t l[k] then 1 else 0 := by
  rw [List.take_succ_eq_append_getElem h, List.countP_append]
  cases hc : hit t l[k] <;> simp [hc]
/-- How many bytes of the text are told by the last k. -/
def cnt (t : List Tp) (l : List UInt8) (k : Nat) : Nat := ((t.reverse.take k).map fun x => l.count x.o).sum
theorem cnt_next (l : List UInt8) {k : Nat} (h : k < t.reverse.length) : cnt t l (k + 1) = cnt t l k + l.count (t.reverse[k]).o := by
  unfold cnt
  rw [List.take_succ_eq_append_getElem h, List.map_append, List.sum_append]
  simp
theorem hit_cons (x : Tp) (t : List Tp) (c : UInt8) : hit (x :: t) c = (x.o == c || hit t c) := by
  unfold hit at1
  rw [List.find?_cons]
  cases h : x.o == c <;> simp
theorem count_sum : ∀ (t : List Tp), (t.map (·.o)).Nodup → ∀ l : List UInt8, (t.map fun x => l.count x.o).sum = l.countP (hit t)
  | [], _, l => by
    simp only [List.map_nil, List.sum_nil]
    symm
    rw [List.countP_eq_zero]
    intro c _
    simp [hit, at1]
  | x :: t, h, l => by
    have h' := List.nodup_cons.1 (show (x.o :: t.map (·.o)).Nodup from h)
    rw [List.map_cons, List.sum_cons, count_sum t h'.2 l]
    induction l with
    | nil => rfl
    | cons c r ih =>
      rw [List.count_cons, List.countP_cons, List.countP_cons, hit_cons]
      cases e : x.o == c
      · have e2 : (c == x.o) = false := by rw [beq_eq_false_iff_ne] at e ⊢; exact fun q => e q.symm
        rw [e2]; simp; omega
      · have e1 : x.o = c := by simpa using e
        have e2 : (c == x.o) = true := by simp [e1]
        have e3 : hit t c = false := by
          cases hh : hit t c
          · rfl
          · unfold hit at hh
            obtain ⟨y, hy⟩ := Option.isSome_iff_exists.1 hh
            obtain ⟨m1, m2⟩ := at1_some hy
            exact absurd (List.mem_map.2 ⟨y, m1, m2.trans e1.symm⟩) h'.1
        rw [e2, e3]; simp; omega
theorem cnt_all (hd : (t.map (·.o)).Nodup) (l : List UInt8) : cnt t l t.length = l.countP (hit t) := by
  unfold cnt
  rw [List.take_of_length_le (by simp), List.map_reverse, List.sum_reverse, count_sum t hd]
theorem cnt_mono (t : List Tp) (l : List UInt8) {i j : Nat} (h : i ≤ j) : cnt t l i ≤ cnt t l j := by
  unfold cnt
  have e : t.reverse.take i = (t.reverse.take j).take i := by rw [List.take_take, Nat.min_eq_left h]
  rw [e]
  conv => rhs; rw [← List.take_append_drop i (t.reverse.take j), List.map_append, List.sum_append]
  omega
theorem cnt_le (hd : (t.map (·.o)).Nodup) (l : List UInt8) {k : Nat} (h : k ≤ t.length) : cnt t l k ≤ l.length := by
  have h1 := cnt_mono t l h
  rw [cnt_all hd] at h1
  exact Nat.le_trans h1 List.countP_le_length
end Go.Proofs.YtinallojhkaogaaGreatDoor.Rq
