/- What a replacer of two bytes makes of a text: plain facts. -/
import Derived.Lib.Strings
import Derived.Lib.UnsafeStr
import Derived.Lib.Bytealg
namespace Go.Proofs.YtinallojhkaogaaGreatDoor.Rp
set_option linter.unusedVariables false
set_option linter.unusedSimpArgs false

/-- Two bytes, and what they become. -/
structure Two where
  o1 : UInt8
  o2 : UInt8
  p1 : UInt8
  q1 : UInt8
  p2 : UInt8
  q2 : UInt8
  ne : o1 ≠ o2
def Two.rp (t : Two) (c : UInt8) : List UInt8 := if c = t.o1 then [t.p1, t.q1] else if c = t.o2 then [t.p2, t.q2] else [c]
def Two.hit (t : Two) (c : UInt8) : Bool := c == t.o1 || c == t.o2
def Two.rep (t : Two) : List UInt8 → List UInt8
  | [] => []
  | c :: r => t.rp c ++ t.rep r
theorem Two.rp_len (t : Two) (c : UInt8) : (t.rp c).length = if t.hit c then 2 else 1 := by
  unfold Two.rp Two.hit
  by_cases h1 : c = t.o1
  · simp [h1]
  · by_cases h2 : c = t.o2
    · rw [if_neg h1, if_pos h2]; simp [h2]
    · rw [if_neg h1, if_neg h2]; simp [h1, h2]
theorem Two.rep_append (t : Two) (a b : List UInt8) : t.rep (a ++ b) = t.rep a ++ t.rep b := by
  induction a with
  | nil => rfl
  | cons c r ih => simp [Two.rep, ih]
theorem Two.rep_len (t : Two) (l : List UInt8) : (t.rep l).length = l.length + l.countP t.hit := by
  induction l with
  | nil => rfl
  | cons c r ih =>
    simp only [Two.rep, List.length_append, ih, t.rp_len, List.length_cons]
    cases h : t.hit c
    · rw [List.countP_cons_of_neg (by simp [h])]; simp; omega
    · rw [List.countP_cons_of_pos (by simp [h])]; simp; omega
theorem Two.rep_none (t : Two) {l : List UInt8} (h : l.countP t.hit = 0) : t.rep l = l := by
  induction l with
  | nil => rfl
  | cons c r ih =>
    cases hc : t.hit c
    · rw [List.countP_cons_of_neg (by simp [hc])] at h
      have : t.rp c = [c] := by
        unfold Two.hit at hc
        simp only [Bool.or_eq_false_iff, beq_eq_false_iff_ne, ne_eq] at hc
        unfold Two.rp; rw [if_neg hc.1, if_neg hc.2]
      simp [Two.rep, this, ih h]
    · rw [List.countP_cons_of_pos (by simp [hc])] at h; omega
theorem Two.rep_take (t : Two) {l : List UInt8} {k : Nat} (h : k < l.length) : t.rep (l.take (k + 1)) = t.rep (l.take k) ++ t.rp l[k] := by
  rw [List.take_succ_eq_append_getElem h, t.rep_append]; simp [Two.rep]
theorem Two.rep_fits (t : Two) {l : List UInt8} {k : Nat} (h : k < l.length) : (t.rep (l.take k)).length + (t.rp l[k]).length ≤ (t.rep l).length := by
  have e : l = l.take (k + 1) ++ l.drop (k + 1) := (List.take_append_drop _ _).symm
  have h1 : (t.rep l).length = (t.rep (l.take (k + 1))).length + (t.rep (l.drop (k + 1))).length := by
    conv => lhs; rw [e]
    rw [t.rep_append, List.length_append]
  rw [h1, t.rep_take h, List.length_append]; omega
theorem Two.rep_take_le (t : Two) (l : List UInt8) (k : Nat) : (t.rep (l.take k)).length ≤ (t.rep l).length := by
  have h1 : (t.rep l).length = (t.rep (l.take k)).length + (t.rep (l.drop k)).length := by
    conv => lhs; rw [← List.take_append_drop k l]
    rw [t.rep_append, List.length_append]
  omega
theorem Two.count_take (t : Two) {l : List UInt8} {k : Nat} (h : k < l.length) : (l.take (k + 1)).countP t.hit = (l.take k).countP t.hit + if t.hit l[k] then 1 else 0 := by
  rw [List.take_succ_eq_append_getElem h, List.countP_append]
  cases hc : t.hit l[k] <;> simp [hc]
theorem Two.count_two (t : Two) (l : List UInt8) : l.count t.o2 + l.count t.o1 = l.countP t.hit := by
  induction l with
  | nil => rfl
  | cons c r ih =>
    rw [List.count_cons, List.count_cons, List.countP_cons]
    unfold Two.hit
    have hne := t.ne
    by_cases h1 : c = t.o1
    · have h2 : ¬ c = t.o2 := fun e => hne (h1.symm.trans e)
      have e1 : (c == t.o1) = true := by simp [h1]
      have e2 : (c == t.o2) = false := by simp [h2]
      rw [e1, e2]; simp; unfold Two.hit at ih; omega
    · have e1 : (c == t.o1) = false := by simp [h1]
      rw [e1]
      cases e2 : c == t.o2
      · simp; unfold Two.hit at ih; omega
      · simp; unfold Two.hit at ih; omega
/-- How many bytes are told by the first k of the texts. -/
def Two.cnt (t : Two) (l : List UInt8) (k : Nat) : Nat := match k with | 0 => 0 | 1 => l.count t.o2 | _ => l.count t.o2 + l.count t.o1
def bv (b : UInt8) : Go.Value := .int .u8 (b.toNat : Int)
/-- Of a row, the bytes r are laid. -/
def Fill (cur : Array Go.Value) (N : Nat) (r : List UInt8) : Prop := cur.size = N ∧ cur.toList.take r.length = r.map bv
theorem Fill.one {cur N r} (h : Fill cur N r) (hN : r.length < N) (b : UInt8) : Fill (cur.setIfInBounds r.length (bv b)) N (r ++ [b]) := by
  obtain ⟨h1, h2⟩ := h
  refine ⟨by simpa using h1, ?_⟩
  have hl : cur.toList.length = N := by simpa using h1
  rw [Array.toList_setIfInBounds, List.length_append, List.length_singleton, List.take_succ_eq_append_getElem (by rw [List.length_set]; omega), List.getElem_set_self, List.map_append, List.map_singleton]
  congr 1
  rw [← h2, List.take_set_of_le (Nat.le_refl _)]
theorem Fill.two {cur N r} (h : Fill cur N r) (a b : UInt8) (hN : r.length + 2 ≤ N) : Fill (cur.toList.take r.length ++ [bv a, bv b] ++ cur.toList.drop (r.length + 2)).toArray N (r ++ [a, b]) := by
  obtain ⟨h1, h2⟩ := h
  have hl : cur.toList.length = N := by simpa using h1
  refine ⟨by simp; omega, ?_⟩
  rw [List.toList_toArray, h2, List.map_append]
  have e : (r ++ [a, b]).length = (r.map bv ++ [bv a, bv b]).length := by simp
  rw [e, List.take_left]
  rfl
theorem Fill.cell {cur N r} (h : Fill cur N r) {j : Nat} (hj : j < r.length) : cur[j]? = some (bv r[j]) := by
  have h2 := congrArg (fun z => z[j]?) h.2
  simp only [List.getElem?_take, if_pos hj, List.getElem?_map, List.getElem?_eq_getElem hj, Option.map_some] at h2
  simpa using h2
end Go.Proofs.YtinallojhkaogaaGreatDoor.Rp
