/- Sets of bytes as four words: plain facts. -/
import Derived.Laws.BitsAllLaws
namespace Go.Proofs.YtdjedjfanfbbcaaGreatDoor.St
set_option linter.unusedVariables false
set_option linter.unusedSimpArgs false

/-- Four words of 64 bits. -/
structure Wf (ws : List Nat) : Prop where
  len : ws.length = 4
  lt : ∀ x ∈ ws, x < 2 ^ 64
def zeroW : List Nat := [0, 0, 0, 0]
def word (ws : List Nat) (i : Nat) : Nat := (ws[i]?).getD 0
/-- Whether a byte is in a set. -/
def mem (ws : List Nat) (b : Nat) : Bool := (word ws (b / 64)).testBit (b % 64)

theorem word_lt {ws : List Nat} (h : Wf ws) (i : Nat) : word ws i < 2 ^ 64 := by
  unfold word
  cases hx : ws[i]? with
  | none => simp
  | some x => exact h.lt x (List.mem_of_getElem? hx)
theorem word_get {ws : List Nat} (h : Wf ws) {i : Nat} (hi : i < 4) : ws[i]? = some (word ws i) := by
  unfold word
  rw [List.getElem?_eq_getElem (by rw [h.len]; exact hi)]; rfl
theorem wf_zero : Wf zeroW := ⟨rfl, by simp [zeroW]⟩
theorem mem_zero (b : Nat) : mem zeroW b = false := by
  unfold mem word zeroW
  rcases h : b / 64 with _ | _ | _ | _ | n <;> simp

theorem mem_bit {ws : List Nat} {i j : Nat} (hj : j < 64) : mem ws (i * 64 + j) = (word ws i).testBit j := by
  unfold mem
  rw [show (i * 64 + j) / 64 = i from by omega, show (i * 64 + j) % 64 = j from by omega]
/-- A set is told by its bytes. -/
theorem ext_mem {ws vs : List Nat} (h : Wf ws) (h' : Wf vs) (he : ∀ b, b < 256 → mem ws b = mem vs b) : ws = vs := by
  apply List.ext_getElem?
  intro i
  by_cases hi : i < 4
  · rw [word_get h hi, word_get h' hi]
    congr 1
    apply Nat.eq_of_testBit_eq
    intro j
    by_cases hj : j < 64
    · have := he (i * 64 + j) (by omega)
      rwa [mem_bit hj, mem_bit hj] at this
    · rw [Nat.testBit_lt_two_pow (Nat.lt_of_lt_of_le (word_lt h i) (Nat.pow_le_pow_right (by decide) (by omega))), Nat.testBit_lt_two_pow (Nat.lt_of_lt_of_le (word_lt h' i) (Nat.pow_le_pow_right (by decide) (by omega)))]
  · rw [List.getElem?_eq_none (by rw [h.len]; omega), List.getElem?_eq_none (by rw [h'.len]; omega)]

/-- A word set. -/
theorem word_set {ws : List Nat} (h : Wf ws) (i : Nat) (v : Nat) (k : Nat) (hi : i < 4) : word (ws.set i v) k = if k = i then v else word ws k := by
  unfold word
  rw [List.getElem?_set]
  by_cases hk : i = k
  · subst hk; simp [h.len, hi]
  · rw [if_neg hk, if_neg (fun e => hk e.symm)]
theorem wf_set {ws : List Nat} (h : Wf ws) (i v : Nat) (hv : v < 2 ^ 64) : Wf (ws.set i v) :=
  ⟨by rw [List.length_set]; exact h.len, fun x hx => by
    rcases List.mem_or_eq_of_mem_set hx with h1 | h1
    · exact h.lt x h1
    · rw [h1]; exact hv⟩

/-- One byte more. -/
def add1 (ws : List Nat) (b : Nat) : List Nat := ws.set (b / 64) (word ws (b / 64) ||| 2 ^ (b % 64))
theorem wf_add1 {ws : List Nat} (h : Wf ws) (b : Nat) : Wf (add1 ws b) :=
  wf_set h _ _ (Nat.or_lt_two_pow (word_lt h _) (Nat.pow_lt_pow_right (by decide) (Nat.mod_lt _ (by decide))))
theorem mem_add1 {ws : List Nat} (h : Wf ws) {b c : Nat} (hb : b < 256) : mem (add1 ws b) c = (mem ws c || c == b) := by
  unfold mem add1
  rw [word_set h _ _ _ (by omega)]
  by_cases hk : c / 64 = b / 64
  · rw [if_pos hk, Nat.testBit_or, Nat.testBit_two_pow, hk]
    congr 1
    by_cases hc : c = b
    · subst hc; simp
    · have : ¬ b % 64 = c % 64 := by omega
      simp [hc, this]
  · rw [if_neg hk]
    have : ¬ c = b := by intro e; apply hk; rw [e]
    simp [this]

/-- The bytes of a text. -/
def ofL (l : List UInt8) : List Nat := l.foldl (fun ws c => add1 ws c.toNat) zeroW
theorem foldl_add1 : ∀ (l : List UInt8) (ws : List Nat), Wf ws → Wf (l.foldl (fun ws c => add1 ws c.toNat) ws) ∧ ∀ c, mem (l.foldl (fun ws c => add1 ws c.toNat) ws) c = (mem ws c || l.any fun d => c == d.toNat)
  | [], ws, h => ⟨h, fun c => by simp⟩
  | d :: r, ws, h => by
    obtain ⟨h1, h2⟩ := foldl_add1 r (add1 ws d.toNat) (wf_add1 h _)
    refine ⟨h1, fun c => ?_⟩
    simp only [List.foldl_cons, List.any_cons]
    rw [h2 c, mem_add1 h (UInt8.toNat_lt d), Bool.or_assoc]
theorem wf_ofL (l : List UInt8) : Wf (ofL l) := (foldl_add1 l zeroW wf_zero).1
theorem mem_ofL (l : List UInt8) (c : Nat) : mem (ofL l) c = l.any fun d => c == d.toNat := by
  unfold ofL; rw [(foldl_add1 l zeroW wf_zero).2 c, mem_zero]; simp
theorem ofL_snoc (l : List UInt8) (c : UInt8) : ofL (l ++ [c]) = add1 (ofL l) c.toNat := by unfold ofL; rw [List.foldl_append]; rfl

/-- A range, after k of its bytes. -/
def rangeN (a : Nat) : Nat → List Nat
  | 0 => zeroW
  | k + 1 => add1 (rangeN a k) (a + k)
theorem rangeN_spec (a : Nat) : ∀ k, a + k ≤ 256 → Wf (rangeN a k) ∧ ∀ c, mem (rangeN a k) c = (decide (a ≤ c) && decide (c < a + k))
  | 0, _ => ⟨wf_zero, fun c => by rw [rangeN, mem_zero]; symm; rw [Bool.eq_false_iff]; simp⟩
  | k + 1, h => by
    obtain ⟨h1, h2⟩ := rangeN_spec a k (by omega)
    refine ⟨wf_add1 h1 _, fun c => ?_⟩
    rw [rangeN, mem_add1 h1 (by omega), h2 c]
    rw [Bool.eq_iff_iff]; simp; omega
def rangeW (a b : Nat) : List Nat := rangeN a (b + 1 - a)
theorem wf_rangeW {a b : Nat} (ha : a < 256) (hb : b < 256) : Wf (rangeW a b) := (rangeN_spec a _ (by omega)).1
theorem mem_rangeW {a b : Nat} (ha : a < 256) (hb : b < 256) (c : Nat) : mem (rangeW a b) c = (decide (a ≤ c) && decide (c ≤ b)) := by
  unfold rangeW; rw [(rangeN_spec a _ (by omega)).2 c, Bool.eq_iff_iff]; simp; omega

/-- Two sets together. -/
def or2 (ws vs : List Nat) : List Nat := List.zipWith (· ||| ·) ws vs
theorem word_or2 {ws vs : List Nat} (h : Wf ws) (h' : Wf vs) {i : Nat} (hi : i < 4) : word (or2 ws vs) i = word ws i ||| word vs i := by
  have h1 := word_get h hi
  have h2 := word_get h' hi
  unfold or2
  show ((List.zipWith (· ||| ·) ws vs)[i]?).getD 0 = _
  rw [List.getElem?_zipWith, h1, h2]; rfl
theorem wf_or2 {ws vs : List Nat} (h : Wf ws) (h' : Wf vs) : Wf (or2 ws vs) where
  len := by unfold or2; rw [List.length_zipWith, h.len, h'.len]; rfl
  lt := by
    intro x hx
    obtain ⟨i, hi, rfl⟩ := List.getElem_of_mem hx
    have hi4 : i < 4 := by unfold or2 at hi; rw [List.length_zipWith, h.len, h'.len] at hi; exact hi
    have : word (or2 ws vs) i = (or2 ws vs)[i] := by unfold word; rw [List.getElem?_eq_getElem hi]; rfl
    rw [← this, word_or2 h h' hi4]
    exact Nat.or_lt_two_pow (word_lt h i) (word_lt h' i)
theorem mem_or2 {ws vs : List Nat} (h : Wf ws) (h' : Wf vs) {c : Nat} (hc : c < 256) : mem (or2 ws vs) c = (mem ws c || mem vs c) := by
  unfold mem; rw [word_or2 h h' (by omega), Nat.testBit_or]
def orL (l : List (List Nat)) : List Nat := l.foldl or2 zeroW
theorem orL_spec : ∀ (l : List (List Nat)) (ws : List Nat), Wf ws → (∀ v ∈ l, Wf v) → Wf (l.foldl or2 ws) ∧ ∀ c, c < 256 → mem (l.foldl or2 ws) c = (mem ws c || l.any fun v => mem v c)
  | [], ws, h, _ => ⟨h, fun c _ => by simp⟩
  | v :: r, ws, h, hl => by
    obtain ⟨h1, h2⟩ := orL_spec r (or2 ws v) (wf_or2 h (hl v (by simp))) (fun u hu => hl u (by simp [hu]))
    refine ⟨h1, fun c hc => ?_⟩
    simp only [List.foldl_cons, List.any_cons]
    rw [h2 c hc, mem_or2 h (hl v (by simp)) hc, Bool.or_assoc]
theorem wf_orL {l : List (List Nat)} (hl : ∀ v ∈ l, Wf v) : Wf (orL l) := (orL_spec l zeroW wf_zero hl).1
theorem mem_orL {l : List (List Nat)} (hl : ∀ v ∈ l, Wf v) {c : Nat} (hc : c < 256) : mem (orL l) c = l.any fun v => mem v c := by
  unfold orL; rw [(orL_spec l zeroW wf_zero hl).2 c hc, mem_zero]; simp

/-- All others. -/
def notW (ws : List Nat) : List Nat := ws.map fun x => 2 ^ 64 - 1 - x
theorem wf_notW {ws : List Nat} (h : Wf ws) : Wf (notW ws) :=
  ⟨by unfold notW; rw [List.length_map]; exact h.len, fun x hx => by
    unfold notW at hx
    obtain ⟨y, hy, rfl⟩ := List.mem_map.1 hx
    omega⟩
theorem word_notW {ws : List Nat} (h : Wf ws) {i : Nat} (hi : i < 4) : word (notW ws) i = 2 ^ 64 - 1 - word ws i := by
  have h1 := word_get h hi
  unfold notW
  show ((ws.map _)[i]?).getD 0 = _
  rw [List.getElem?_map, h1]; rfl
theorem mem_notW {ws : List Nat} (h : Wf ws) {c : Nat} (hc : c < 256) : mem (notW ws) c = !mem ws c := by
  unfold mem
  rw [word_notW h (by omega)]
  have := Nat.testBit_two_pow_sub_succ (word_lt h (c / 64)) (c % 64)
  rw [show 2 ^ 64 - 1 - word ws (c / 64) = 2 ^ 64 - (word ws (c / 64) + 1) from by omega, this]
  simp [Nat.mod_lt c (show 64 > 0 by decide)]

/-- How many, and which, rising. -/
def bytesN (ws : List Nat) : List Nat := (List.range 256).filter (mem ws)
def sizeW (ws : List Nat) : Nat := (bytesN ws).length

/-- After k rounds of Not. -/
def notK (ws : List Nat) : Nat → List Nat
  | 0 => ws
  | k + 1 => (notK ws k).set k (2 ^ 64 - 1 - word (notK ws k) k)
theorem notK_spec {ws : List Nat} (h : Wf ws) : ∀ k, k ≤ 4 → Wf (notK ws k) ∧ ∀ i, i < 4 → word (notK ws k) i = if i < k then 2 ^ 64 - 1 - word ws i else word ws i
  | 0, _ => ⟨h, fun i _ => by rw [notK, if_neg (by omega)]⟩
  | k + 1, hk => by
    obtain ⟨h1, h2⟩ := notK_spec h k (by omega)
    refine ⟨wf_set h1 _ _ (by omega), fun i hi => ?_⟩
    rw [notK, word_set h1 _ _ _ (by omega)]
    by_cases he : i = k
    · subst he; rw [if_pos rfl, if_pos (by omega), h2 i hi, if_neg (by omega)]
    · rw [if_neg he, h2 i hi]
      by_cases hl : i < k
      · rw [if_pos hl, if_pos (by omega)]
      · rw [if_neg hl, if_neg (by omega)]
theorem ext_word {ws vs : List Nat} (h : Wf ws) (h' : Wf vs) (he : ∀ i, i < 4 → word ws i = word vs i) : ws = vs := by
  apply List.ext_getElem?
  intro i
  by_cases hi : i < 4
  · rw [word_get h hi, word_get h' hi, he i hi]
  · rw [List.getElem?_eq_none (by rw [h.len]; omega), List.getElem?_eq_none (by rw [h'.len]; omega)]
theorem notK_four {ws : List Nat} (h : Wf ws) : notK ws 4 = notW ws := by
  obtain ⟨h1, h2⟩ := notK_spec h 4 (by omega)
  exact ext_word h1 (wf_notW h) fun i hi => by rw [h2 i hi, if_pos hi, word_notW h hi]
/-- After k rounds of a set that is put in. -/
def orK (ws vs : List Nat) : Nat → List Nat
  | 0 => ws
  | k + 1 => (orK ws vs k).set k (word (orK ws vs k) k ||| word vs k)
theorem orK_spec {ws vs : List Nat} (h : Wf ws) (hv : Wf vs) : ∀ k, k ≤ 4 → Wf (orK ws vs k) ∧ ∀ i, i < 4 → word (orK ws vs k) i = if i < k then word ws i ||| word vs i else word ws i
  | 0, _ => ⟨h, fun i _ => by rw [orK, if_neg (by omega)]⟩
  | k + 1, hk => by
    obtain ⟨h1, h2⟩ := orK_spec h hv k (by omega)
    refine ⟨wf_set h1 _ _ (Nat.or_lt_two_pow (word_lt h1 _) (word_lt hv _)), fun i hi => ?_⟩
    rw [orK, word_set h1 _ _ _ (by omega)]
    by_cases he : i = k
    · subst he; rw [if_pos rfl, if_pos (by omega), h2 i hi, if_neg (by omega)]
    · rw [if_neg he, h2 i hi]
      by_cases hl : i < k
      · rw [if_pos hl, if_pos (by omega)]
      · rw [if_neg hl, if_neg (by omega)]
theorem orK_four {ws vs : List Nat} (h : Wf ws) (hv : Wf vs) : orK ws vs 4 = or2 ws vs := by
  obtain ⟨h1, h2⟩ := orK_spec h hv 4 (by omega)
  exact ext_word h1 (wf_or2 h hv) fun i hi => by rw [h2 i hi, if_pos hi, word_or2 h hv hi]
end Go.Proofs.YtdjedjfanfbbcaaGreatDoor.St
