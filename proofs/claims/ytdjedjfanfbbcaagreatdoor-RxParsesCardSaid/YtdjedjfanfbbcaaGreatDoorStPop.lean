/- The count of set bits, by eights: plain facts for the code of bits.OnesCount64. -/
import Derived.Laws.BitsAllLaws
import Derived.Test.YtdjedjfanfbbcaaGreatDoorStPlain
namespace Go.Proofs.YtdjedjfanfbbcaaGreatDoor.St
set_option linter.unusedVariables false
set_option linter.unusedSimpArgs false
def val : List Nat → Nat
  | [] => 0
  | b :: r => b + 256 * val r
theorem and_split (a m R M : Nat) (ha : a < 256) (hm : m < 256) : (a + 256 * R) &&& (m + 256 * M) = (a &&& m) + 256 * (R &&& M) := by
  have ham : a &&& m < 256 := Nat.lt_of_le_of_lt Nat.and_le_left ha
  apply Nat.eq_of_testBit_eq
  intro j
  rw [show (256 : Nat) = 2 ^ 8 from rfl] at *
  rw [Nat.testBit_and, Nat.add_comm a, Nat.add_comm m, Nat.add_comm (a &&& m), Nat.testBit_two_pow_mul_add _ ha, Nat.testBit_two_pow_mul_add _ hm, Nat.testBit_two_pow_mul_add _ ham]
  split
  · rw [Nat.testBit_and]
  · rw [Nat.testBit_and]
/-- A mask of equal bytes. -/
def rep (m : Nat) : Nat → Nat
  | 0 => 0
  | n + 1 => m + 256 * rep m n
theorem and_rep {m : Nat} (hm : m < 256) : ∀ (l : List Nat), (∀ b ∈ l, b < 256) → val l &&& rep m l.length = val (l.map (· &&& m))
  | [], _ => by simp [val]
  | b :: r, h => by
    simp only [val, rep, List.length_cons, List.map_cons]
    rw [and_split _ _ _ _ (h b (by simp)) hm, and_rep hm r (fun c hc => h c (by simp [hc]))]
theorem shr_rep {m s : Nat} (hm : m < 256) (hs : s = 1 ∨ s = 2) (hd : ∀ b, b < 256 → ∀ t, t < 2 ^ s → (b / 2 ^ s + 2 ^ (8 - s) * t) &&& m = (b / 2 ^ s) &&& m) : ∀ (l : List Nat), (∀ b ∈ l, b < 256) → val l / 2 ^ s &&& rep m l.length = val (l.map fun b => b / 2 ^ s &&& m)
  | [], _ => by simp [val, rep]
  | b :: r, h => by
    simp only [val, rep, List.length_cons, List.map_cons]
    have hb := h b (by simp)
    have e : (b + 256 * val r) / 2 ^ s = (b / 2 ^ s + 2 ^ (8 - s) * (val r % 2 ^ s)) + 256 * (val r / 2 ^ s) := by
      rcases hs with rfl | rfl
      · simp only [Nat.reducePow, Nat.reduceSub]; omega
      · simp only [Nat.reducePow, Nat.reduceSub]; omega
    have hlt : b / 2 ^ s + 2 ^ (8 - s) * (val r % 2 ^ s) < 256 := by
      rcases hs with rfl | rfl
      · simp only [Nat.reducePow, Nat.reduceSub]; omega
      · simp only [Nat.reducePow, Nat.reduceSub]; omega
    rw [e, and_split _ _ _ _ hlt hm, hd b hb _ (Nat.mod_lt _ (Nat.two_pow_pos s)), shr_rep hm hs hd r (fun c hc => h c (by simp [hc]))]
theorem val_add : ∀ (l : List Nat) (f g : Nat → Nat), val (l.map f) + val (l.map g) = val (l.map fun b => f b + g b)
  | [], _, _ => rfl
  | b :: r, f, g => by
    have := val_add r f g
    simp only [val, List.map_cons]
    omega
def s1 (b : Nat) : Nat := (b / 2 &&& 85) + (b &&& 85)
def s2 (b : Nat) : Nat := (b / 4 &&& 51) + (b &&& 51)
def s3 (b : Nat) : Nat := (b / 16 + b) &&& 15
theorem step1 (l : List Nat) (h : ∀ b ∈ l, b < 256) : (val l / 2 &&& rep 85 l.length) + (val l &&& rep 85 l.length) = val (l.map s1) := by
  have a := shr_rep (m := 85) (s := 1) (by decide) (.inl rfl) (by decide +kernel) l h
  have b := and_rep (m := 85) (by decide) l h
  simp only [Nat.reducePow] at a
  rw [a, b, val_add]; rfl
theorem step2 (l : List Nat) (h : ∀ b ∈ l, b < 256) : (val l / 4 &&& rep 51 l.length) + (val l &&& rep 51 l.length) = val (l.map s2) := by
  have a := shr_rep (m := 51) (s := 2) (by decide) (.inr rfl) (by decide +kernel) l h
  have b := and_rep (m := 51) (by decide) l h
  simp only [Nat.reducePow] at a
  rw [a, b, val_add]; rfl
theorem step3 : ∀ (l : List Nat), (∀ b ∈ l, b % 16 ≤ 4 ∧ b / 16 ≤ 4) → (val l / 16 + val l &&& rep 15 l.length) = val (l.map s3)
  | [], _ => rfl
  | b :: r, h => by
    have hb := h b (by simp)
    have hr : val r % 16 ≤ 4 := by
      match r, h with
      | [], _ => simp [val]
      | c :: r', h => have := h c (by simp); simp only [val]; omega
    simp only [val, rep, List.length_cons, List.map_cons]
    have e : (b + 256 * val r) / 16 + (b + 256 * val r) = (b / 16 + b + 16 * (val r % 16)) + 256 * (val r / 16 + val r) := by omega
    rw [e, and_split _ _ _ _ (by omega) (by decide), step3 r (fun c hc => h c (by simp [hc]))]
    have e2 : ∀ t u, t < 256 → u ≤ 4 → (t + 16 * u < 256) → (t + 16 * u) &&& 15 = t &&& 15 := by
      intro t u _ _ _
      rw [show (15 : Nat) = 2 ^ 4 - 1 from rfl, Nat.and_two_pow_sub_one_eq_mod, Nat.and_two_pow_sub_one_eq_mod]; omega
    rw [e2 _ _ (by omega) hr (by omega)]; rfl

def bitsN : Nat → Nat → Nat
  | 0, _ => 0
  | n + 1, x => x % 2 + bitsN n (x / 2)
theorem s123 : ∀ b, b < 256 → s3 (s2 (s1 b)) = bitsN 8 b ∧ s1 b < 256 ∧ s2 (s1 b) < 256 ∧ s2 (s1 b) % 16 ≤ 4 ∧ s2 (s1 b) / 16 ≤ 4 ∧ bitsN 8 b ≤ 8 := by decide +kernel
theorem bitsN_cut : ∀ k n x, bitsN (k + n) x = bitsN k (x % 2 ^ k) + bitsN n (x / 2 ^ k)
  | 0, n, x => by simp [bitsN]
  | k + 1, n, x => by
    rw [show k + 1 + n = (k + n) + 1 from by omega, bitsN, bitsN, bitsN_cut k n (x / 2), Nat.mod_mod_of_dvd x (by rw [Nat.pow_succ]; exact Nat.dvd_mul_left 2 (2 ^ k)), Nat.div_div_eq_div_mul, Nat.pow_succ, Nat.mul_comm 2, Nat.mod_mul_left_div_self]
    omega

theorem bitsN_count : ∀ n x, ((List.range n).filter fun i => x.testBit i).length = bitsN n x
  | 0, _ => rfl
  | n + 1, x => by
    rw [List.range_succ_eq_map, List.filter_cons, bitsN, ← bitsN_count n (x / 2), List.filter_map]
    have e : (fun i => x.testBit i) ∘ Nat.succ = fun i => (x / 2).testBit i := by funext i; simp [Nat.testBit_succ]
    rw [e]
    by_cases h : x % 2 = 1
    · rw [if_pos (by simp [Nat.testBit_zero, h]), h, List.length_cons, List.length_map, Nat.add_comm]
    · rw [if_neg (by simp [Nat.testBit_zero, h]), show x % 2 = 0 from by omega, Nat.zero_add, List.length_map]
theorem val_le (m : Nat) : ∀ l : List Nat, (∀ b ∈ l, b ≤ m) → val l ≤ rep m l.length
  | [], _ => Nat.le_refl _
  | b :: r, h => by
    have := val_le m r (fun c hc => h c (by simp [hc]))
    have := h b (by simp)
    simp only [val, rep, List.length_cons]
    omega
/-- The bytes of a word. -/
def by8 (x : Nat) : List Nat := [x % 256, x / 256 % 256, x / 65536 % 256, x / 16777216 % 256, x / 4294967296 % 256, x / 1099511627776 % 256, x / 281474976710656 % 256, x / 72057594037927936 % 256]
theorem by8_val {x : Nat} (h : x < 2 ^ 64) : val (by8 x) = x := by
  simp only [by8, val]; omega
theorem by8_bits {x : Nat} (h : x < 2 ^ 64) : bitsN 64 x = ((by8 x).map (bitsN 8)).sum := by
  have e : ∀ n x, bitsN (8 + n) x = bitsN 8 (x % 256) + bitsN n (x / 256) := fun n x => bitsN_cut 8 n x
  rw [show 64 = 8 + 56 from rfl, e, show 56 = 8 + 48 from rfl, e, show 48 = 8 + 40 from rfl, e, show 40 = 8 + 32 from rfl, e, show 32 = 8 + 24 from rfl, e, show 24 = 8 + 16 from rfl, e, show 16 = 8 + 8 from rfl, e]
  simp only [Nat.div_div_eq_div_mul, Nat.reduceMul]
  have : bitsN 8 (x / 72057594037927936) = bitsN 8 (x / 72057594037927936 % 256) := by congr 1; omega
  rw [this]
  simp only [by8, List.map_cons, List.map_nil, List.sum_cons, List.sum_nil]
  omega
set_option maxHeartbeats 2000000 in
/-- What the code computes. -/
theorem pop_eq {x : Nat} (h : x < 2 ^ 64) : ∃ x1 x2 x3, (x / 2 &&& 6148914691236517205) + (x &&& 6148914691236517205) = x1 ∧ (x1 / 4 &&& 3689348814741910323) + (x1 &&& 3689348814741910323) = x2 ∧ (x2 / 16 + x2 &&& 1085102592571150095) = x3 ∧ x1 < 2 ^ 64 ∧ x2 < 2 ^ 63 ∧ x3 < 2 ^ 60 ∧ (∀ y z u, y = x3 + x3 / 256 → z = y + y / 65536 → u = z + z / 4294967296 → y < 2 ^ 61 ∧ z < 2 ^ 62 ∧ u < 2 ^ 63 ∧ u % 128 = bitsN 64 x) := by
  have hv := by8_val h
  have hl : ∀ b ∈ by8 x, b < 256 := by
    intro b hb
    simp only [by8, List.mem_cons, List.not_mem_nil, or_false] at hb
    omega
  have hl1 : ∀ b ∈ (by8 x).map s1, b < 256 := by
    intro b hb; obtain ⟨c, hc, rfl⟩ := List.mem_map.1 hb; exact (s123 c (hl c hc)).2.1
  have hl2 : ∀ b ∈ ((by8 x).map s1).map s2, b % 16 ≤ 4 ∧ b / 16 ≤ 4 := by
    intro b hb; rw [List.map_map] at hb; obtain ⟨c, hc, rfl⟩ := List.mem_map.1 hb; exact ⟨(s123 c (hl c hc)).2.2.2.1, (s123 c (hl c hc)).2.2.2.2.1⟩
  have t1 := step1 _ hl
  have t2 := step2 _ hl1
  have t3 := step3 _ hl2
  rw [hv] at t1
  have r1 : ∀ m, rep m 8 = m + 256 * (m + 256 * (m + 256 * (m + 256 * (m + 256 * (m + 256 * (m + 256 * m)))))) := by intro m; simp [rep]
  have hlen : (by8 x).length = 8 := rfl
  simp only [List.length_map, hlen, r1, Nat.reduceMul, Nat.reduceAdd] at t1 t2 t3
  have hb8 := by8_bits h
  have hmap : (((by8 x).map s1).map s2).map s3 = (by8 x).map (bitsN 8) := by
    rw [List.map_map, List.map_map]
    apply List.map_congr_left
    intro b hb; exact (s123 b (hl b hb)).1
  rw [hmap] at t3
  refine ⟨_, _, _, t1, t2, t3, ?_, ?_, ?_, ?_⟩
  · have := val_le 255 _ (fun b hb => Nat.le_of_lt_succ (hl1 b hb))
    simp only [List.length_map, hlen, r1, Nat.reduceMul, Nat.reduceAdd] at this
    omega
  · have := val_le 68 _ (fun b hb => by have := hl2 b hb; omega)
    simp only [List.length_map, hlen, r1, Nat.reduceMul, Nat.reduceAdd] at this
    omega
  · have := val_le 8 ((by8 x).map (bitsN 8)) (fun b hb => by obtain ⟨c, hc, rfl⟩ := List.mem_map.1 hb; exact (s123 c (hl c hc)).2.2.2.2.2)
    simp only [List.length_map, hlen, r1, Nat.reduceMul, Nat.reduceAdd] at this
    omega
  · have h8 : ∀ b ∈ (by8 x).map (bitsN 8), b ≤ 8 := fun b hb => by obtain ⟨c, hc, rfl⟩ := List.mem_map.1 hb; exact (s123 c (hl c hc)).2.2.2.2.2
    rw [hb8]
    have hll : ((by8 x).map (bitsN 8)).length = 8 := rfl
    generalize (by8 x).map (bitsN 8) = l at *
    match l, hll with
    | [p0, p1, p2, p3, p4, p5, p6, p7], _ =>
      have q0 := h8 p0 (by simp)
      have q1 := h8 p1 (by simp)
      have q2 := h8 p2 (by simp)
      have q3 := h8 p3 (by simp)
      have q4 := h8 p4 (by simp)
      have q5 := h8 p5 (by simp)
      have q6 := h8 p6 (by simp)
      have q7 := h8 p7 (by simp)
      clear hb8 t1 t2 t3 hmap h8 hl hl1 hl2 hv r1
      intro y z u hy hz hu
      simp only [val, List.sum_cons, List.sum_nil] at *
      have ey : y = (p0 + p1) + 256 * ((p1 + p2) + 256 * ((p2 + p3) + 256 * ((p3 + p4) + 256 * ((p4 + p5) + 256 * ((p5 + p6) + 256 * ((p6 + p7) + 256 * p7)))))) := by rw [hy]; omega
      clear hy
      have ez : z = (p0 + p1 + p2 + p3) + 256 * ((p1 + p2 + p3 + p4) + 256 * ((p2 + p3 + p4 + p5) + 256 * ((p3 + p4 + p5 + p6) + 256 * ((p4 + p5 + p6 + p7) + 256 * ((p5 + p6 + p7) + 256 * ((p6 + p7) + 256 * p7)))))) := by rw [hz, ey]; omega
      clear hz
      refine ⟨by omega, by omega, ?_, ?_⟩
      · omega
      · have eu : u % 256 = p0 + p1 + p2 + p3 + p4 + p5 + p6 + p7 := by
          obtain ⟨L, hL⟩ : ∃ L, L = (p1 + p2 + p3 + p4) + 256 * ((p2 + p3 + p4 + p5) + 256 * (p3 + p4 + p5 + p6)) := ⟨_, rfl⟩
          obtain ⟨M, hM⟩ : ∃ M, M = (p5 + p6 + p7) + 256 * ((p6 + p7) + 256 * p7) := ⟨_, rfl⟩
          have hz2 : z = (p0 + p1 + p2 + p3) + 256 * L + 4294967296 * ((p4 + p5 + p6 + p7) + 256 * M) := by rw [ez, hL, hM]; omega
          have hL2 : L < 4294967296 / 256 := by omega
          clear ez ey hL hM
          have hd : z / 4294967296 = (p4 + p5 + p6 + p7) + 256 * M := by omega
          rw [hd, hz2] at hu
          clear hz2 hd
          omega
        omega

/-- How many in the first words. -/
def sizeK (ws : List Nat) : Nat → Nat
  | 0 => 0
  | k + 1 => sizeK ws k + bitsN 64 (word ws k)
theorem bitsN_le : ∀ n x, bitsN n x ≤ n
  | 0, _ => Nat.le_refl _
  | n + 1, x => by have := bitsN_le n (x / 2); simp only [bitsN]; omega
theorem sizeK_le (ws : List Nat) : ∀ k, sizeK ws k ≤ 64 * k
  | 0 => Nat.le_refl _
  | k + 1 => by have := sizeK_le ws k; have := bitsN_le 64 (word ws k); simp only [sizeK]; omega
theorem sizeK_spec (ws : List Nat) : ∀ k, ((List.range (k * 64)).filter (mem ws)).length = sizeK ws k
  | 0 => rfl
  | k + 1 => by
    rw [show (k + 1) * 64 = k * 64 + 64 from by omega, List.range_add, List.filter_append, List.length_append, sizeK_spec ws k, sizeK, List.filter_map, List.length_map, ← bitsN_count]
    congr 2
    apply List.filter_congr
    intro i hi
    exact mem_bit (List.mem_range.1 hi)
theorem sizeK_four (ws : List Nat) : sizeK ws 4 = sizeW ws := (sizeK_spec ws 4).symm
end Go.Proofs.YtdjedjfanfbbcaaGreatDoor.St
