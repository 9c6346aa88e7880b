import Derived.WalkLawsBesides
namespace Go.Proofs.Ytppllblnbmipbaa.Fl
open Ieee

/-! Words of float64 as whole numbers, in units of two to the power -1074. -/
theorem pl {a b : Nat} (h : a ≤ b) : 2 ^ a ≤ 2 ^ b := Nat.pow_le_pow_right (by decide) h
theorem pp (k : Nat) : 0 < 2 ^ k := Nat.two_pow_pos k
theorem dbl (k : Nat) : 2 ^ (k + 1) = 2 ^ k * 2 := Nat.pow_succ 2 k
theorem padd (a b : Nat) : 2 ^ a * 2 ^ b = 2 ^ (a + b) := (Nat.pow_add 2 a b).symm
def eU : Nat := 1074
def eB : Nat := 2200
def eH : Nat := 1150
def eG : Nat := 1149
def eT : Nat := 2045
theorem eE : eU = 1074 ∧ eB = 2200 ∧ eH = 1150 ∧ eG = 1149 ∧ eT = 2045 := ⟨rfl, rfl, rfl, rfl, rfl⟩
theorem pe {a b : Nat} (h : a = b) : 2 ^ a = 2 ^ b := congrArg _ h
theorem eHG : 2 ^ eH = 2 ^ eG * 2 := (pe (by have := eE; omega : eH = eG + 1)).trans (dbl eG)
def big : Nat := 2 ^ eB
def unit : Nat := 2 ^ eU
def ev : Datum → Option Int
  | .number s m e => some (signed s m (e + 1074).toNat)
  | .infinity s => some (if s then -(big : Int) else big)
  | .nan .. => none

def V (x : Nat) : Option Int := ev (Ieee.double.read x)

theorem least_eq : Ieee.double.leastPlace = -1074 := by decide
theorem binade_eq : Ieee.double.binade = 2 ^ 52 := by decide
theorem inf_eq : Ieee.double.infRung = 2047 * 2 ^ 52 := by decide
theorem sw_eq : Ieee.double.signWeight = 2 ^ 63 := by decide

theorem signed_split (s : Bool) (m p q : Nat) : signed s m (p + q) = signed s m p * (2 ^ q : Nat) := by
  unfold signed
  rw [Nat.shiftLeft_eq, Nat.shiftLeft_eq, Nat.pow_add, ← Nat.mul_assoc]
  cases s <;> simp [Int.neg_mul]

theorem signed_zero (s : Bool) (m : Nat) : signed s m 0 = if s then -(m : Int) else m := by
  unfold signed; cases s <;> simp

theorem natAbs_signed (s : Bool) (m p : Nat) : (signed s m p).natAbs = m * 2 ^ p := by
  unfold signed; rw [Nat.shiftLeft_eq]; cases s <;> simp [Int.natAbs_neg, Int.natAbs_mul, Int.natAbs_pow]

/-- What a word reads as: a number's places. -/
theorem read_num {x : Nat} {s : Bool} {m : Nat} {e : Int} (h : Ieee.double.read x = .number s m e) : -1074 ≤ e ∧ e ≤ 971 ∧ m < 2 ^ 53 := by
  unfold Format.read at h
  simp only [least_eq, binade_eq, inf_eq, sw_eq] at h
  generalize x % 2 ^ 63 = r at h
  split at h
  · rename_i hr
    cases h; refine ⟨by omega, by omega, by omega⟩
  · split at h
    · rename_i h1 h2
      injection h with h3 h4 h5
      subst h4 h5
      have := Nat.mod_lt r (show 2 ^ 52 > 0 by decide)
      have h6 : r / 2 ^ 52 < 2047 := Nat.div_lt_of_lt_mul (by omega)
      omega
    · split at h <;> cases h

theorem cmp_mul (a b : Int) (c : Nat) (hc : 0 < c) : compare (a * c) (b * c) = compare a b := by
  have hc' : (0 : Int) < c := by omega
  have h1 : compare a b = if a < b then .lt else if a = b then .eq else .gt := rfl
  have h2 : compare (a * c) (b * c) = if a * c < b * c then .lt else if a * c = b * c then .eq else .gt := rfl
  rw [h1, h2]
  have e1 : (a * c < b * c) ↔ a < b := Int.mul_lt_mul_right hc'
  have e2 : (a * c = b * c) ↔ a = b := Int.mul_eq_mul_right_iff (by omega)
  simp [e1, e2]

theorem num_lt {s : Bool} {m : Nat} {e : Int} (h2 : e ≤ 971) (h3 : m < 2 ^ 53) :
    signed s m (e + 1074).toNat < big ∧ -(big : Int) < signed s m (e + 1074).toNat := by
  have hE := eE
  have hp : (e + 1074).toNat ≤ eT := by omega
  have h1 : m * 2 ^ (e + 1074).toNat < big := by
    unfold big
    calc m * 2 ^ (e + 1074).toNat < 2 ^ 53 * 2 ^ (e + 1074).toNat := by
          exact (Nat.mul_lt_mul_right (Nat.two_pow_pos _)).2 h3
      _ ≤ 2 ^ 53 * 2 ^ eT := Nat.mul_le_mul_left _ (Nat.pow_le_pow_right (by omega) hp)
      _ ≤ 2 ^ eB := by rw [padd]; exact pl (by omega)
  have h4 := natAbs_signed s m (e + 1074).toNat
  generalize signed s m (e + 1074).toNat = z at h4 ⊢
  omega

theorem order_V (x y : Nat) : Ieee.double.order x y = (V x).bind fun a => (V y).map fun b => compare a b := by
  unfold Format.order V
  cases hx : Ieee.double.read x with
  | nan => simp [Datum.order, ev]
  | infinity s =>
    cases hy : Ieee.double.read y with
    | nan => simp [Datum.order, ev]
    | infinity t =>
      have hb : (0 : Int) < big := Int.ofNat_lt.2 (pp eB)
      cases s <;> cases t <;> simp [Datum.order, ev, compare, compareOfLessAndEq]
      · rw [if_neg (by omega), if_neg (by omega)]
      · intro; omega
    | number t n j =>
      obtain ⟨j1, j2, j3⟩ := read_num hy
      have := num_lt (s := t) j2 j3
      cases s <;> simp [Datum.order, ev, compare, compareOfLessAndEq]
      · generalize signed t n (j + 1074).toNat = z at *
        split
        · omega
        · split
          · omega
          · rfl
      · generalize signed t n (j + 1074).toNat = z at *
        split
        · intro; omega
        · intro; omega
  | number s m i =>
    obtain ⟨i1, i2, i3⟩ := read_num hx
    cases hy : Ieee.double.read y with
    | nan => simp [Datum.order, ev]
    | infinity t =>
      have := num_lt (s := s) i2 i3
      cases t <;> simp [Datum.order, ev, compare, compareOfLessAndEq]
      · generalize signed s m (i + 1074).toNat = z at *
        split
        · intro; omega
        · intro; omega
      · generalize signed s m (i + 1074).toNat = z at *
        split
        · omega
        · split
          · omega
          · rfl
    | number t n j =>
      obtain ⟨j1, j2, j3⟩ := read_num hy
      simp only [Datum.order, ev, Option.bind_some, Option.map_some]
      congr 1
      have e1 : (i + 1074).toNat = (i - min i j).toNat + (min i j + 1074).toNat := by omega
      have e2 : (j + 1074).toNat = (j - min i j).toNat + (min i j + 1074).toNat := by omega
      rw [e1, e2, signed_split, signed_split, cmp_mul _ _ _ (Nat.two_pow_pos _)]

def geB (x y : Nat) : Bool := match V x, V y with | some a, some b => decide (b ≤ a) | _, _ => false
def leB (x y : Nat) : Bool := match V x, V y with | some a, some b => decide (a ≤ b) | _, _ => false
def ltB (x y : Nat) : Bool := match V x, V y with | some a, some b => decide (a < b) | _, _ => false
def gtB (x y : Nat) : Bool := match V x, V y with | some a, some b => decide (b < a) | _, _ => false
def eqB (x y : Nat) : Bool := match V x, V y with | some a, some b => decide (a = b) | _, _ => false

theorem cmp_cases (a b : Int) : (a < b ∧ compare a b = .lt) ∨ (a = b ∧ compare a b = .eq) ∨ (b < a ∧ compare a b = .gt) := by
  have h1 : compare a b = if a < b then .lt else if a = b then .eq else .gt := rfl
  rw [h1]
  by_cases h : a < b
  · simp [h]
  · by_cases h' : a = b
    · simp [h']
    · right; right; simp [h, h']; omega

theorem order_ge (x y : Nat) : (Ieee.double.order x y == some .gt || Ieee.double.order x y == some .eq) = geB x y := by
  rw [order_V]; unfold geB
  cases V x <;> cases V y <;> simp
  rename_i a b
  rcases cmp_cases a b with ⟨h, e⟩ | ⟨h, e⟩ | ⟨h, e⟩ <;> rw [e] <;> simp <;> omega
theorem order_le (x y : Nat) : (Ieee.double.order x y == some .lt || Ieee.double.order x y == some .eq) = leB x y := by
  rw [order_V]; unfold leB
  cases V x <;> cases V y <;> simp
  rename_i a b
  rcases cmp_cases a b with ⟨h, e⟩ | ⟨h, e⟩ | ⟨h, e⟩ <;> rw [e] <;> simp <;> omega
theorem order_lt (x y : Nat) : (Ieee.double.order x y == some .lt) = ltB x y := by
  rw [order_V]; unfold ltB
  cases V x <;> cases V y <;> simp
  rename_i a b
  rcases cmp_cases a b with ⟨h, e⟩ | ⟨h, e⟩ | ⟨h, e⟩ <;> rw [e] <;> simp <;> omega
theorem order_gt (x y : Nat) : (Ieee.double.order x y == some .gt) = gtB x y := by
  rw [order_V]; unfold gtB
  cases V x <;> cases V y <;> simp
  rename_i a b
  rcases cmp_cases a b with ⟨h, e⟩ | ⟨h, e⟩ | ⟨h, e⟩ <;> rw [e] <;> simp <;> omega
theorem order_eq (x y : Nat) : (Ieee.double.order x y == some .eq) = eqB x y := by
  rw [order_V]; unfold eqB
  cases V x <;> cases V y <;> simp
  rename_i a b
  rcases cmp_cases a b with ⟨h, e⟩ | ⟨h, e⟩ | ⟨h, e⟩ <;> rw [e] <;> simp <;> omega

theorem unit_pos : (0 : Int) < unit := Int.ofNat_lt.2 (pp eU)
def most : Nat := 4741671816358002688
theorem V_zero : V 0 = some 0 := by decide +kernel
theorem V_most : V most = some (999999999 * (unit : Int)) := by decide +kernel
theorem V_none : V 13830554455654793216 = some (-1 * (unit : Int)) := by decide +kernel

def tr (x : Nat) : Int := (floatToIntVal .f64 x .i64).getD 0

theorem log2_le_of_lt {m k : Nat} (h : m < 2 ^ k) : m.log2 ≤ k := by
  by_cases hm : m = 0
  · subst hm; simp
  · have := (Nat.log2_lt hm).2 h; omega

theorem cut_zero (s : Bool) (n drop : Nat) : Toward.zero.cut s n drop = n / 2 ^ drop := by
  unfold Toward.cut
  simp only [Bool.toNat_false, Nat.add_zero, Nat.shiftLeft_eq, Nat.one_mul]
  by_cases h : drop ≤ n.log2 + 2
  · rw [Nat.min_eq_left h]
  · rw [Nat.min_eq_right (by omega)]
    have h1 : n < 2 ^ (n.log2 + 1) := Nat.lt_log2_self
    have h2 : n < 2 ^ (n.log2 + 2) := Nat.lt_of_lt_of_le h1 (Nat.pow_le_pow_right (by omega) (by omega))
    have h3 : n < 2 ^ drop := Nat.lt_of_lt_of_le h2 (Nat.pow_le_pow_right (by omega) (by omega))
    rw [Nat.div_eq_of_lt h2, Nat.div_eq_of_lt h3]

/-- Truncation of a word between nought and the greatest number. -/
theorem tr_of {x : Nat} {v : Int} (hv : V x = some v) (h0 : 0 ≤ v) (h1 : v ≤ 999999999 * (unit : Int)) :
    floatToIntVal .f64 x .i64 = some (tr x) ∧ tr x = v / unit := by
  have key : ((Ieee.double.read x).toInt .zero) = some (v / unit) := by
    unfold V at hv
    cases hx : Ieee.double.read x with
    | nan => rw [hx] at hv; cases hv
    | infinity s =>
      rw [hx] at hv
      simp only [ev, Option.some.injEq] at hv
      have hb : (999999999 * (unit : Int)) < big := by
        have hE := eE
        have : 999999999 * unit < big := by
          unfold unit big
          calc 999999999 * 2 ^ eU < 2 ^ 30 * 2 ^ eU := (Nat.mul_lt_mul_right (Nat.two_pow_pos _)).2 (by decide)
            _ ≤ 2 ^ eB := by rw [padd]; exact pl (by omega)
        omega
      have := unit_pos
      cases s <;> simp at hv <;> omega
    | number s m i =>
      rw [hx] at hv
      obtain ⟨i1, i2, i3⟩ := read_num hx
      simp only [ev, Option.some.injEq] at hv
      subst hv
      simp only [Datum.toInt, Datum.integral]
      rw [cut_zero, signed_zero]
      congr 1
      rw [Nat.shiftLeft_eq]
      have hE := eE
      have hcut : m * 2 ^ i.toNat / 2 ^ (-i).toNat = m * 2 ^ (i + 1074).toNat / unit := by
        unfold unit
        by_cases hi : 0 ≤ i
        · have e1 : (i + 1074).toNat = i.toNat + eU := by omega
          have e2 : (-i).toNat = 0 := by omega
          rw [e1, e2, Nat.pow_add, ← Nat.mul_assoc, Nat.mul_div_cancel _ (Nat.two_pow_pos _)]; simp
        · have e1 : i.toNat = 0 := by omega
          have e2 : eU = (i + 1074).toNat + (-i).toNat := by omega
          rw [e1]
          conv => rhs; rw [e2, Nat.pow_add]
          rw [← Nat.div_div_eq_div_mul]
          rw [Nat.mul_div_cancel _ (Nat.two_pow_pos _)]; simp
      rw [hcut]
      unfold signed at h0 ⊢
      rw [Nat.shiftLeft_eq] at h0 ⊢
      cases s
      · simp
      · simp at h0
        have : m * 2 ^ (i + 1074).toNat = 0 := by
          have h2 : ((m * 2 ^ (i + 1074).toNat : Nat) : Int) ≤ 0 := by simpa using h0
          omega
        rw [this]; simp
  have hd : v / unit ≤ 999999999 := by
    apply Int.ediv_le_of_le_mul unit_pos h1
  have hn : 0 ≤ v / unit := Int.ediv_nonneg h0 (by have := unit_pos; omega)
  have : floatToIntVal .f64 x .i64 = some (v / unit) := by
    unfold floatToIntVal
    have : FloatKind.f64.decode x = Ieee.double.read x := rfl
    rw [this, key]
    simp only
    rw [if_pos]
    simp [IntKind.min, IntKind.max, IntKind.signed, IntKind.bits]; omega
  unfold tr
  rw [this]; simp

/-- What the nearest even one of 'n / 2 ^ drop' is, told by its bounds. -/
theorem cut_even (s : Bool) (n drop : Nat) (hd : drop ≤ n.log2 + 2) :
    (∀ q, q * 2 ^ drop ≤ n → q ≤ Toward.even.cut s n drop) ∧ (∀ q, n ≤ q * 2 ^ drop → Toward.even.cut s n drop ≤ q) := by
  unfold Toward.cut
  simp only [Nat.shiftLeft_eq, Nat.one_mul]
  rw [Nat.min_eq_left hd]
  have hg : 0 < 2 ^ drop := Nat.two_pow_pos _
  generalize 2 ^ drop = g at *
  have hdm := Nat.div_add_mod n g
  have hlt := Nat.mod_lt n hg
  constructor
  · intro q hq
    have : q ≤ n / g := (Nat.le_div_iff_mul_le hg).2 hq
    omega
  · intro q hq
    by_cases hr : n % g = 0
    · have hm : (decide (g < 2 * (n % g)) || g == 2 * (n % g) && n / g % 2 == 1) = false := by
        rw [hr]; simp; omega
      rw [hm]
      simp
      rw [Nat.mul_comm] at hq
      exact Nat.div_le_of_le_mul hq
    · have h1 : n / g < q := by
        rw [Nat.div_lt_iff_lt_mul hg]
        rcases Nat.lt_or_ge n (q * g) with h | h
        · exact h
        · have : n = q * g := by omega
          exfalso; apply hr; rw [this]; simp
      generalize (decide (g < 2 * (n % g)) || g == 2 * (n % g) && n / g % 2 == 1) = b
      cases b <;> simp <;> omega

theorem read_word (s : Bool) (r : Nat) (hr : r < 2047 * 2 ^ 52) :
    V (Ieee.double.word s r) = some (if s then -((if r < 2 ^ 52 then r else (2 ^ 52 + r % 2 ^ 52) * 2 ^ (r / 2 ^ 52 - 1) : Nat) : Int) else ((if r < 2 ^ 52 then r else (2 ^ 52 + r % 2 ^ 52) * 2 ^ (r / 2 ^ 52 - 1) : Nat) : Int)) := by
  have h1 : Ieee.double.word s r / 2 ^ 63 % 2 = s.toNat := by
    unfold Format.word; rw [sw_eq]; cases s <;> simp <;> omega
  have h2 : Ieee.double.word s r % 2 ^ 63 = r := by
    unfold Format.word; rw [sw_eq]; cases s <;> simp <;> omega
  unfold V Format.read
  simp only [least_eq, binade_eq, inf_eq, sw_eq, h1, h2]
  have h3 : (s.toNat == 1) = s := by cases s <;> rfl
  rw [h3]
  by_cases h : r < 2 ^ 52
  · rw [if_pos h, if_pos h]
    simp only [ev]
    unfold signed
    simp
  · rw [if_neg h, if_neg h, if_pos hr]
    simp only [ev]
    unfold signed
    have e : (-1074 + ((r / 2 ^ 52 - 1 : Nat) : Int) + 1074).toNat = r / 2 ^ 52 - 1 := by omega
    rw [e, Nat.shiftLeft_eq]

/-- WHAT THE NEAREST WORD OF A NUMBER STANDS FOR. -/
theorem nearest_V (s : Bool) (mag : Nat) (place : Int) (hm : mag ≠ 0) (hp : -1074 ≤ place) (U : Nat) (hU : U = mag * 2 ^ (place + 1074).toNat) (hb : U < 2 ^ eH) :
    ∃ k : Nat, V (Ieee.double.nearest s mag place) = some (if s then -((k * 2 ^ (U.log2 - 52) : Nat) : Int) else ((k * 2 ^ (U.log2 - 52) : Nat) : Int)) ∧
      (∀ q, q * 2 ^ (U.log2 - 52) ≤ U → q ≤ k) ∧ (∀ q, U ≤ q * 2 ^ (U.log2 - 52) → k ≤ q) := by
  have hUne : U ≠ 0 := by
    rw [hU]; exact Nat.mul_ne_zero hm (Nat.pos_iff_ne_zero.1 (Nat.two_pow_pos _))
  have hlog : U.log2 = mag.log2 + (place + 1074).toNat := by
    have h1 := Nat.log2_self_le hm
    have h2 := Nat.lt_log2_self (n := mag)
    refine (Nat.log2_eq_iff hUne).2 ⟨?_, ?_⟩
    · rw [Nat.pow_add, hU]; exact Nat.mul_le_mul_right _ h1
    · rw [hU, show mag.log2 + (place + 1074).toNat + 1 = (mag.log2 + 1) + (place + 1074).toNat from by omega, Nat.pow_add]
      exact (Nat.mul_lt_mul_right (Nat.two_pow_pos _)).2 h2
  have hE := eE
  have hl : U.log2 < eH := (Nat.log2_lt hUne).2 hb
  generalize hL : U.log2 - 52 = L at *
  unfold Format.nearest
  rw [if_neg hm]
  simp only [least_eq, binade_eq, inf_eq]
  have hfb : (Ieee.double.fractionBits : Int) = 52 := rfl
  rw [hfb]
  have hlast : max (place + (mag.log2 : Int) - 52) (-1074) = (L : Int) - 1074 := by omega
  rw [hlast]
  have e1 : ((L : Int) - 1074 - (-1074)).toNat = L := by omega
  rw [e1]
  generalize hk : Toward.even.cut s (mag <<< (place - ((L : Int) - 1074)).toNat) (((L : Int) - 1074) - place).toNat = k
  have bounds : (∀ q, q * 2 ^ L ≤ U → q ≤ k) ∧ (∀ q, U ≤ q * 2 ^ L → k ≤ q) := by
    by_cases hc : (L : Int) - 1074 ≤ place
    · have e2 : (((L : Int) - 1074) - place).toNat = 0 := by omega
      have e3 : (place + 1074).toNat = (place - ((L : Int) - 1074)).toNat + L := by omega
      rw [e2] at hk
      have hc := cut_even s (mag <<< (place - ((L : Int) - 1074)).toNat) 0 (by omega)
      rw [hk] at hc
      rw [Nat.shiftLeft_eq] at hc
      rw [e3, Nat.pow_add, ← Nat.mul_assoc] at hU
      rw [hU]
      refine ⟨fun q hq => hc.1 q ?_, fun q hq => hc.2 q ?_⟩
      · have := Nat.le_of_mul_le_mul_right hq (Nat.two_pow_pos L); simpa using this
      · have := Nat.le_of_mul_le_mul_right hq (Nat.two_pow_pos L); simpa using this
    · have e2 : (place - ((L : Int) - 1074)).toNat = 0 := by omega
      have e3 : L = (((L : Int) - 1074) - place).toNat + (place + 1074).toNat := by omega
      rw [e2] at hk
      have hc := cut_even s (mag <<< 0) (((L : Int) - 1074) - place).toNat (by simp; omega)
      rw [hk] at hc
      rw [Nat.shiftLeft_eq, Nat.pow_zero, Nat.mul_one] at hc
      generalize (((L : Int) - 1074) - place).toNat = d at *
      rw [hU, e3]
      refine ⟨fun q hq => hc.1 q ?_, fun q hq => hc.2 q ?_⟩
      · rw [Nat.pow_add, ← Nat.mul_assoc] at hq; exact Nat.le_of_mul_le_mul_right hq (Nat.two_pow_pos _)
      · rw [Nat.pow_add, ← Nat.mul_assoc] at hq; exact Nat.le_of_mul_le_mul_right hq (Nat.two_pow_pos _)
  refine ⟨k, ?_, bounds.1, bounds.2⟩
  have hUlt : U < 2 ^ (U.log2 + 1) := Nat.lt_log2_self
  have hUge : 2 ^ U.log2 ≤ U := Nat.log2_self_le hUne
  have hk53 : k ≤ 2 ^ 53 := by
    apply bounds.2
    rw [← Nat.pow_add]
    exact Nat.le_of_lt (Nat.lt_of_lt_of_le hUlt (Nat.pow_le_pow_right (by omega) (by omega)))
  by_cases hbig : 52 ≤ U.log2
  · have hk52 : 2 ^ 52 ≤ k := by
      apply bounds.1
      rw [← Nat.pow_add]
      exact Nat.le_trans (Nat.pow_le_pow_right (by omega) (by omega)) hUge
    have hlt : L * 2 ^ 52 + k < 2047 * 2 ^ 52 := by omega
    rw [Nat.min_eq_left (by omega)]
    rw [read_word s _ hlt]
    have : (if L * 2 ^ 52 + k < 2 ^ 52 then L * 2 ^ 52 + k else (2 ^ 52 + (L * 2 ^ 52 + k) % 2 ^ 52) * 2 ^ ((L * 2 ^ 52 + k) / 2 ^ 52 - 1) : Nat) = k * 2 ^ L := by
      rw [if_neg (by omega)]
      by_cases hk' : k = 2 ^ 53
      · have e5 : (L * 2 ^ 52 + k) % 2 ^ 52 = 0 := by omega
        have e6 : (L * 2 ^ 52 + k) / 2 ^ 52 - 1 = L + 1 := by omega
        rw [e5, e6, hk', Nat.add_zero, Nat.pow_succ 2 L, show (2 : Nat) ^ 53 = 2 ^ 52 * 2 from by decide, Nat.mul_assoc, Nat.mul_comm (2 ^ L) 2]
      · have e5 : (L * 2 ^ 52 + k) % 2 ^ 52 = k - 2 ^ 52 := by omega
        have e6 : (L * 2 ^ 52 + k) / 2 ^ 52 - 1 = L := by omega
        rw [e5, e6, show 2 ^ 52 + (k - 2 ^ 52) = k from by omega]
    rw [this]
  · have hL0 : L = 0 := by omega
    subst hL0
    have hkU : k = U := by
      have a1 := bounds.1 U (by simp)
      have a2 := bounds.2 U (by simp)
      omega
    have hU52 : U < 2 ^ 52 := Nat.lt_of_lt_of_le hUlt (Nat.pow_le_pow_right (by omega) (by omega))
    rw [Nat.min_eq_left (by omega)]
    rw [read_word s _ (by omega)]
    have : (if 0 * 2 ^ 52 + k < 2 ^ 52 then 0 * 2 ^ 52 + k else (2 ^ 52 + (0 * 2 ^ 52 + k) % 2 ^ 52) * 2 ^ ((0 * 2 ^ 52 + k) / 2 ^ 52 - 1) : Nat) = k * 2 ^ 0 := by
      rw [if_pos (by omega)]; omega
    rw [this]

/-- A word of a datum that is a number: exact where it can be, and on the right side of each whole number. -/
theorem write_V (s : Bool) (mag : Nat) (place : Int) (hp : -1074 ≤ place) (v : Int) (hv : v = if s then -((mag * 2 ^ (place + 1074).toNat : Nat) : Int) else ((mag * 2 ^ (place + 1074).toNat : Nat) : Int)) (hb : v.natAbs < 2 ^ eH) :
    ∃ r, V (Ieee.double.nearest s mag place) = some r ∧ (∀ k : Int, k.natAbs < 2 ^ 53 → v = k * unit → r = v) ∧
      (∀ k : Nat, 0 < k → k < 2 ^ 53 → (k : Int) * unit ≤ v → (k : Int) * unit ≤ r) ∧ (∀ k : Nat, 0 < k → k < 2 ^ 53 → v ≤ -((k : Int) * unit) → r ≤ -((k : Int) * unit)) := by
  have hE := eE
  by_cases hm : mag = 0
  · subst hm
    refine ⟨0, ?_, ?_, ?_, ?_⟩
    · unfold Format.nearest
      rw [if_pos rfl, read_word _ _ (by decide)]; cases s <;> simp
    · intro k _ hk; rw [hv]; cases s <;> simp
    · intro k h1 h2 h3; exfalso
      have : v = 0 := by rw [hv]; cases s <;> simp
      have h4 : 0 < (k : Int) * unit := Int.mul_pos (by omega) unit_pos
      omega
    · intro k h1 h2 h3; exfalso
      have : v = 0 := by rw [hv]; cases s <;> simp
      have h4 : 0 < (k : Int) * unit := Int.mul_pos (by omega) unit_pos
      omega
  · obtain ⟨U, hU⟩ : ∃ U, U = mag * 2 ^ (place + 1074).toNat := ⟨_, rfl⟩
    have hUv : v.natAbs = U := by rw [hv, ← hU]; cases s <;> simp
    obtain ⟨k0, h1, h2, h3⟩ := nearest_V s mag place hm hp U hU (by omega)
    have hUne : U ≠ 0 := by
      rw [hU]; exact Nat.mul_ne_zero hm (Nat.pos_iff_ne_zero.1 (Nat.two_pow_pos _))
    -- a whole number below U is below the word
    have low : ∀ k : Nat, 0 < k → k < 2 ^ 53 → k * unit ≤ U → k * unit ≤ k0 * 2 ^ (U.log2 - 52) := by
      intro k hk0 hk1 hk2
      have hUge : 2 ^ U.log2 ≤ U := Nat.log2_self_le hUne
      by_cases hc : U.log2 - 52 ≤ eU
      · have e : unit = 2 ^ (eU - (U.log2 - 52)) * 2 ^ (U.log2 - 52) := by
          unfold unit; rw [← Nat.pow_add]; congr 1; omega
        rw [e, ← Nat.mul_assoc] at hk2 ⊢
        exact Nat.mul_le_mul_right _ (h2 _ hk2)
      · have h52 : 2 ^ 52 ≤ k0 := by
          apply h2; rw [← Nat.pow_add]
          exact Nat.le_trans (Nat.pow_le_pow_right (by omega) (by omega)) hUge
        have h5 : unit * 2 ≤ 2 ^ (U.log2 - 52) := by
          unfold unit; rw [← dbl]; exact pl (by omega)
        calc k * unit ≤ 2 ^ 53 * unit := Nat.mul_le_mul_right _ (by omega)
          _ = 2 ^ 52 * (unit * 2) := by omega
          _ ≤ k0 * 2 ^ (U.log2 - 52) := Nat.mul_le_mul h52 h5
    have exact1 : ∀ k : Nat, k < 2 ^ 53 → U = k * unit → k0 * 2 ^ (U.log2 - 52) = U := by
      intro k hk hk2
      have hkne : k ≠ 0 := by intro h; subst h; simp at hk2; exact hUne hk2
      have hc : U.log2 - 52 ≤ eU := by
        have : U.log2 < 53 + eU := by
          refine (Nat.log2_lt hUne).2 ?_
          rw [hk2, Nat.pow_add]; unfold unit
          exact (Nat.mul_lt_mul_right (Nat.two_pow_pos _)).2 hk
        omega
      have e : unit = 2 ^ (eU - (U.log2 - 52)) * 2 ^ (U.log2 - 52) := by
        unfold unit; rw [← Nat.pow_add]; congr 1; omega
      have e2 : U = (k * 2 ^ (eU - (U.log2 - 52))) * 2 ^ (U.log2 - 52) := by
        rw [Nat.mul_assoc, ← e]; exact hk2
      have a1 := h2 (k * 2 ^ (eU - (U.log2 - 52))) (by omega)
      have a2 := h3 (k * 2 ^ (eU - (U.log2 - 52))) (by omega)
      have : k0 = k * 2 ^ (eU - (U.log2 - 52)) := by omega
      rw [this]; exact e2.symm
    refine ⟨_, h1, ?_, ?_, ?_⟩
    · intro k hk hvk
      have : U = k.natAbs * unit := by rw [← hUv, hvk, Int.natAbs_mul]; simp
      rw [exact1 k.natAbs hk this]
      rw [hv, ← hU]
    · intro k hk0 hk1 hk2
      cases s
      · simp only [Bool.false_eq_true, if_false] at hv ⊢
        rw [← hU] at hv
        have := low k hk0 hk1 (by rw [hv] at hk2; exact_mod_cast hk2)
        exact_mod_cast this
      · exfalso
        simp only [if_true] at hv
        have h4 : 0 < (k : Int) * unit := Int.mul_pos (by omega) unit_pos
        omega
    · intro k hk0 hk1 hk2
      cases s
      · exfalso
        simp only [Bool.false_eq_true, if_false] at hv
        have h4 : 0 < (k : Int) * unit := Int.mul_pos (by omega) unit_pos
        omega
      · simp only [if_true] at hv ⊢
        rw [← hU] at hv
        have h6 : (k : Int) * unit ≤ U := by omega
        have := low k hk0 hk1 (by exact_mod_cast h6)
        have h7 : (k : Int) * unit ≤ ((k0 * 2 ^ (U.log2 - 52) : Nat) : Int) := by exact_mod_cast this
        omega

theorem natAbs_lt_i64 {n : Int} (h : -9223372036854775808 ≤ n) (h' : n ≤ 9223372036854775807) : n.natAbs < 2 ^ 64 := by omega

/-- 'float64(n)'. -/
theorem ofInt_V (n : Int) (h : -9223372036854775808 ≤ n) (h' : n ≤ 9223372036854775807) :
    ∃ r, V (floatOfInt .f64 n) = some r ∧ (∀ k : Int, k.natAbs < 2 ^ 53 → n = k → r = n * unit) ∧
      (∀ k : Nat, 0 < k → k < 2 ^ 53 → (k : Int) ≤ n → (k : Int) * unit ≤ r) ∧ (∀ k : Nat, 0 < k → k < 2 ^ 53 → n ≤ -(k : Int) → r ≤ -((k : Int) * unit)) := by
  have hv : n * unit = if decide (n < 0) then -((n.natAbs * 2 ^ ((0 : Int) + 1074).toNat : Nat) : Int) else ((n.natAbs * 2 ^ ((0 : Int) + 1074).toNat : Nat) : Int) := by
    have e : ((0 : Int) + 1074).toNat = eU := by decide
    rw [e]
    have e2 : ((n.natAbs * 2 ^ eU : Nat) : Int) = (n.natAbs : Int) * unit := by unfold unit; rw [Int.natCast_mul]
    rw [e2]
    by_cases hn : n < 0
    · rw [if_pos (by simpa using hn)]
      have : (n.natAbs : Int) = -n := by omega
      rw [this, Int.neg_mul, Int.neg_neg]
    · rw [if_neg (by simpa using hn)]
      have : (n.natAbs : Int) = n := by omega
      rw [this]
  have hE := eE
  have hb : (n * unit).natAbs < 2 ^ eH := by
    rw [Int.natAbs_mul]
    have := natAbs_lt_i64 h h'
    have e : (unit : Int).natAbs = 2 ^ eU := Int.natAbs_natCast unit
    rw [e]
    calc n.natAbs * 2 ^ eU < 2 ^ 64 * 2 ^ eU := (Nat.mul_lt_mul_right (Nat.two_pow_pos _)).2 this
      _ ≤ 2 ^ eH := by rw [← Nat.pow_add]; exact Nat.pow_le_pow_right (by omega) (by omega)
  obtain ⟨r, h1, h2, h3, h4⟩ := write_V (decide (n < 0)) n.natAbs 0 (by omega) (n * unit) hv hb
  refine ⟨r, h1, ?_, ?_, ?_⟩
  · rintro k hk rfl; exact h2 n hk rfl
  · intro k hk hk2 hk3
    exact h3 k hk hk2 (Int.mul_le_mul_of_nonneg_right hk3 (by have := unit_pos; omega))
  · intro k hk hk2 hk3
    refine h4 k hk hk2 ?_
    have := Int.mul_le_mul_of_nonneg_right hk3 (show (0 : Int) ≤ unit by have := unit_pos; omega)
    rw [Int.neg_mul] at this; exact this

theorem num_of_V {x : Nat} {a : Int} (h : V x = some a) (hb : a.natAbs < 2 ^ eG) : ∃ s m i, Ieee.double.read x = .number s m i := by
  unfold V at h
  cases hx : Ieee.double.read x with
  | nan => rw [hx] at h; cases h
  | number s m i => exact ⟨s, m, i, rfl⟩
  | infinity s =>
    rw [hx] at h
    simp only [ev, Option.some.injEq] at h
    exfalso
    have : a.natAbs = big := by rw [← h]; cases s <;> simp
    have hE := eE
    have h2 : 2 ^ eG ≤ big := pl (a := eG) (b := eB) (by omega)
    omega

/-- A sum of two words of numbers. -/
theorem add_V {x y : Nat} {a b : Int} (hx : V x = some a) (hy : V y = some b) (ha : a.natAbs < 2 ^ eG) (hb : b.natAbs < 2 ^ eG) :
    ∃ z r, Ieee.double.add x y = some z ∧ V z = some r ∧ (∀ k : Int, k.natAbs < 2 ^ 53 → a + b = k * unit → r = a + b) ∧
      (∀ k : Nat, 0 < k → k < 2 ^ 53 → (k : Int) * unit ≤ a + b → (k : Int) * unit ≤ r) ∧ (∀ k : Nat, 0 < k → k < 2 ^ 53 → a + b ≤ -((k : Int) * unit) → r ≤ -((k : Int) * unit)) := by
  obtain ⟨s, m, i, ex⟩ := num_of_V hx ha
  obtain ⟨t, n, j, ey⟩ := num_of_V hy hb
  obtain ⟨i1, i2, i3⟩ := read_num ex
  obtain ⟨j1, j2, j3⟩ := read_num ey
  have ea : a = signed s m (i - min i j).toNat * (2 ^ (min i j + 1074).toNat : Nat) := by
    unfold V at hx; rw [ex] at hx
    simp only [ev, Option.some.injEq] at hx
    rw [← hx, ← signed_split]; congr 1; omega
  have eb : b = signed t n (j - min i j).toNat * (2 ^ (min i j + 1074).toNat : Nat) := by
    unfold V at hy; rw [ey] at hy
    simp only [ev, Option.some.injEq] at hy
    rw [← hy, ← signed_split]; congr 1; omega
  unfold Format.add
  rw [ex, ey]
  simp only [Datum.sum, Option.map_some, Format.write]
  have hmin : -1074 ≤ min i j := by omega
  generalize signed s m (i - min i j).toNat = A at *
  generalize signed t n (j - min i j).toNat = B at *
  generalize min i j = base at *
  generalize hsg : (if A + B = 0 then s && t else decide (A + B < 0)) = sg
  have hv : a + b = if sg then -(((A + B).natAbs * 2 ^ (base + 1074).toNat : Nat) : Int) else (((A + B).natAbs * 2 ^ (base + 1074).toNat : Nat) : Int) := by
    rw [ea, eb, ← Int.add_mul]
    by_cases h0 : A + B = 0
    · rw [h0]; cases sg <;> simp
    · rw [if_neg h0] at hsg
      subst hsg
      rw [Int.natCast_mul]
      by_cases hn : A + B < 0
      · rw [if_pos (by simpa using hn)]
        have : ((A + B).natAbs : Int) = -(A + B) := by omega
        rw [this, Int.neg_mul, Int.neg_neg]
      · rw [if_neg (by simpa using hn)]
        have : ((A + B).natAbs : Int) = A + B := by omega
        rw [this]
  have hbd : (a + b).natAbs < 2 ^ eH := by
    have := eHG
    omega
  obtain ⟨r, h1, h2, h3, h4⟩ := write_V sg (A + B).natAbs base hmin (a + b) hv hbd
  exact ⟨_, r, rfl, h1, h2, h3, h4⟩

/-! ### Whole numbers of a span -/
/-- A whole number from nought to the greatest. -/
def wh (x : Nat) : Bool := geB x 0 && leB x most && eqB (floatOfInt .f64 (tr x)) x

theorem wh_spec {x : Nat} (h : wh x = true) : V x = some (tr x * unit) ∧ 0 ≤ tr x ∧ tr x ≤ 999999999 ∧ floatToIntVal .f64 x .i64 = some (tr x) := by
  unfold wh geB leB at h
  rw [V_zero, V_most] at h
  cases hv : V x with
  | none => rw [hv] at h; simp at h
  | some v =>
    rw [hv] at h
    simp only [Bool.and_eq_true, decide_eq_true_eq] at h
    obtain ⟨⟨h0, h1⟩, h2⟩ := h
    obtain ⟨h3, h4⟩ := tr_of hv h0 h1
    have hd : v / unit ≤ 999999999 := Int.ediv_le_of_le_mul unit_pos h1
    have hn : 0 ≤ v / unit := Int.ediv_nonneg h0 (by have := unit_pos; omega)
    obtain ⟨r, g1, g2, _, _⟩ := ofInt_V (tr x) (by omega) (by omega)
    have g3 := g2 (tr x) (by omega) rfl
    unfold eqB at h2
    rw [g1, hv] at h2
    simp at h2
    exact ⟨by rw [← h2, g3], by omega, by omega, h3⟩

theorem wh_of {x : Nat} {n : Int} (h : V x = some (n * unit)) (h0 : 0 ≤ n) (h1 : n ≤ 999999999) : wh x = true ∧ tr x = n := by
  have hu := unit_pos
  have a0 : 0 ≤ n * (unit : Int) := Int.mul_nonneg h0 (by omega)
  have a1 : n * (unit : Int) ≤ 999999999 * unit := Int.mul_le_mul_of_nonneg_right h1 (by omega)
  obtain ⟨h3, h4⟩ := tr_of h a0 a1
  have h5 : tr x = n := by rw [h4, Int.mul_ediv_cancel _ (by omega)]
  refine ⟨?_, h5⟩
  obtain ⟨r, g1, g2, _, _⟩ := ofInt_V n (by omega) (by omega)
  have g3 := g2 n (by omega) rfl
  unfold wh geB leB eqB
  rw [V_zero, V_most, h, h5, g1, g3]
  simp [a0, a1]

theorem wh_no {x : Nat} {v : Int} (h : V x = some v) (h0 : v < 0 ∨ 999999999 * (unit : Int) < v) : wh x = false := by
  unfold wh geB leB
  rw [V_zero, V_most, h]
  rcases h0 with h0 | h0
  · have : decide (0 ≤ v) = false := by simpa using h0
    simp [this]
  · have : decide (v ≤ 999999999 * (unit : Int)) = false := by simpa using h0
    simp [this]

theorem V_ofInt {n : Int} (h0 : -9007199254740991 ≤ n) (h1 : n ≤ 9007199254740991) : V (floatOfInt .f64 n) = some (n * unit) := by
  obtain ⟨r, g1, g2, _, _⟩ := ofInt_V n (by omega) (by omega)
  rw [g1, g2 n (by omega) rfl]

/-- 'float64(n)' is a whole number of a span just where n is one. -/
theorem wh_ofInt (n : Int) (h : -9223372036854775808 ≤ n) (h' : n ≤ 9223372036854775807) : wh (floatOfInt .f64 n) = (decide (0 ≤ n) && decide (n ≤ 999999999)) ∧ (0 ≤ n → n ≤ 999999999 → tr (floatOfInt .f64 n) = n) := by
  have hu := unit_pos
  by_cases h0 : 0 ≤ n
  · by_cases h1 : n ≤ 999999999
    · obtain ⟨a, b⟩ := wh_of (V_ofInt (n := n) (by omega) (by omega)) h0 h1
      exact ⟨by rw [a]; simp [h0, h1], fun _ _ => b⟩
    · obtain ⟨r, g1, _, g3, _⟩ := ofInt_V n h h'
      have := g3 1000000000 (by omega) (by omega) (by omega)
      refine ⟨?_, fun _ h => absurd h h1⟩
      rw [wh_no g1 (Or.inr (by omega))]; simp [h1]
  · obtain ⟨r, g1, _, _, g4⟩ := ofInt_V n h h'
    have := g4 1 (by omega) (by omega) (by omega)
    refine ⟨?_, fun h => absurd h h0⟩
    rw [wh_no g1 (Or.inl (by omega))]; simp [h0]

theorem wh_none : wh 13830554455654793216 = false := wh_no V_none (Or.inl (by have := unit_pos; omega))
theorem tr_none : floatToIntVal .f64 13830554455654793216 .i64 = some (-1) := by decide +kernel

theorem le_wh {x y : Nat} (hx : wh x = true) (hy : wh y = true) : leB x y = decide (tr x ≤ tr y) := by
  obtain ⟨a, _⟩ := wh_spec hx
  obtain ⟨b, _⟩ := wh_spec hy
  unfold leB; rw [a, b]
  have hu := unit_pos
  simp only
  congr 1
  exact propext ⟨fun h => Int.le_of_mul_le_mul_right h hu, fun h => Int.mul_le_mul_of_nonneg_right h (by omega)⟩
theorem lt_wh {x y : Nat} (hx : wh x = true) (hy : wh y = true) : ltB x y = decide (tr x < tr y) := by
  obtain ⟨a, _⟩ := wh_spec hx
  obtain ⟨b, _⟩ := wh_spec hy
  unfold ltB; rw [a, b]
  have hu := unit_pos
  simp only
  congr 1
  exact propext ⟨fun h => Int.lt_of_mul_lt_mul_right h (by omega), fun h => Int.mul_lt_mul_of_pos_right h hu⟩
theorem eq_V {x y : Nat} {v : Int} (hx : V x = some v) (hy : V y = some v) : eqB x y = true := by
  unfold eqB; rw [hx, hy]; simp
theorem eqB_comm (x y : Nat) : eqB x y = eqB y x := by
  unfold eqB; cases V x <;> cases V y <;> simp [eq_comm]

/-- A span. -/
def may (a b : Nat) : Bool := wh a && wh b && leB a b

/-- The program's own test. -/
theorem may_test (a b : Nat) : (geB a 0 && leB a b && leB b most && eqB a (floatOfInt .f64 (tr a)) && eqB b (floatOfInt .f64 (tr b))) = may a b := by
  unfold may wh
  rw [eqB_comm a, eqB_comm b]
  unfold geB leB
  rw [V_zero, V_most]
  cases V a <;> cases V b <;> simp
  rename_i x y
  by_cases h1 : 0 ≤ x <;> by_cases h2 : x ≤ y <;> by_cases h3 : y ≤ 999999999 * (unit : Int)
  · have h4 : x ≤ 999999999 * (unit : Int) := by omega
    have h5 : 0 ≤ y := by omega
    simp [h1, h2, h3, h4, h5]
  all_goals simp [h1, h2, h3]
theorem conv_a {a b : Nat} (h1 : geB a 0 = true) (h2 : leB a b = true) (h3 : leB b most = true) : floatToIntVal .f64 a .i64 = some (tr a) ∧ floatToIntVal .f64 b .i64 = some (tr b) := by
  unfold geB at h1
  unfold leB at h2 h3
  rw [V_zero] at h1
  rw [V_most] at h3
  cases ha : V a with
  | none => rw [ha] at h1; cases h1
  | some x =>
    cases hb : V b with
    | none => rw [hb] at h3; cases h3
    | some y =>
      rw [ha] at h1 h2; rw [hb] at h2 h3
      simp at h1 h2 h3
      exact ⟨(tr_of ha h1 (by omega)).1, (tr_of hb (by omega) h3).1⟩
theorem conv_w {a : Nat} (h1 : geB a 0 = true) (h3 : leB a most = true) : floatToIntVal .f64 a .i64 = some (tr a) := by
  unfold geB at h1
  unfold leB at h3
  rw [V_zero] at h1
  rw [V_most] at h3
  cases ha : V a with
  | none => rw [ha] at h1; cases h1
  | some x =>
    rw [ha] at h1 h3
    simp at h1 h3
    exact (tr_of ha h1 (by omega)).1

def minF (x y : Nat) : Nat := match Ieee.double.order x y with
  | some .gt => y
  | some .eq => if (FloatKind.f64.decode x).neg then x else y
  | _ => x
def maxF (x y : Nat) : Nat := match Ieee.double.order x y with
  | some .gt => x
  | some .eq => if (FloatKind.f64.decode x).neg then y else x
  | _ => y

theorem minF_cases {x y : Nat} {a b : Int} (hx : V x = some a) (hy : V y = some b) : V (minF x y) = some (min a b) := by
  unfold minF
  rw [order_V, hx, hy]
  simp only [Option.bind_some, Option.map_some]
  rcases cmp_cases a b with ⟨h, e⟩ | ⟨h, e⟩ | ⟨h, e⟩ <;> rw [e] <;> simp only
  · rw [hx]; congr 1; omega
  · split
    · rw [hx]; congr 1; omega
    · rw [hy]; congr 1; omega
  · rw [hy]; congr 1; omega
theorem maxF_cases {x y : Nat} {a b : Int} (hx : V x = some a) (hy : V y = some b) : V (maxF x y) = some (max a b) := by
  unfold maxF
  rw [order_V, hx, hy]
  simp only [Option.bind_some, Option.map_some]
  rcases cmp_cases a b with ⟨h, e⟩ | ⟨h, e⟩ | ⟨h, e⟩ <;> rw [e] <;> simp only
  · rw [hy]; congr 1; omega
  · split
    · rw [hy]; congr 1; omega
    · rw [hx]; congr 1; omega
  · rw [hx]; congr 1; omega
theorem min_unit (a b : Int) : min (a * (unit : Int)) (b * unit) = min a b * unit := by
  have hu := unit_pos
  rcases Int.le_total a b with h | h
  · have := Int.mul_le_mul_of_nonneg_right h (Int.le_of_lt hu)
    rw [Int.min_eq_left h, Int.min_eq_left this]
  · have := Int.mul_le_mul_of_nonneg_right h (Int.le_of_lt hu)
    rw [Int.min_eq_right h, Int.min_eq_right this]
theorem max_unit (a b : Int) : max (a * (unit : Int)) (b * unit) = max a b * unit := by
  have hu := unit_pos
  rcases Int.le_total a b with h | h
  · have := Int.mul_le_mul_of_nonneg_right h (Int.le_of_lt hu)
    rw [Int.max_eq_right h, Int.max_eq_right this]
  · have := Int.mul_le_mul_of_nonneg_right h (Int.le_of_lt hu)
    rw [Int.max_eq_left h, Int.max_eq_left this]
theorem minF_wh {x y : Nat} (hx : wh x = true) (hy : wh y = true) : wh (minF x y) = true ∧ tr (minF x y) = min (tr x) (tr y) := by
  obtain ⟨a1, a2, a3, _⟩ := wh_spec hx
  obtain ⟨b1, b2, b3, _⟩ := wh_spec hy
  have h := minF_cases a1 b1
  rw [min_unit] at h
  exact wh_of h (by omega) (by omega)
theorem maxF_wh {x y : Nat} (hx : wh x = true) (hy : wh y = true) : wh (maxF x y) = true ∧ tr (maxF x y) = max (tr x) (tr y) := by
  obtain ⟨a1, a2, a3, _⟩ := wh_spec hx
  obtain ⟨b1, b2, b3, _⟩ := wh_spec hy
  have h := maxF_cases a1 b1
  rw [max_unit] at h
  exact wh_of h (by omega) (by omega)

section
variable {P : Program} (w : World)
theorem run_min_fl (ts : Array TypeId) (t : TypeId) (x y : Nat) {a b : Int} (hx : V x = some a) (hy : V y = some b) : (Builtin.min_ ts t #[.float .f64 x, .float .f64 y]).run P w = .ok (.float .f64 (minF x y)) w := by
  have e : FloatKind.f64.format.order x y = some (compare a b) := by
    show Ieee.double.order x y = _
    rw [order_V, hx, hy]; rfl
  have e' : Ieee.double.order x y = some (compare a b) := e
  unfold minF
  rw [e']
  rcases cmp_cases a b with ⟨h, h'⟩ | ⟨h, h'⟩ | ⟨h, h'⟩ <;> rw [h'] at e ⊢ <;> simp [Builtin.min_, Builtin.min2, e]
theorem run_max_fl (ts : Array TypeId) (t : TypeId) (x y : Nat) {a b : Int} (hx : V x = some a) (hy : V y = some b) : (Builtin.max_ ts t #[.float .f64 x, .float .f64 y]).run P w = .ok (.float .f64 (maxF x y)) w := by
  have e : FloatKind.f64.format.order x y = some (compare a b) := by
    show Ieee.double.order x y = _
    rw [order_V, hx, hy]; rfl
  have e' : Ieee.double.order x y = some (compare a b) := e
  unfold maxF
  rw [e']
  rcases cmp_cases a b with ⟨h, h'⟩ | ⟨h, h'⟩ | ⟨h, h'⟩ <;> rw [h'] at e ⊢ <;> simp [Builtin.max_, Builtin.max2, e]
end

theorem may_spec {a b : Nat} (h : may a b = true) : wh a = true ∧ wh b = true ∧ tr a ≤ tr b := by
  unfold may at h
  simp only [Bool.and_eq_true] at h
  obtain ⟨⟨h1, h2⟩, h3⟩ := h
  rw [le_wh h1 h2] at h3
  exact ⟨h1, h2, by simpa using h3⟩
theorem may_of {a b : Nat} (h1 : wh a = true) (h2 : wh b = true) (h3 : tr a ≤ tr b) : may a b = true := by
  unfold may; rw [h1, h2, le_wh h1 h2]; simp [h3]
theorem may_none : may 13830554455654793216 13830554455654793216 = false := by unfold may; rw [wh_none]; rfl

/-- The beginning, the end and the length of a span; -1, -1 and 0, where it is none. -/
def fromV (a b : Nat) : Int := if may a b then tr a else -1
def toV (a b : Nat) : Int := if may a b then tr b else -1
theorem fromV_bd (a b : Nat) : -1 ≤ fromV a b ∧ fromV a b ≤ 999999999 ∧ -1 ≤ toV a b ∧ toV a b ≤ 999999999 ∧ fromV a b ≤ toV a b := by
  unfold fromV toV
  by_cases h : may a b = true
  · obtain ⟨h1, h2, h3⟩ := may_spec h
    obtain ⟨_, b2, b3, _⟩ := wh_spec h1
    obtain ⟨_, c2, c3, _⟩ := wh_spec h2
    rw [if_pos h, if_pos h]; omega
  · rw [if_neg h, if_neg h]; omega

/-- A shifted part. -/
def sh (a : Nat) (n : Int) : Nat := (Ieee.double.add a (floatOfInt .f64 n)).getD 0
theorem small_abs {x : Int} (h : x.natAbs < 2 ^ 64) : (x * (unit : Int)).natAbs < 2 ^ eG := by
  have hE := eE
  rw [Int.natAbs_mul, show (unit : Int).natAbs = 2 ^ eU from Int.natAbs_natCast unit]
  calc x.natAbs * 2 ^ eU < 2 ^ 64 * 2 ^ eU := (Nat.mul_lt_mul_right (Nat.two_pow_pos _)).2 h
    _ ≤ 2 ^ eG := by rw [padd]; exact pl (by omega)
theorem ofInt_bd (n : Int) (h : -9223372036854775808 ≤ n) (h' : n ≤ 9223372036854775807) : ∃ r, V (floatOfInt .f64 n) = some r ∧ r.natAbs < 2 ^ eG ∧ (-9007199254740991 ≤ n → n ≤ 9007199254740991 → r = n * unit) ∧ (1000000000 ≤ n → 1000000000 * (unit : Int) ≤ r) ∧ (n ≤ -1000000000 → r ≤ -(1000000000 * (unit : Int))) := by
  obtain ⟨r, h1, h2, h3, h4⟩ := ofInt_V n h h'
  refine ⟨r, h1, ?_, fun a b => h2 n (by omega) rfl, fun a => h3 1000000000 (by omega) (by omega) a, fun a => h4 1000000000 (by omega) (by omega) a⟩
  -- the word is no infinity: its rung is below two to the power 64 times the unit
  have hE := eE
  have hn := natAbs_lt_i64 h h'
  unfold floatOfInt FloatKind.nearest FloatKind.encode Format.write at h1
  have hf : FloatKind.f64.format = Ieee.double := rfl
  rw [hf] at h1
  simp only at h1
  by_cases hz : n.natAbs = 0
  · unfold Format.nearest at h1
    rw [if_pos hz, read_word _ _ (by decide)] at h1
    have : r = 0 := by
      simp only [Option.some.injEq] at h1
      rw [← h1]; cases decide (n < 0) <;> simp
    rw [this]; exact pp eG
  · obtain ⟨k, g1, g2, g3⟩ := nearest_V (decide (n < 0)) n.natAbs 0 hz (by omega) (n.natAbs * 2 ^ ((0 : Int) + 1074).toNat) rfl (by
      have e : ((0 : Int) + 1074).toNat = eU := by decide
      rw [e]
      calc n.natAbs * 2 ^ eU < 2 ^ 64 * 2 ^ eU := (Nat.mul_lt_mul_right (Nat.two_pow_pos _)).2 hn
        _ ≤ 2 ^ eH := by rw [padd]; exact pl (by omega))
    rw [h1] at g1
    simp only [Option.some.injEq] at g1
    have e : ((0 : Int) + 1074).toNat = eU := by decide
    rw [e] at g1 g2 g3
    obtain ⟨U, hU⟩ : ∃ U, U = n.natAbs * 2 ^ eU := ⟨_, rfl⟩
    rw [← hU] at g1 g2 g3
    have hUlt : U < 2 ^ (64 + eU) := by
      rw [hU, ← padd]; exact (Nat.mul_lt_mul_right (Nat.two_pow_pos _)).2 hn
    have hUne : U ≠ 0 := by rw [hU]; exact Nat.mul_ne_zero hz (Nat.pos_iff_ne_zero.1 (Nat.two_pow_pos _))
    have hl : U.log2 < 64 + eU := (Nat.log2_lt hUne).2 hUlt
    have hk : k ≤ 2 ^ (64 + eU - (U.log2 - 52)) := by
      apply g3
      rw [padd, show 64 + eU - (U.log2 - 52) + (U.log2 - 52) = 64 + eU from by omega]
      exact Nat.le_of_lt hUlt
    have : r.natAbs = k * 2 ^ (U.log2 - 52) := by
      rw [g1]
      generalize k * 2 ^ (U.log2 - 52) = z
      cases decide (n < 0) <;> simp
    rw [this]
    calc k * 2 ^ (U.log2 - 52) ≤ 2 ^ (64 + eU - (U.log2 - 52)) * 2 ^ (U.log2 - 52) := Nat.mul_le_mul_right _ hk
      _ = 2 ^ (64 + eU) := by rw [padd, show 64 + eU - (U.log2 - 52) + (U.log2 - 52) = 64 + eU from by omega]
      _ < 2 ^ eG := Nat.pow_lt_pow_right (by decide) (by omega)

theorem sh_spec {a : Nat} (n : Int) (h : wh a = true) (hn : -9223372036854775808 ≤ n) (hn' : n ≤ 9223372036854775807) :
    floatBits .add .f64 a (floatOfInt .f64 n) = some (sh a n) ∧ wh (sh a n) = (decide (-999999999 ≤ n) && decide (n ≤ 999999999) && decide (0 ≤ tr a + n) && decide (tr a + n ≤ 999999999)) ∧ (wh (sh a n) = true → tr (sh a n) = tr a + n) := by
  obtain ⟨a1, a2, a3, _⟩ := wh_spec h
  obtain ⟨r, b1, b2, b3, b4, b5⟩ := ofInt_bd n hn hn'
  obtain ⟨z, s, c1, c2, c3, c4, c5⟩ := add_V a1 b1 (small_abs (by omega)) b2
  have hz : sh a n = z := by unfold sh; rw [c1]; rfl
  have hu := unit_pos
  rw [hz]
  refine ⟨c1, ?_⟩
  by_cases hs : -999999999 ≤ n ∧ n ≤ 999999999
  · have hr : r = n * unit := b3 (by omega) (by omega)
    have hsum : tr a * (unit : Int) + r = (tr a + n) * unit := by rw [hr, Int.add_mul]
    have c6 := c3 (tr a + n) (by omega) hsum
    rw [c6, hsum] at c2
    by_cases hin : 0 ≤ tr a + n ∧ tr a + n ≤ 999999999
    · obtain ⟨d1, d2⟩ := wh_of c2 hin.1 hin.2
      exact ⟨by rw [d1]; simp [hs, hin], fun _ => d2⟩
    · have : wh z = false := by
        refine wh_no c2 ?_
        by_cases hneg : tr a + n < 0
        · left; exact Int.mul_neg_of_neg_of_pos hneg hu
        · right; exact Int.mul_lt_mul_of_pos_right (by omega) hu
      rw [this]
      refine ⟨?_, fun h => by cases h⟩
      by_cases hneg : 0 ≤ tr a + n
      · have : ¬ tr a + n ≤ 999999999 := by omega
        simp [this]
      · simp [hneg]
  · have : wh z = false := by
      refine wh_no c2 ?_
      by_cases hneg : n < 0
      · left
        have h6 := b5 (by omega)
        have h7 : tr a * (unit : Int) ≤ 999999999 * unit := Int.mul_le_mul_of_nonneg_right a3 (by omega)
        have := c5 1 (by omega) (by omega) (by omega)
        omega
      · right
        have h6 := b4 (by omega)
        have h7 : 0 ≤ tr a * (unit : Int) := Int.mul_nonneg a2 (by omega)
        have := c4 1000000000 (by omega) (by omega) (by omega)
        omega
    rw [this]
    refine ⟨?_, fun h => by cases h⟩
    by_cases h1 : -999999999 ≤ n
    · have : ¬ n ≤ 999999999 := by omega
      simp [this]
    · simp [h1]
/-- A span that is shifted is one just where its ends are in the bounds. -/
theorem may_sh {a b : Nat} (n : Int) (h : may a b = true) (hn : -9223372036854775808 ≤ n) (hn' : n ≤ 9223372036854775807) :
    may (sh a n) (sh b n) = (decide (-999999999 ≤ n) && decide (n ≤ 999999999) && decide (0 ≤ tr a + n) && decide (tr b + n ≤ 999999999)) ∧ (may (sh a n) (sh b n) = true → tr (sh a n) = tr a + n ∧ tr (sh b n) = tr b + n) := by
  obtain ⟨h1, h2, h3⟩ := may_spec h
  obtain ⟨_, a2, a3⟩ := sh_spec n h1 hn hn'
  obtain ⟨_, b2, b3⟩ := sh_spec n h2 hn hn'
  constructor
  · by_cases hw : wh (sh a n) = true ∧ wh (sh b n) = true
    · have e1 := a3 hw.1
      have e2 := b3 hw.2
      have : may (sh a n) (sh b n) = true := may_of hw.1 hw.2 (by omega)
      rw [this]
      rw [hw.1] at a2; rw [hw.2] at b2
      simp at a2 b2 ⊢
      omega
    · have : may (sh a n) (sh b n) = false := by
        unfold may
        by_cases h4 : wh (sh a n) = true
        · have : wh (sh b n) = false := by simpa [h4] using hw
          rw [this]; simp
        · simp [h4]
      rw [this]
      symm
      rw [Bool.eq_false_iff]
      intro hc
      simp at hc
      apply hw
      rw [a2, b2]
      simp
      omega
  · intro h4
    obtain ⟨h5, h6, _⟩ := may_spec h4
    exact ⟨a3 h5, b3 h6⟩
end Go.Proofs.Ytppllblnbmipbaa.Fl
