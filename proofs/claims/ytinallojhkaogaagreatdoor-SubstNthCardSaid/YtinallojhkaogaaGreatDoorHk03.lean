/- The texts Fl SpWalks SpWalks2 SpWalks3 SpWalks4 SpPlain. -/
import Derived.WalkLawsBesides
import Derived.Test.YtinallojhkaogaaGreatDoorChecked
import Derived.WalkKit
import Derived.WalkSpells
import Derived.RowKit3
import Derived.Lib.Hide
import Derived.ShutString
import Derived.Lib.Strings
set_option linter.unusedVariables false
set_option linter.unusedSimpArgs false
set_option maxHeartbeats 400000
namespace Go.Proofs.YtinallojhkaogaaGreatDoor.Fl
open Ieee
theorem pl {a b:Nat} (h:a <= b):2 ^ a <= 2 ^ b:=Nat.pow_le_pow_right (by decide) h
theorem pp (k:Nat):0 < 2 ^ k:=Nat.two_pow_pos k
theorem dbl (k:Nat):2 ^ (k + 1) = 2 ^ k * 2:=Nat.pow_succ 2 k
theorem padd (a b:Nat):2 ^ a * 2 ^ b = 2 ^ (a + b):=(Nat.pow_add 2 a b).symm
def eU:Nat:=1074
def eB:Nat:=2200
def eH:Nat:=1150
def eG:Nat:=1149
def eT:Nat:=2045
theorem eE:eU = 1074 /\ eB = 2200 /\ eH = 1150 /\ eG = 1149 /\ eT = 2045:=⟨rfl,rfl,rfl,rfl,rfl⟩
theorem pe {a b:Nat} (h:a = b):2 ^ a = 2 ^ b:=congrArg _ h
def big:Nat:=2 ^ eB
def unit:Nat:=2 ^ eU
def ev:Datum -> Option Int
  | .number s m e=>some (signed s m (e + 1074).toNat)
  | .infinity s=>some (if s then -(big:Int) else big)
  | .nan ..=>none
def V (x:Nat):Option Int:=ev (Ieee.double.read x)
theorem least_eq:Ieee.double.leastPlace = -1074:=by decide
theorem binade_eq:Ieee.double.binade = 2 ^ 52:=by decide
theorem inf_eq:Ieee.double.infRung = 2047 * 2 ^ 52:=by decide
theorem sw_eq:Ieee.double.signWeight = 2 ^ 63:=by decide
theorem signed_split (s:Bool) (m p q:Nat):signed s m (p + q) = signed s m p * (2 ^ q:Nat):=by
  unfold signed
  rw [Nat.shiftLeft_eq,Nat.shiftLeft_eq,Nat.pow_add,<- Nat.mul_assoc]
  cases s <;> simp [Int.neg_mul]
theorem signed_zero (s:Bool) (m:Nat):signed s m 0 = if s then -(m:Int) else m:=by
  unfold signed;cases s <;> simp
theorem natAbs_signed (s:Bool) (m p:Nat):(signed s m p).natAbs = m * 2 ^ p:=by
  unfold signed;rw [Nat.shiftLeft_eq];cases s <;> simp [Int.natAbs_neg,Int.natAbs_mul,Int.natAbs_pow]
theorem read_num {x:Nat} {s:Bool} {m:Nat} {e:Int} (h:Ieee.double.read x = .number s m e):-1074 <= e /\ e <= 971 /\ m < 2 ^ 53:=by
  unfold Format.read at h
  simp only [least_eq,binade_eq,inf_eq,sw_eq] at h
  generalize x % 2 ^ 63 = r at h
  split at h
  · rename_i hr
    cases h;refine ⟨by omega,by omega,by omega⟩
  · split at h
    · rename_i h1 h2
      injection h with h3 h4 h5
      subst h4 h5
      have:=Nat.mod_lt r (show 2 ^ 52 > 0 by decide)
      have h6:r / 2 ^ 52 < 2047:=Nat.div_lt_of_lt_mul (by omega)
      omega
    · split at h <;> cases h
theorem cmp_mul (a b:Int) (c:Nat) (hc:0 < c):compare (a * c) (b * c) = compare a b:=by
  have hc':(0:Int) < c:=by omega
  have h1:compare a b = if a < b then .lt else if a = b then .eq else .gt:=rfl
  have h2:compare (a * c) (b * c) = if a * c < b * c then .lt else if a * c = b * c then .eq else .gt:=rfl
  rw [h1,h2]
  have e1:(a * c < b * c) ↔ a < b:=Int.mul_lt_mul_right hc'
  have e2:(a * c = b * c) ↔ a = b:=Int.mul_eq_mul_right_iff (by omega)
  simp [e1,e2]
theorem num_lt {s:Bool} {m:Nat} {e:Int} (h2:e <= 971) (h3:m < 2 ^ 53) :
    signed s m (e + 1074).toNat < big /\ -(big:Int) < signed s m (e + 1074).toNat:=by
  have hE:=eE
  have hp:(e + 1074).toNat <= eT:=by omega
  have h1:m * 2 ^ (e + 1074).toNat < big:=by
    unfold big
    calc m * 2 ^ (e + 1074).toNat < 2 ^ 53 * 2 ^ (e + 1074).toNat:=by
          exact (Nat.mul_lt_mul_right (Nat.two_pow_pos _)).2 h3
      _ <= 2 ^ 53 * 2 ^ eT:=Nat.mul_le_mul_left _ (Nat.pow_le_pow_right (by omega) hp)
      _ <= 2 ^ eB:=by rw [padd];exact pl (by omega)
  have h4:=natAbs_signed s m (e + 1074).toNat
  generalize signed s m (e + 1074).toNat = z at h4 ⊢
  omega
theorem order_V (x y:Nat):Ieee.double.order x y = (V x).bind fun a=>(V y).map fun b=>compare a b:=by
  unfold Format.order V
  cases hx:Ieee.double.read x with
  | nan=>simp [Datum.order,ev]
  | infinity s =>
    cases hy:Ieee.double.read y with
    | nan=>simp [Datum.order,ev]
    | infinity t =>
      have hb:(0:Int) < big:=Int.ofNat_lt.2 (pp eB)
      cases s <;> cases t <;> simp [Datum.order,ev,compare,compareOfLessAndEq]
      · rw [if_neg (by omega),if_neg (by omega)]
      · intro;omega
    | number t n j =>
      obtain ⟨j1,j2,j3⟩:=read_num hy
      have:=num_lt (s:=t) j2 j3
      cases s <;> simp [Datum.order,ev,compare,compareOfLessAndEq]
      · generalize signed t n (j + 1074).toNat = z at *
        split
        · omega
        · split
          · omega
          · rfl
      · generalize signed t n (j + 1074).toNat = z at *
        split
        · intro;omega
        · intro;omega
  | number s m i =>
    obtain ⟨i1,i2,i3⟩:=read_num hx
    cases hy:Ieee.double.read y with
    | nan=>simp [Datum.order,ev]
    | infinity t =>
      have:=num_lt (s:=s) i2 i3
      cases t <;> simp [Datum.order,ev,compare,compareOfLessAndEq]
      · generalize signed s m (i + 1074).toNat = z at *
        split
        · intro;omega
        · intro;omega
      · generalize signed s m (i + 1074).toNat = z at *
        split
        · omega
        · split
          · omega
          · rfl
    | number t n j =>
      obtain ⟨j1,j2,j3⟩:=read_num hy
      simp only [Datum.order,ev,Option.bind_some,Option.map_some]
      congr 1
      have e1:(i + 1074).toNat = (i - min i j).toNat + (min i j + 1074).toNat:=by omega
      have e2:(j + 1074).toNat = (j - min i j).toNat + (min i j + 1074).toNat:=by omega
      rw [e1,e2,signed_split,signed_split,cmp_mul _ _ _ (Nat.two_pow_pos _)]
def geB (x y:Nat):Bool:=match V x,V y with | some a,some b=>decide (b <= a) | _,_=>false
def leB (x y:Nat):Bool:=match V x,V y with | some a,some b=>decide (a <= b) | _,_=>false
def ltB (x y:Nat):Bool:=match V x,V y with | some a,some b=>decide (a < b) | _,_=>false
def gtB (x y:Nat):Bool:=match V x,V y with | some a,some b=>decide (b < a) | _,_=>false
def eqB (x y:Nat):Bool:=match V x,V y with | some a,some b=>decide (a = b) | _,_=>false
theorem cmp_cases (a b:Int):(a < b /\ compare a b = .lt) \/ (a = b /\ compare a b = .eq) \/ (b < a /\ compare a b = .gt):=by
  have h1:compare a b = if a < b then .lt else if a = b then .eq else .gt:=rfl
  rw [h1]
  by_cases h:a < b
  · simp [h]
  · by_cases h':a = b
    · simp [h']
    · right;right;simp [h,h'];omega
theorem order_ge (x y:Nat):(Ieee.double.order x y == some .gt || Ieee.double.order x y == some .eq) = geB x y:=by
  rw [order_V];unfold geB
  cases V x <;> cases V y <;> simp
  rename_i a b
  rcases cmp_cases a b with ⟨h,e⟩ | ⟨h,e⟩ | ⟨h,e⟩ <;> rw [e] <;> simp <;> omega
theorem order_le (x y:Nat):(Ieee.double.order x y == some .lt || Ieee.double.order x y == some .eq) = leB x y:=by
  rw [order_V];unfold leB
  cases V x <;> cases V y <;> simp
  rename_i a b
  rcases cmp_cases a b with ⟨h,e⟩ | ⟨h,e⟩ | ⟨h,e⟩ <;> rw [e] <;> simp <;> omega
theorem order_lt (x y:Nat):(Ieee.double.order x y == some .lt) = ltB x y:=by
  rw [order_V];unfold ltB
  cases V x <;> cases V y <;> simp
  rename_i a b
  rcases cmp_cases a b with ⟨h,e⟩ | ⟨h,e⟩ | ⟨h,e⟩ <;> rw [e] <;> simp <;> omega
theorem order_gt (x y:Nat):(Ieee.double.order x y == some .gt) = gtB x y:=by
  rw [order_V];unfold gtB
  cases V x <;> cases V y <;> simp
  rename_i a b
  rcases cmp_cases a b with ⟨h,e⟩ | ⟨h,e⟩ | ⟨h,e⟩ <;> rw [e] <;> simp <;> omega
theorem order_eq (x y:Nat):(Ieee.double.order x y == some .eq) = eqB x y:=by
  rw [order_V];unfold eqB
  cases V x <;> cases V y <;> simp
  rename_i a b
  rcases cmp_cases a b with ⟨h,e⟩ | ⟨h,e⟩ | ⟨h,e⟩ <;> rw [e] <;> simp <;> omega
theorem unit_pos:(0:Int) < unit:=Int.ofNat_lt.2 (pp eU)
def most:Nat:=4741671816358002688
theorem V_zero:V 0 = some 0:=by decide +kernel
theorem V_most:V most = some (999999999 * (unit:Int)):=by decide +kernel
theorem V_none:V 13830554455654793216 = some (-1 * (unit:Int)):=by decide +kernel
def tr (x:Nat):Int:=(floatToIntVal .f64 x .i64).getD 0
theorem cut_zero (s:Bool) (n drop:Nat):Toward.zero.cut s n drop = n / 2 ^ drop:=by
  unfold Toward.cut
  simp only [Bool.toNat_false,Nat.add_zero,Nat.shiftLeft_eq,Nat.one_mul]
  by_cases h:drop <= n.log2 + 2
  · rw [Nat.min_eq_left h]
  · rw [Nat.min_eq_right (by omega)]
    have h1:n < 2 ^ (n.log2 + 1):=Nat.lt_log2_self
    have h2:n < 2 ^ (n.log2 + 2):=Nat.lt_of_lt_of_le h1 (Nat.pow_le_pow_right (by omega) (by omega))
    have h3:n < 2 ^ drop:=Nat.lt_of_lt_of_le h2 (Nat.pow_le_pow_right (by omega) (by omega))
    rw [Nat.div_eq_of_lt h2,Nat.div_eq_of_lt h3]
theorem tr_of {x:Nat} {v:Int} (hv:V x = some v) (h0:0 <= v) (h1:v <= 999999999 * (unit:Int)) :
    floatToIntVal .f64 x .i64 = some (tr x) /\ tr x = v / unit:=by
  have key:((Ieee.double.read x).toInt .zero) = some (v / unit):=by
    unfold V at hv
    cases hx:Ieee.double.read x with
    | nan=>rw [hx] at hv;cases hv
    | infinity s =>
      rw [hx] at hv
      simp only [ev,Option.some.injEq] at hv
      have hb:(999999999 * (unit:Int)) < big:=by
        have hE:=eE
        have:999999999 * unit < big:=by
          unfold unit big
          calc 999999999 * 2 ^ eU < 2 ^ 30 * 2 ^ eU:=(Nat.mul_lt_mul_right (Nat.two_pow_pos _)).2 (by decide)
            _ <= 2 ^ eB:=by rw [padd];exact pl (by omega)
        omega
      have:=unit_pos
      cases s <;> simp at hv <;> omega
    | number s m i =>
      rw [hx] at hv
      obtain ⟨i1,i2,i3⟩:=read_num hx
      simp only [ev,Option.some.injEq] at hv
      subst hv
      simp only [Datum.toInt,Datum.integral]
      rw [cut_zero,signed_zero]
      congr 1
      rw [Nat.shiftLeft_eq]
      have hE:=eE
      have hcut:m * 2 ^ i.toNat / 2 ^ (-i).toNat = m * 2 ^ (i + 1074).toNat / unit:=by
        unfold unit
        by_cases hi:0 <= i
        · have e1:(i + 1074).toNat = i.toNat + eU:=by omega
          have e2:(-i).toNat = 0:=by omega
          rw [e1,e2,Nat.pow_add,<- Nat.mul_assoc,Nat.mul_div_cancel _ (Nat.two_pow_pos _)];simp
        · have e1:i.toNat = 0:=by omega
          have e2:eU = (i + 1074).toNat + (-i).toNat:=by omega
          rw [e1]
          conv=>rhs;rw [e2,Nat.pow_add]
          rw [<- Nat.div_div_eq_div_mul]
          rw [Nat.mul_div_cancel _ (Nat.two_pow_pos _)];simp
      rw [hcut]
      unfold signed at h0 ⊢
      rw [Nat.shiftLeft_eq] at h0 ⊢
      cases s
      · simp
      · simp at h0
        have:m * 2 ^ (i + 1074).toNat = 0:=by
          have h2:((m * 2 ^ (i + 1074).toNat:Nat):Int) <= 0:=by simpa using h0
          omega
        rw [this];simp
  have hd:v / unit <= 999999999:=by
    apply Int.ediv_le_of_le_mul unit_pos h1
  have hn:0 <= v / unit:=Int.ediv_nonneg h0 (by have:=unit_pos;omega)
  have:floatToIntVal .f64 x .i64 = some (v / unit):=by
    unfold floatToIntVal
    have:FloatKind.f64.decode x = Ieee.double.read x:=rfl
    rw [this,key]
    simp only
    rw [if_pos]
    simp [IntKind.min,IntKind.max,IntKind.signed,IntKind.bits];omega
  unfold tr
  rw [this];simp
theorem cut_even (s:Bool) (n drop:Nat) (hd:drop <= n.log2 + 2) :
    (∀ q,q * 2 ^ drop <= n -> q <= Toward.even.cut s n drop) /\ (∀ q,n <= q * 2 ^ drop -> Toward.even.cut s n drop <= q):=by
  unfold Toward.cut
  simp only [Nat.shiftLeft_eq,Nat.one_mul]
  rw [Nat.min_eq_left hd]
  have hg:0 < 2 ^ drop:=Nat.two_pow_pos _
  generalize 2 ^ drop = g at *
  have hdm:=Nat.div_add_mod n g
  have hlt:=Nat.mod_lt n hg
  constructor
  · intro q hq
    have:q <= n / g:=(Nat.le_div_iff_mul_le hg).2 hq
    omega
  · intro q hq
    by_cases hr:n % g = 0
    · have hm:(decide (g < 2 * (n % g)) || g == 2 * (n % g) && n / g % 2 == 1) = false:=by
        rw [hr];simp;omega
      rw [hm]
      simp
      rw [Nat.mul_comm] at hq
      exact Nat.div_le_of_le_mul hq
    · have h1:n / g < q:=by
        rw [Nat.div_lt_iff_lt_mul hg]
        rcases Nat.lt_or_ge n (q * g) with h | h
        · exact h
        · have:n = q * g:=by omega
          exfalso;apply hr;rw [this];simp
      generalize (decide (g < 2 * (n % g)) || g == 2 * (n % g) && n / g % 2 == 1) = b
      cases b <;> simp <;> omega
theorem read_word (s:Bool) (r:Nat) (hr:r < 2047 * 2 ^ 52) :
    V (Ieee.double.word s r) = some (if s then -((if r < 2 ^ 52 then r else (2 ^ 52 + r % 2 ^ 52) * 2 ^ (r / 2 ^ 52 - 1):Nat):Int) else ((if r < 2 ^ 52 then r else (2 ^ 52 + r % 2 ^ 52) * 2 ^ (r / 2 ^ 52 - 1):Nat):Int)):=by
  have h1:Ieee.double.word s r / 2 ^ 63 % 2 = s.toNat:=by
    unfold Format.word;rw [sw_eq];cases s <;> simp <;> omega
  have h2:Ieee.double.word s r % 2 ^ 63 = r:=by
    unfold Format.word;rw [sw_eq];cases s <;> simp <;> omega
  unfold V Format.read
  simp only [least_eq,binade_eq,inf_eq,sw_eq,h1,h2]
  have h3:(s.toNat == 1) = s:=by cases s <;> rfl
  rw [h3]
  by_cases h:r < 2 ^ 52
  · rw [if_pos h,if_pos h]
    simp only [ev]
    unfold signed
    simp
  · rw [if_neg h,if_neg h,if_pos hr]
    simp only [ev]
    unfold signed
    have e:(-1074 + ((r / 2 ^ 52 - 1:Nat):Int) + 1074).toNat = r / 2 ^ 52 - 1:=by omega
    rw [e,Nat.shiftLeft_eq]
theorem nearest_V (s:Bool) (mag:Nat) (place:Int) (hm:mag ≠ 0) (hp:-1074 <= place) (U:Nat) (hU:U = mag * 2 ^ (place + 1074).toNat) (hb:U < 2 ^ eH) :
    ∃ k:Nat,V (Ieee.double.nearest s mag place) = some (if s then -((k * 2 ^ (U.log2 - 52):Nat):Int) else ((k * 2 ^ (U.log2 - 52):Nat):Int)) /\
      (∀ q,q * 2 ^ (U.log2 - 52) <= U -> q <= k) /\ (∀ q,U <= q * 2 ^ (U.log2 - 52) -> k <= q):=by
  have hUne:U ≠ 0:=by
    rw [hU];exact Nat.mul_ne_zero hm (Nat.pos_iff_ne_zero.1 (Nat.two_pow_pos _))
  have hlog:U.log2 = mag.log2 + (place + 1074).toNat:=by
    have h1:=Nat.log2_self_le hm
    have h2:=Nat.lt_log2_self (n:=mag)
    refine (Nat.log2_eq_iff hUne).2 ⟨?_,?_⟩
    · rw [Nat.pow_add,hU];exact Nat.mul_le_mul_right _ h1
    · rw [hU,show mag.log2 + (place + 1074).toNat + 1 = (mag.log2 + 1) + (place + 1074).toNat from by omega,Nat.pow_add]
      exact (Nat.mul_lt_mul_right (Nat.two_pow_pos _)).2 h2
  have hE:=eE
  have hl:U.log2 < eH:=(Nat.log2_lt hUne).2 hb
  generalize hL:U.log2 - 52 = L at *
  unfold Format.nearest
  rw [if_neg hm]
  simp only [least_eq,binade_eq,inf_eq]
  have hfb:(Ieee.double.fractionBits:Int) = 52:=rfl
  rw [hfb]
  have hlast:max (place + (mag.log2:Int) - 52) (-1074) = (L:Int) - 1074:=by omega
  rw [hlast]
  have e1:((L:Int) - 1074 - (-1074)).toNat = L:=by omega
  rw [e1]
  generalize hk:Toward.even.cut s (mag <<< (place - ((L:Int) - 1074)).toNat) (((L:Int) - 1074) - place).toNat = k
  have bounds:(∀ q,q * 2 ^ L <= U -> q <= k) /\ (∀ q,U <= q * 2 ^ L -> k <= q):=by
    by_cases hc:(L:Int) - 1074 <= place
    · have e2:(((L:Int) - 1074) - place).toNat = 0:=by omega
      have e3:(place + 1074).toNat = (place - ((L:Int) - 1074)).toNat + L:=by omega
      rw [e2] at hk
      have hc:=cut_even s (mag <<< (place - ((L:Int) - 1074)).toNat) 0 (by omega)
      rw [hk] at hc
      rw [Nat.shiftLeft_eq] at hc
      rw [e3,Nat.pow_add,<- Nat.mul_assoc] at hU
      rw [hU]
      refine ⟨fun q hq=>hc.1 q ?_,fun q hq=>hc.2 q ?_⟩
      · have:=Nat.le_of_mul_le_mul_right hq (Nat.two_pow_pos L);simpa using this
      · have:=Nat.le_of_mul_le_mul_right hq (Nat.two_pow_pos L);simpa using this
    · have e2:(place - ((L:Int) - 1074)).toNat = 0:=by omega
      have e3:L = (((L:Int) - 1074) - place).toNat + (place + 1074).toNat:=by omega
      rw [e2] at hk
      have hc:=cut_even s (mag <<< 0) (((L:Int) - 1074) - place).toNat (by simp;omega)
      rw [hk] at hc
      rw [Nat.shiftLeft_eq,Nat.pow_zero,Nat.mul_one] at hc
      generalize (((L:Int) - 1074) - place).toNat = d at *
      rw [hU,e3]
      refine ⟨fun q hq=>hc.1 q ?_,fun q hq=>hc.2 q ?_⟩
      · rw [Nat.pow_add,<- Nat.mul_assoc] at hq;exact Nat.le_of_mul_le_mul_right hq (Nat.two_pow_pos _)
      · rw [Nat.pow_add,<- Nat.mul_assoc] at hq;exact Nat.le_of_mul_le_mul_right hq (Nat.two_pow_pos _)
  refine ⟨k,?_,bounds.1,bounds.2⟩
  have hUlt:U < 2 ^ (U.log2 + 1):=Nat.lt_log2_self
  have hUge:2 ^ U.log2 <= U:=Nat.log2_self_le hUne
  have hk53:k <= 2 ^ 53:=by
    apply bounds.2
    rw [<- Nat.pow_add]
    exact Nat.le_of_lt (Nat.lt_of_lt_of_le hUlt (Nat.pow_le_pow_right (by omega) (by omega)))
  by_cases hbig:52 <= U.log2
  · have hk52:2 ^ 52 <= k:=by
      apply bounds.1
      rw [<- Nat.pow_add]
      exact Nat.le_trans (Nat.pow_le_pow_right (by omega) (by omega)) hUge
    have hlt:L * 2 ^ 52 + k < 2047 * 2 ^ 52:=by omega
    rw [Nat.min_eq_left (by omega)]
    rw [read_word s _ hlt]
    have:(if L * 2 ^ 52 + k < 2 ^ 52 then L * 2 ^ 52 + k else (2 ^ 52 + (L * 2 ^ 52 + k) % 2 ^ 52) * 2 ^ ((L * 2 ^ 52 + k) / 2 ^ 52 - 1):Nat) = k * 2 ^ L:=by
      rw [if_neg (by omega)]
      by_cases hk':k = 2 ^ 53
      · have e5:(L * 2 ^ 52 + k) % 2 ^ 52 = 0:=by omega
        have e6:(L * 2 ^ 52 + k) / 2 ^ 52 - 1 = L + 1:=by omega
        rw [e5,e6,hk',Nat.add_zero,Nat.pow_succ 2 L,show (2:Nat) ^ 53 = 2 ^ 52 * 2 from by decide,Nat.mul_assoc,Nat.mul_comm (2 ^ L) 2]
      · have e5:(L * 2 ^ 52 + k) % 2 ^ 52 = k - 2 ^ 52:=by omega
        have e6:(L * 2 ^ 52 + k) / 2 ^ 52 - 1 = L:=by omega
        rw [e5,e6,show 2 ^ 52 + (k - 2 ^ 52) = k from by omega]
    rw [this]
  · have hL0:L = 0:=by omega
    subst hL0
    have hkU:k = U:=by
      have a1:=bounds.1 U (by simp)
      have a2:=bounds.2 U (by simp)
      omega
    have hU52:U < 2 ^ 52:=Nat.lt_of_lt_of_le hUlt (Nat.pow_le_pow_right (by omega) (by omega))
    rw [Nat.min_eq_left (by omega)]
    rw [read_word s _ (by omega)]
    have:(if 0 * 2 ^ 52 + k < 2 ^ 52 then 0 * 2 ^ 52 + k else (2 ^ 52 + (0 * 2 ^ 52 + k) % 2 ^ 52) * 2 ^ ((0 * 2 ^ 52 + k) / 2 ^ 52 - 1):Nat) = k * 2 ^ 0:=by
      rw [if_pos (by omega)];omega
    rw [this]
theorem write_V (s:Bool) (mag:Nat) (place:Int) (hp:-1074 <= place) (v:Int) (hv:v = if s then -((mag * 2 ^ (place + 1074).toNat:Nat):Int) else ((mag * 2 ^ (place + 1074).toNat:Nat):Int)) (hb:v.natAbs < 2 ^ eH) :
    ∃ r,V (Ieee.double.nearest s mag place) = some r /\ (∀ k:Int,k.natAbs < 2 ^ 53 -> v = k * unit -> r = v) /\
      (∀ k:Nat,0 < k -> k < 2 ^ 53 -> (k:Int) * unit <= v -> (k:Int) * unit <= r) /\ (∀ k:Nat,0 < k -> k < 2 ^ 53 -> v <= -((k:Int) * unit) -> r <= -((k:Int) * unit)):=by
  have hE:=eE
  by_cases hm:mag = 0
  · subst hm
    refine ⟨0,?_,?_,?_,?_⟩
    · unfold Format.nearest
      rw [if_pos rfl,read_word _ _ (by decide)];cases s <;> simp
    · intro k _ hk;rw [hv];cases s <;> simp
    · intro k h1 h2 h3;exfalso
      have:v = 0:=by rw [hv];cases s <;> simp
      have h4:0 < (k:Int) * unit:=Int.mul_pos (by omega) unit_pos
      omega
    · intro k h1 h2 h3;exfalso
      have:v = 0:=by rw [hv];cases s <;> simp
      have h4:0 < (k:Int) * unit:=Int.mul_pos (by omega) unit_pos
      omega
  · obtain ⟨U,hU⟩:∃ U,U = mag * 2 ^ (place + 1074).toNat:=⟨_,rfl⟩
    have hUv:v.natAbs = U:=by rw [hv,<- hU];cases s <;> simp
    obtain ⟨k0,h1,h2,h3⟩:=nearest_V s mag place hm hp U hU (by omega)
    have hUne:U ≠ 0:=by
      rw [hU];exact Nat.mul_ne_zero hm (Nat.pos_iff_ne_zero.1 (Nat.two_pow_pos _))
    -- a whole number below U is below the word
    have low:∀ k:Nat,0 < k -> k < 2 ^ 53 -> k * unit <= U -> k * unit <= k0 * 2 ^ (U.log2 - 52):=by
      intro k hk0 hk1 hk2
      have hUge:2 ^ U.log2 <= U:=Nat.log2_self_le hUne
      by_cases hc:U.log2 - 52 <= eU
      · have e:unit = 2 ^ (eU - (U.log2 - 52)) * 2 ^ (U.log2 - 52):=by
          unfold unit;rw [<- Nat.pow_add];congr 1;omega
        rw [e,<- Nat.mul_assoc] at hk2 ⊢
        exact Nat.mul_le_mul_right _ (h2 _ hk2)
      · have h52:2 ^ 52 <= k0:=by
          apply h2;rw [<- Nat.pow_add]
          exact Nat.le_trans (Nat.pow_le_pow_right (by omega) (by omega)) hUge
        have h5:unit * 2 <= 2 ^ (U.log2 - 52):=by
          unfold unit;rw [<- dbl];exact pl (by omega)
        calc k * unit <= 2 ^ 53 * unit:=Nat.mul_le_mul_right _ (by omega)
          _ = 2 ^ 52 * (unit * 2):=by omega
          _ <= k0 * 2 ^ (U.log2 - 52):=Nat.mul_le_mul h52 h5
    have exact1:∀ k:Nat,k < 2 ^ 53 -> U = k * unit -> k0 * 2 ^ (U.log2 - 52) = U:=by
      intro k hk hk2
      have hkne:k ≠ 0:=by intro h;subst h;simp at hk2;exact hUne hk2
      have hc:U.log2 - 52 <= eU:=by
        have:U.log2 < 53 + eU:=by
          refine (Nat.log2_lt hUne).2 ?_
          rw [hk2,Nat.pow_add];unfold unit
          exact (Nat.mul_lt_mul_right (Nat.two_pow_pos _)).2 hk
        omega
      have e:unit = 2 ^ (eU - (U.log2 - 52)) * 2 ^ (U.log2 - 52):=by
        unfold unit;rw [<- Nat.pow_add];congr 1;omega
      have e2:U = (k * 2 ^ (eU - (U.log2 - 52))) * 2 ^ (U.log2 - 52):=by
        rw [Nat.mul_assoc,<- e];exact hk2
      have a1:=h2 (k * 2 ^ (eU - (U.log2 - 52))) (by omega)
      have a2:=h3 (k * 2 ^ (eU - (U.log2 - 52))) (by omega)
      have:k0 = k * 2 ^ (eU - (U.log2 - 52)):=by omega
      rw [this];exact e2.symm
    refine ⟨_,h1,?_,?_,?_⟩
    · intro k hk hvk
      have:U = k.natAbs * unit:=by rw [<- hUv,hvk,Int.natAbs_mul];simp
      rw [exact1 k.natAbs hk this]
      rw [hv,<- hU]
    · intro k hk0 hk1 hk2
      cases s
      · simp only [Bool.false_eq_true,if_false] at hv ⊢
        rw [<- hU] at hv
        have:=low k hk0 hk1 (by rw [hv] at hk2;exact_mod_cast hk2)
        exact_mod_cast this
      · exfalso
        simp only [if_true] at hv
        have h4:0 < (k:Int) * unit:=Int.mul_pos (by omega) unit_pos
        omega
    · intro k hk0 hk1 hk2
      cases s
      · exfalso
        simp only [Bool.false_eq_true,if_false] at hv
        have h4:0 < (k:Int) * unit:=Int.mul_pos (by omega) unit_pos
        omega
      · simp only [if_true] at hv ⊢
        rw [<- hU] at hv
        have h6:(k:Int) * unit <= U:=by omega
        have:=low k hk0 hk1 (by exact_mod_cast h6)
        have h7:(k:Int) * unit <= ((k0 * 2 ^ (U.log2 - 52):Nat):Int):=by exact_mod_cast this
        omega
theorem natAbs_lt_i64 {n:Int} (h:-9223372036854775808 <= n) (h':n <= 9223372036854775807):n.natAbs < 2 ^ 64:=by omega
theorem ofInt_V (n:Int) (h:-9223372036854775808 <= n) (h':n <= 9223372036854775807) :
    ∃ r,V (floatOfInt .f64 n) = some r /\ (∀ k:Int,k.natAbs < 2 ^ 53 -> n = k -> r = n * unit) /\
      (∀ k:Nat,0 < k -> k < 2 ^ 53 -> (k:Int) <= n -> (k:Int) * unit <= r) /\ (∀ k:Nat,0 < k -> k < 2 ^ 53 -> n <= -(k:Int) -> r <= -((k:Int) * unit)):=by
  have hv:n * unit = if decide (n < 0) then -((n.natAbs * 2 ^ ((0:Int) + 1074).toNat:Nat):Int) else ((n.natAbs * 2 ^ ((0:Int) + 1074).toNat:Nat):Int):=by
    have e:((0:Int) + 1074).toNat = eU:=by decide
    rw [e]
    have e2:((n.natAbs * 2 ^ eU:Nat):Int) = (n.natAbs:Int) * unit:=by unfold unit;rw [Int.natCast_mul]
    rw [e2]
    by_cases hn:n < 0
    · rw [if_pos (by simpa using hn)]
      have:(n.natAbs:Int) = -n:=by omega
      rw [this,Int.neg_mul,Int.neg_neg]
    · rw [if_neg (by simpa using hn)]
      have:(n.natAbs:Int) = n:=by omega
      rw [this]
  have hE:=eE
  have hb:(n * unit).natAbs < 2 ^ eH:=by
    rw [Int.natAbs_mul]
    have:=natAbs_lt_i64 h h'
    have e:(unit:Int).natAbs = 2 ^ eU:=Int.natAbs_natCast unit
    rw [e]
    calc n.natAbs * 2 ^ eU < 2 ^ 64 * 2 ^ eU:=(Nat.mul_lt_mul_right (Nat.two_pow_pos _)).2 this
      _ <= 2 ^ eH:=by rw [<- Nat.pow_add];exact Nat.pow_le_pow_right (by omega) (by omega)
  obtain ⟨r,h1,h2,h3,h4⟩:=write_V (decide (n < 0)) n.natAbs 0 (by omega) (n * unit) hv hb
  refine ⟨r,h1,?_,?_,?_⟩
  · rintro k hk rfl;exact h2 n hk rfl
  · intro k hk hk2 hk3
    exact h3 k hk hk2 (Int.mul_le_mul_of_nonneg_right hk3 (by have:=unit_pos;omega))
  · intro k hk hk2 hk3
    refine h4 k hk hk2 ?_
    have:=Int.mul_le_mul_of_nonneg_right hk3 (show (0:Int) <= unit by have:=unit_pos;omega)
    rw [Int.neg_mul] at this;exact this
def wh (x:Nat):Bool:=geB x 0 && leB x most && eqB (floatOfInt .f64 (tr x)) x
theorem wh_spec {x:Nat} (h:wh x = true):V x = some (tr x * unit) /\ 0 <= tr x /\ tr x <= 999999999 /\ floatToIntVal .f64 x .i64 = some (tr x):=by
  unfold wh geB leB at h
  rw [V_zero,V_most] at h
  cases hv:V x with
  | none=>rw [hv] at h;simp at h
  | some v =>
    rw [hv] at h
    simp only [Bool.and_eq_true,decide_eq_true_eq] at h
    obtain ⟨⟨h0,h1⟩,h2⟩:=h
    obtain ⟨h3,h4⟩:=tr_of hv h0 h1
    have hd:v / unit <= 999999999:=Int.ediv_le_of_le_mul unit_pos h1
    have hn:0 <= v / unit:=Int.ediv_nonneg h0 (by have:=unit_pos;omega)
    obtain ⟨r,g1,g2,_,_⟩:=ofInt_V (tr x) (by omega) (by omega)
    have g3:=g2 (tr x) (by omega) rfl
    unfold eqB at h2
    rw [g1,hv] at h2
    simp at h2
    exact ⟨by rw [<- h2,g3],by omega,by omega,h3⟩
theorem wh_of {x:Nat} {n:Int} (h:V x = some (n * unit)) (h0:0 <= n) (h1:n <= 999999999):wh x = true /\ tr x = n:=by
  have hu:=unit_pos
  have a0:0 <= n * (unit:Int):=Int.mul_nonneg h0 (by omega)
  have a1:n * (unit:Int) <= 999999999 * unit:=Int.mul_le_mul_of_nonneg_right h1 (by omega)
  obtain ⟨h3,h4⟩:=tr_of h a0 a1
  have h5:tr x = n:=by rw [h4,Int.mul_ediv_cancel _ (by omega)]
  refine ⟨?_,h5⟩
  obtain ⟨r,g1,g2,_,_⟩:=ofInt_V n (by omega) (by omega)
  have g3:=g2 n (by omega) rfl
  unfold wh geB leB eqB
  rw [V_zero,V_most,h,h5,g1,g3]
  simp [a0,a1]
theorem wh_no {x:Nat} {v:Int} (h:V x = some v) (h0:v < 0 \/ 999999999 * (unit:Int) < v):wh x = false:=by
  unfold wh geB leB
  rw [V_zero,V_most,h]
  rcases h0 with h0 | h0
  · have:decide (0 <= v) = false:=by simpa using h0
    simp [this]
  · have:decide (v <= 999999999 * (unit:Int)) = false:=by simpa using h0
    simp [this]
theorem V_ofInt {n:Int} (h0:-9007199254740991 <= n) (h1:n <= 9007199254740991):V (floatOfInt .f64 n) = some (n * unit):=by
  obtain ⟨r,g1,g2,_,_⟩:=ofInt_V n (by omega) (by omega)
  rw [g1,g2 n (by omega) rfl]
theorem wh_ofInt (n:Int) (h:-9223372036854775808 <= n) (h':n <= 9223372036854775807):wh (floatOfInt .f64 n) = (decide (0 <= n) && decide (n <= 999999999)) /\ (0 <= n -> n <= 999999999 -> tr (floatOfInt .f64 n) = n):=by
  have hu:=unit_pos
  by_cases h0:0 <= n
  · by_cases h1:n <= 999999999
    · obtain ⟨a,b⟩:=wh_of (V_ofInt (n:=n) (by omega) (by omega)) h0 h1
      exact ⟨by rw [a];simp [h0,h1],fun _ _=>b⟩
    · obtain ⟨r,g1,_,g3,_⟩:=ofInt_V n h h'
      have:=g3 1000000000 (by omega) (by omega) (by omega)
      refine ⟨?_,fun _ h=>absurd h h1⟩
      rw [wh_no g1 (Or.inr (by omega))];simp [h1]
  · obtain ⟨r,g1,_,_,g4⟩:=ofInt_V n h h'
    have:=g4 1 (by omega) (by omega) (by omega)
    refine ⟨?_,fun h=>absurd h h0⟩
    rw [wh_no g1 (Or.inl (by omega))];simp [h0]
theorem wh_none:wh 13830554455654793216 = false:=wh_no V_none (Or.inl (by have:=unit_pos;omega))
theorem tr_none:floatToIntVal .f64 13830554455654793216 .i64 = some (-1):=by decide +kernel
theorem le_wh {x y:Nat} (hx:wh x = true) (hy:wh y = true):leB x y = decide (tr x <= tr y):=by
  obtain ⟨a,_⟩:=wh_spec hx
  obtain ⟨b,_⟩:=wh_spec hy
  unfold leB;rw [a,b]
  have hu:=unit_pos
  simp only
  congr 1
  exact propext ⟨fun h=>Int.le_of_mul_le_mul_right h hu,fun h=>Int.mul_le_mul_of_nonneg_right h (by omega)⟩
theorem eq_V {x y:Nat} {v:Int} (hx:V x = some v) (hy:V y = some v):eqB x y = true:=by
  unfold eqB;rw [hx,hy];simp
theorem eqB_comm (x y:Nat):eqB x y = eqB y x:=by
  unfold eqB;cases V x <;> cases V y <;> simp [eq_comm]
def may (a b:Nat):Bool:=wh a && wh b && leB a b
theorem may_test (a b:Nat):(geB a 0 && leB a b && leB b most && eqB a (floatOfInt .f64 (tr a)) && eqB b (floatOfInt .f64 (tr b))) = may a b:=by
  unfold may wh
  rw [eqB_comm a,eqB_comm b]
  unfold geB leB
  rw [V_zero,V_most]
  cases V a <;> cases V b <;> simp
  rename_i x y
  by_cases h1:0 <= x <;> by_cases h2:x <= y <;> by_cases h3:y <= 999999999 * (unit:Int)
  · have h4:x <= 999999999 * (unit:Int):=by omega
    have h5:0 <= y:=by omega
    simp [h1,h2,h3,h4,h5]
  all_goals simp [h1,h2,h3]
theorem conv_a {a b:Nat} (h1:geB a 0 = true) (h2:leB a b = true) (h3:leB b most = true):floatToIntVal .f64 a .i64 = some (tr a) /\ floatToIntVal .f64 b .i64 = some (tr b):=by
  unfold geB at h1
  unfold leB at h2 h3
  rw [V_zero] at h1
  rw [V_most] at h3
  cases ha:V a with
  | none=>rw [ha] at h1;cases h1
  | some x =>
    cases hb:V b with
    | none=>rw [hb] at h3;cases h3
    | some y =>
      rw [ha] at h1 h2;rw [hb] at h2 h3
      simp at h1 h2 h3
      exact ⟨(tr_of ha h1 (by omega)).1,(tr_of hb (by omega) h3).1⟩
theorem conv_w {a:Nat} (h1:geB a 0 = true) (h3:leB a most = true):floatToIntVal .f64 a .i64 = some (tr a):=by
  unfold geB at h1
  unfold leB at h3
  rw [V_zero] at h1
  rw [V_most] at h3
  cases ha:V a with
  | none=>rw [ha] at h1;cases h1
  | some x =>
    rw [ha] at h1 h3
    simp at h1 h3
    exact (tr_of ha h1 (by omega)).1
def minF (x y:Nat):Nat:=match Ieee.double.order x y with
  | some .gt=>y
  | some .eq=>if (FloatKind.f64.decode x).neg then x else y
  | _=>x
def maxF (x y:Nat):Nat:=match Ieee.double.order x y with
  | some .gt=>x
  | some .eq=>if (FloatKind.f64.decode x).neg then y else x
  | _=>y
section
variable {P:Program} (w:World)
end
theorem may_spec {a b:Nat} (h:may a b = true):wh a = true /\ wh b = true /\ tr a <= tr b:=by
  unfold may at h
  simp only [Bool.and_eq_true] at h
  obtain ⟨⟨h1,h2⟩,h3⟩:=h
  rw [le_wh h1 h2] at h3
  exact ⟨h1,h2,by simpa using h3⟩
theorem may_of {a b:Nat} (h1:wh a = true) (h2:wh b = true) (h3:tr a <= tr b):may a b = true:=by
  unfold may;rw [h1,h2,le_wh h1 h2];simp [h3]
theorem may_none:may 13830554455654793216 13830554455654793216 = false:=by unfold may;rw [wh_none];rfl
def fromV (a b:Nat):Int:=if may a b then tr a else -1
def toV (a b:Nat):Int:=if may a b then tr b else -1
theorem fromV_bd (a b:Nat):-1 <= fromV a b /\ fromV a b <= 999999999 /\ -1 <= toV a b /\ toV a b <= 999999999 /\ fromV a b <= toV a b:=by
  unfold fromV toV
  by_cases h:may a b = true
  · obtain ⟨h1,h2,h3⟩:=may_spec h
    obtain ⟨_,b2,b3,_⟩:=wh_spec h1
    obtain ⟨_,c2,c3,_⟩:=wh_spec h2
    rw [if_pos h,if_pos h];omega
  · rw [if_neg h,if_neg h];omega
end Go.Proofs.YtinallojhkaogaaGreatDoor.Fl
namespace Go.Proofs.YtinallojhkaogaaGreatDoor.Sp
open Go.RowKit Fl
@[go_sem] theorem o_lt (a b:Nat):(FloatKind.f64.format.order a b == some .lt) = ltB a b:=order_lt a b
@[go_sem] theorem o_gt (a b:Nat):(FloatKind.f64.format.order a b == some .gt) = gtB a b:=order_gt a b
@[go_sem] theorem o_eq (a b:Nat):(FloatKind.f64.format.order a b == some .eq) = eqB a b:=order_eq a b
@[go_sem] theorem o_ne (a b:Nat):(FloatKind.f64.format.order a b != some .eq) = !eqB a b:=by rw [<- order_eq];rfl
@[go_sem] theorem o_ge (a b:Nat):(gtB a b || eqB a b) = geB a b:=by rw [<- order_ge,<- order_gt,<- order_eq]
@[go_sem] theorem o_le (a b:Nat):(ltB a b || eqB a b) = leB a b:=by rw [<- order_le,<- order_lt,<- order_eq]
abbrev noneB:Nat:=13830554455654793216
abbrev cx (a b:Nat):Value:=.complex .f64 a b
theorem known_no1 (a b:Nat) (w:World) (h1:geB a 0 = false) :
  Calls Tryz.prog 94 #[.float .f64 a,.float .f64 b] w fun e w'=>e = .returned (.tuple #[cx noneB noneB,.bool false]) /\ w = w':=by
 go_enter Tryz.func94,Tryz.ntmps94;go_wp2;refine wp_scope_jumps 0 (fun a' w'=>w = w' /\ a'.tmps.size = 35 /\ a'.defers = []) (fun _ _=>0) rfl ?_ ?_
 · go_wp2;go_step3;exact ⟨rfl,rfl,rfl,rfl⟩
 · rintro ⟨t,d⟩ w' ⟨rfl,ht,hd⟩;go_wp2;simp only [Exit.jump];exact bodyPost_ret (v:=.tuple #[cx noneB noneB,.bool false]) (by rw [results_tmp2 (t:=4) (u:=5) rfl];simp [Array.getD,ht]) rfl ⟨rfl,rfl⟩
theorem known_no2 (a b:Nat) (w:World) (h1:geB a 0 = true) (h2:leB a b = false) :
  Calls Tryz.prog 94 #[.float .f64 a,.float .f64 b] w fun e w'=>e = .returned (.tuple #[cx noneB noneB,.bool false]) /\ w = w':=by
 go_enter Tryz.func94,Tryz.ntmps94;go_wp2;refine wp_scope_jumps 0 (fun a' w'=>w = w' /\ a'.tmps.size = 35 /\ a'.defers = []) (fun _ _=>0) rfl ?_ ?_
 · go_wp2;go_step3;exact ⟨rfl,rfl,rfl,rfl⟩
 · rintro ⟨t,d⟩ w' ⟨rfl,ht,hd⟩;go_wp2;simp only [Exit.jump];exact bodyPost_ret (v:=.tuple #[cx noneB noneB,.bool false]) (by rw [results_tmp2 (t:=4) (u:=5) rfl];simp [Array.getD,ht]) rfl ⟨rfl,rfl⟩
theorem known_no3 (a b:Nat) (w:World) (h1:geB a 0 = true) (h2:leB a b = true) (h3:leB b 4741671816358002688 = false) :
  Calls Tryz.prog 94 #[.float .f64 a,.float .f64 b] w fun e w'=>e = .returned (.tuple #[cx noneB noneB,.bool false]) /\ w = w':=by
 go_enter Tryz.func94,Tryz.ntmps94;go_wp2;refine wp_scope_jumps 0 (fun a' w'=>w = w' /\ a'.tmps.size = 35 /\ a'.defers = []) (fun _ _=>0) rfl ?_ ?_
 · go_wp2;go_step3;exact ⟨rfl,rfl,rfl,rfl⟩
 · rintro ⟨t,d⟩ w' ⟨rfl,ht,hd⟩;go_wp2;simp only [Exit.jump];exact bodyPost_ret (v:=.tuple #[cx noneB noneB,.bool false]) (by rw [results_tmp2 (t:=4) (u:=5) rfl];simp [Array.getD,ht]) rfl ⟨rfl,rfl⟩
theorem known_no4 (a b:Nat) (w:World) (h1:geB a 0 = true) (h2:leB a b = true) (h3:leB b 4741671816358002688 = true) (h4:eqB a (floatOfInt .f64 (tr a)) = false) :
  Calls Tryz.prog 94 #[.float .f64 a,.float .f64 b] w fun e w'=>e = .returned (.tuple #[cx noneB noneB,.bool false]) /\ w = w':=by
 obtain ⟨g1,g2⟩:=conv_a h1 h2 h3;(have c1:=fun w=>run_convert_float_int (P:=Tryz.prog) w 118 3 .f64 .i64 a (tr a) (by rw [Tryz.underlying118];rfl) Tryz.underlying3 g1);(have c2:=fun w=>run_convert_float_int (P:=Tryz.prog) w 118 3 .f64 .i64 b (tr b) (by rw [Tryz.underlying118];rfl) Tryz.underlying3 g2);clear g1 g2;go_enter Tryz.func94,Tryz.ntmps94;go_wp2;refine wp_scope_jumps 0 (fun a' w'=>w = w' /\ a'.tmps.size = 35 /\ a'.defers = []) (fun _ _=>0) rfl ?_ ?_
 · go_wp2;go_step3;exact ⟨rfl,rfl,rfl,rfl⟩
 · rintro ⟨t,d⟩ w' ⟨rfl,ht,hd⟩;go_wp2;simp only [Exit.jump];exact bodyPost_ret (v:=.tuple #[cx noneB noneB,.bool false]) (by rw [results_tmp2 (t:=4) (u:=5) rfl];simp [Array.getD,ht]) rfl ⟨rfl,rfl⟩
theorem known_no5 (a b:Nat) (w:World) (h1:geB a 0 = true) (h2:leB a b = true) (h3:leB b 4741671816358002688 = true) (h4:eqB a (floatOfInt .f64 (tr a)) = true) (h5:eqB b (floatOfInt .f64 (tr b)) = false) :
  Calls Tryz.prog 94 #[.float .f64 a,.float .f64 b] w fun e w'=>e = .returned (.tuple #[cx noneB noneB,.bool false]) /\ w = w':=by
 obtain ⟨g1,g2⟩:=conv_a h1 h2 h3;(have c1:=fun w=>run_convert_float_int (P:=Tryz.prog) w 118 3 .f64 .i64 a (tr a) (by rw [Tryz.underlying118];rfl) Tryz.underlying3 g1);(have c2:=fun w=>run_convert_float_int (P:=Tryz.prog) w 118 3 .f64 .i64 b (tr b) (by rw [Tryz.underlying118];rfl) Tryz.underlying3 g2);clear g1 g2;go_enter Tryz.func94,Tryz.ntmps94;go_wp2;refine wp_scope_jumps 0 (fun a' w'=>w = w' /\ a'.tmps.size = 35 /\ a'.defers = []) (fun _ _=>0) rfl ?_ ?_
 · go_wp2;go_step3;exact ⟨rfl,rfl,rfl,rfl⟩
 · rintro ⟨t,d⟩ w' ⟨rfl,ht,hd⟩;go_wp2;simp only [Exit.jump];exact bodyPost_ret (v:=.tuple #[cx noneB noneB,.bool false]) (by rw [results_tmp2 (t:=4) (u:=5) rfl];simp [Array.getD,ht]) rfl ⟨rfl,rfl⟩
theorem known_yes (a b:Nat) (w:World) (h1:geB a 0 = true) (h2:leB a b = true) (h3:leB b 4741671816358002688 = true) (h4:eqB a (floatOfInt .f64 (tr a)) = true) (h5:eqB b (floatOfInt .f64 (tr b)) = true) :
  Calls Tryz.prog 94 #[.float .f64 a,.float .f64 b] w fun e w'=>e = .returned (.tuple #[cx a b,.bool true]) /\ w = w':=by
 obtain ⟨g1,g2⟩:=conv_a h1 h2 h3;(have c1:=fun w=>run_convert_float_int (P:=Tryz.prog) w 118 3 .f64 .i64 a (tr a) (by rw [Tryz.underlying118];rfl) Tryz.underlying3 g1);(have c2:=fun w=>run_convert_float_int (P:=Tryz.prog) w 118 3 .f64 .i64 b (tr b) (by rw [Tryz.underlying118];rfl) Tryz.underlying3 g2);clear g1 g2;go_enter Tryz.func94,Tryz.ntmps94;go_wp2;refine wp_scope_jumps 0 (fun a' w'=>False) (fun _ _=>0) rfl ?_ ?_
 · go_wp2;simp only [Exit.jump];exact bodyPost_ret (v:=.tuple #[cx a b,.bool true]) (by rw [results_tmp2 (t:=4) (u:=5) rfl];simp [Array.getD]) rfl ⟨rfl,rfl⟩
 · rintro _ _ ⟨⟩
def kA (a b:Nat):Nat:=if may a b then a else noneB
def kB (a b:Nat):Nat:=if may a b then b else noneB
abbrev knV (a b:Nat):Value:=cx (kA a b) (kB a b)
theorem known_any (a b:Nat) (w:World) :
  Calls Tryz.prog 94 #[.float .f64 a,.float .f64 b] w fun e w'=>e = .returned (.tuple #[knV a b,.bool (may a b)]) /\ w = w':=by
 unfold knV kA kB;rw [<- may_test];cases h1:geB a 0
 · exact (known_no1 a b w h1).mono fun e w' h=>by simpa using h
 cases h2:leB a b
 · exact (known_no2 a b w h1 h2).mono fun e w' h=>by simpa using h
 cases h3:leB b most
 · exact (known_no3 a b w h1 h2 h3).mono fun e w' h=>by simpa using h
 cases h4:eqB a (floatOfInt .f64 (tr a))
 · exact (known_no4 a b w h1 h2 h3 h4).mono fun e w' h=>by simpa using h
 cases h5:eqB b (floatOfInt .f64 (tr b))
 · exact (known_no5 a b w h1 h2 h3 h4 h5).mono fun e w' h=>by simpa using h
 exact (known_yes a b w h1 h2 h3 h4 h5).mono fun e w' h=>by simpa using h
theorem may_any (a b:Nat) (w:World) :
  Calls Tryz.prog 67 #[cx a b] w fun e w'=>e = .returned (.bool (may a b)) /\ w = w':=by
 go_enter Tryz.func67,Tryz.ntmps67;go_wp2_with (go_at_call 94;refine (known_any _ _ _).mono ?_;rintro e w' ⟨rfl,rfl⟩);go_ret;exact ⟨rfl,rfl⟩
theorem from_any (a b:Nat) (w:World) :
  Calls Tryz.prog 39 #[cx a b] w fun e w'=>e = .returned (.int .i64 (fromV a b)) /\ w = w':=by
 cases h:may a b
 · (have c1:=fun w=>run_convert_float_int (P:=Tryz.prog) w 118 3 .f64 .i64 _ (-1) (by rw [Tryz.underlying118];rfl) Tryz.underlying3 tr_none);go_enter Tryz.func39,Tryz.ntmps39;go_wp2_with (go_at_call 67;refine (may_any _ _ _).mono ?_;rintro e w' ⟨rfl,rfl⟩);go_ret;exact ⟨by unfold fromV;rw [h];rfl,rfl⟩
 · have g1:=(wh_spec (may_spec h).1).2.2.2;(have c1:=fun w=>run_convert_float_int (P:=Tryz.prog) w 118 3 .f64 .i64 _ (tr a) (by rw [Tryz.underlying118];rfl) Tryz.underlying3 g1);clear g1;go_enter Tryz.func39,Tryz.ntmps39;go_wp2_with (go_at_call 67;refine (may_any _ _ _).mono ?_;rintro e w' ⟨rfl,rfl⟩);go_ret;exact ⟨by unfold fromV;rw [h];rfl,rfl⟩
theorem to_any (a b:Nat) (w:World) :
  Calls Tryz.prog 57 #[cx a b] w fun e w'=>e = .returned (.int .i64 (toV a b)) /\ w = w':=by
 cases h:may a b
 · (have c1:=fun w=>run_convert_float_int (P:=Tryz.prog) w 118 3 .f64 .i64 _ (-1) (by rw [Tryz.underlying118];rfl) Tryz.underlying3 tr_none);go_enter Tryz.func57,Tryz.ntmps57;go_wp2_with (go_at_call 67;refine (may_any _ _ _).mono ?_;rintro e w' ⟨rfl,rfl⟩);go_ret;exact ⟨by unfold toV;rw [h];rfl,rfl⟩
 · have g1:=(wh_spec (may_spec h).2.1).2.2.2;(have c1:=fun w=>run_convert_float_int (P:=Tryz.prog) w 118 3 .f64 .i64 _ (tr b) (by rw [Tryz.underlying118];rfl) Tryz.underlying3 g1);clear g1;go_enter Tryz.func57,Tryz.ntmps57;go_wp2_with (go_at_call 67;refine (may_any _ _ _).mono ?_;rintro e w' ⟨rfl,rfl⟩);go_ret;exact ⟨by unfold toV;rw [h];rfl,rfl⟩
theorem len_any (a b:Nat) (w:World) :
  Calls Tryz.prog 70 #[cx a b] w fun e w'=>e = .returned (.int .i64 (toV a b - fromV a b)) /\ w = w':=by
 obtain ⟨b1,b2,b3,b4,b5⟩:=fromV_bd a b;go_enter Tryz.func70,Tryz.ntmps70;go_wp2_with (first | (go_at_call 57;refine (to_any _ _ _).mono ?_;rintro e w' ⟨rfl,rfl⟩) | (go_at_call 39;refine (from_any _ _ _).mono ?_;rintro e w' ⟨rfl,rfl⟩));go_ret;exact ⟨rfl,rfl⟩
theorem none_any (w:World) :
  Calls Tryz.prog 53 #[] w fun e w'=>e = .returned (cx noneB noneB) /\ w = w':=by
 go_enter Tryz.func53,Tryz.ntmps53;go_wp2;go_ret;exact ⟨rfl,rfl⟩
theorem of_any (a b:Int) (w:World) :
  Calls Tryz.prog 77 #[.int .i64 a,.int .i64 b] w fun e w'=>e = .returned (.tuple #[knV (floatOfInt .f64 a) (floatOfInt .f64 b),.bool (may (floatOfInt .f64 a) (floatOfInt .f64 b))]) /\ w = w':=by
 go_enter Tryz.func77,Tryz.ntmps77;go_wp2_with (go_at_call 94;refine (known_any _ _ _).mono ?_;rintro e w' ⟨rfl,rfl⟩)
 go_ret2
 exact ⟨rfl,rfl⟩
def hA (a b c d:Nat):Nat:=if may a b then (if may c d then minF a c else a) else (if may c d then c else noneB)
def hB (a b c d:Nat):Nat:=if may a b then (if may c d then maxF b d else b) else (if may c d then d else noneB)
def cutL (t:ByteArray) (a b:Nat):ByteArray:=if may a b then t.extract (min (tr a) (min (tr b) t.size)).toNat (min (tr b) t.size).toNat else ⟨#[]⟩
theorem cut_any (t:ByteArray) (a b:Nat) (w:World) (ht:t.size <= maxLen) :
  Calls Tryz.prog 38 #[.string t,cx a b] w fun e w'=>e = .returned (.string (cutL t a b)) /\ w = w':=by
 unfold maxLen at ht;cases h:may a b
 · go_enter Tryz.func38,Tryz.ntmps38;go_wp2_with (go_at_call 67;refine (may_any _ _ _).mono ?_;rintro e w' ⟨rfl,rfl⟩);go_ret;exact ⟨by unfold cutL;rw [h];rfl,rfl⟩
 ·
  obtain ⟨h1,h2,h3⟩:=may_spec h;obtain ⟨_,b2,b3,_⟩:=wh_spec h1;obtain ⟨_,c2,c3,_⟩:=wh_spec h2;(have e1:fromV a b = tr a:=by unfold fromV;rw [h];rfl);(have e2:toV a b = tr b:=by unfold toV;rw [h];rfl);have E1:=Lib.hid e1;have E2:=Lib.hid e2;(have b2':0 <= fromV a b:=by omega);(have c2':0 <= toV a b:=by omega);(have h3':fromV a b <= toV a b:=by omega);(have c3':toV a b <= 999999999:=by omega);clear h1 h2 h3 b2 b3 c2 c3 e1 e2;go_enter Tryz.func38,Tryz.ntmps38;go_wp2_with (first | (go_at_call 67;refine (may_any _ _ _).mono ?_;rintro e w' ⟨rfl,rfl⟩) | (go_at_call 57;refine (to_any _ _ _).mono ?_;rintro e w' ⟨rfl,rfl⟩) | (go_at_call 39;refine (from_any _ _ _).mono ?_;rintro e w' ⟨rfl,rfl⟩));(all_goals go_ret);(all_goals refine ⟨?_,rfl⟩);(all_goals unfold cutL);(all_goals rw [if_pos (by assumption)]);all_goals rw [<- E1.out,<- E2.out]
  · (have e1:(min (fromV a b) (min (toV a b) ↑t.size)).toNat = t.size:=by omega);(have e2:(min (toV a b) ↑t.size).toNat = t.size:=by omega);rw [e1,e2];exact congrArg (fun x=>Ending.returned (Value.string x)) (by ext1;simp)
  · (have e1:(min (fromV a b) (min (toV a b) ↑t.size)).toNat = (fromV a b).toNat:=by omega);(have e2:(min (toV a b) ↑t.size).toNat = t.size:=by omega);rw [e1,e2];rfl
  · (have e1:(min (fromV a b) (min (toV a b) ↑t.size)).toNat = (fromV a b).toNat:=by omega);(have e2:(min (toV a b) ↑t.size).toNat = (toV a b).toNat:=by omega);rw [e1,e2];rfl
theorem whole_any (x:Nat) (w:World) :
  Calls Tryz.prog 99 #[.float .f64 x] w fun e w'=>e = .returned (.bool (wh x)) /\ w = w':=by
 have hw:wh x = (geB x 0 && leB x most && eqB (floatOfInt .f64 (tr x)) x):=rfl;rw [hw];clear hw;cases h1:geB x 0
 · go_enter Tryz.func99,Tryz.ntmps99;go_wp2;go_ret;exact ⟨rfl,rfl⟩
 cases h2:leB x most
 · have h3:leB x 4741671816358002688 = false:=h2;clear h2;go_enter Tryz.func99,Tryz.ntmps99;go_wp2;go_ret;exact ⟨rfl,rfl⟩
 · have h3:leB x 4741671816358002688 = true:=h2;have g:=conv_w h1 h2;(have c1:=fun w=>run_convert_float_int (P:=Tryz.prog) w 118 3 .f64 .i64 _ (tr x) (by rw [Tryz.underlying118];rfl) Tryz.underlying3 g);clear g h2;go_enter Tryz.func99,Tryz.ntmps99;go_wp2;go_ret;exact ⟨by simp,rfl⟩
theorem rmay_any (a b:Nat) (w:World) :
  Calls Tryz.prog 73 #[cx a b] w fun e w'=>e = .returned (.bool (may a b)) /\ w = w':=by
 unfold may;cases h1:wh a <;> cases h2:wh b;all_goals
  go_enter Tryz.func73,Tryz.ntmps73;go_wp2_with (go_at_call 99;refine (whole_any _ _).mono ?_;rintro e w' ⟨rfl,rfl⟩);go_ret;exact ⟨by simp,rfl⟩
theorem rnone_any (w:World) :
  Calls Tryz.prog 54 #[] w fun e w'=>e = .returned (cx noneB noneB) /\ w = w':=by
 go_enter Tryz.func54,Tryz.ntmps54;go_wp2;go_ret;exact ⟨rfl,rfl⟩
def inB (a b:Int):Bool:=decide (0 <= a) && decide (a <= b) && decide (b <= 999999999)
def rA (a b:Int):Nat:=if inB a b then floatOfInt .f64 a else noneB
def rB (a b:Int):Nat:=if inB a b then floatOfInt .f64 b else noneB
abbrev rofV (a b:Int):Value:=cx (rA a b) (rB a b)
theorem rof_no {a b:Int} (h:¬ (0 <= a /\ a <= b /\ b <= 999999999)):Ending.returned (.tuple #[cx noneB noneB,.bool false]) = .returned (.tuple #[rofV a b,.bool (inB a b)]):=by
 have:inB a b = false:=by
  unfold inB;rw [Bool.eq_false_iff];simp;omega
 unfold rofV rA rB;rw [this];rfl
theorem rof_yes {a b:Int} (h:0 <= a /\ a <= b /\ b <= 999999999):Ending.returned (.tuple #[cx (floatOfInt .f64 a) (floatOfInt .f64 b),.bool true]) = .returned (.tuple #[rofV a b,.bool (inB a b)]):=by
 (have:inB a b = true:=by unfold inB;simp;omega);unfold rofV rA rB;rw [this];rfl
theorem rof_any (a b:Int) (w:World) :
  Calls Tryz.prog 79 #[.int .i64 a,.int .i64 b] w fun e w'=>e = .returned (.tuple #[rofV a b,.bool (inB a b)]) /\ w = w':=by
 by_cases h1:0 <= a
 ·
  by_cases h2:a <= b
  ·
   by_cases h3:b <= 999999999
   ·
    go_enter Tryz.func79,Tryz.ntmps79;go_wp2_with (go_at_call 54;refine (rnone_any _).mono ?_;rintro e w' ⟨rfl,rfl⟩)
    go_ret2
    exact ⟨rof_yes (by omega),rfl⟩
   ·
    go_enter Tryz.func79,Tryz.ntmps79;go_wp2_with (go_at_call 54;refine (rnone_any _).mono ?_;rintro e w' ⟨rfl,rfl⟩)
    go_ret2
    exact ⟨rof_no (by omega),rfl⟩
  ·
   go_enter Tryz.func79,Tryz.ntmps79;go_wp2_with (go_at_call 54;refine (rnone_any _).mono ?_;rintro e w' ⟨rfl,rfl⟩)
   go_ret2
   exact ⟨rof_no (by omega),rfl⟩
 ·
  go_enter Tryz.func79,Tryz.ntmps79;go_wp2_with (go_at_call 54;refine (rnone_any _).mono ?_;rintro e w' ⟨rfl,rfl⟩)
  go_ret2
  exact ⟨rof_no (by omega),rfl⟩
theorem rfrom_any (a b:Nat) (w:World) :
  Calls Tryz.prog 46 #[cx a b] w fun e w'=>e = .returned (.int .i64 (fromV a b)) /\ w = w':=by
 cases h:may a b
 · go_enter Tryz.func46,Tryz.ntmps46;go_wp2_with (go_at_call 73;refine (rmay_any _ _ _).mono ?_;rintro e w' ⟨rfl,rfl⟩);go_ret;exact ⟨by unfold fromV;rw [h];rfl,rfl⟩
 · have g1:=(wh_spec (may_spec h).1).2.2.2;(have c1:=fun w=>run_convert_float_int (P:=Tryz.prog) w 118 3 .f64 .i64 _ (tr a) (by rw [Tryz.underlying118];rfl) Tryz.underlying3 g1);clear g1;go_enter Tryz.func46,Tryz.ntmps46;go_wp2_with (go_at_call 73;refine (rmay_any _ _ _).mono ?_;rintro e w' ⟨rfl,rfl⟩);go_ret;exact ⟨by unfold fromV;rw [h];rfl,rfl⟩
theorem rto_any (a b:Nat) (w:World) :
  Calls Tryz.prog 44 #[cx a b] w fun e w'=>e = .returned (.int .i64 (toV a b)) /\ w = w':=by
 cases h:may a b
 · go_enter Tryz.func44,Tryz.ntmps44;go_wp2_with (go_at_call 73;refine (rmay_any _ _ _).mono ?_;rintro e w' ⟨rfl,rfl⟩);go_ret;exact ⟨by unfold toV;rw [h];rfl,rfl⟩
 · have g1:=(wh_spec (may_spec h).2.1).2.2.2;(have c1:=fun w=>run_convert_float_int (P:=Tryz.prog) w 118 3 .f64 .i64 _ (tr b) (by rw [Tryz.underlying118];rfl) Tryz.underlying3 g1);clear g1;go_enter Tryz.func44,Tryz.ntmps44;go_wp2_with (go_at_call 73;refine (rmay_any _ _ _).mono ?_;rintro e w' ⟨rfl,rfl⟩);go_ret;exact ⟨by unfold toV;rw [h];rfl,rfl⟩
theorem rlen_any (a b:Nat) (w:World) :
  Calls Tryz.prog 45 #[cx a b] w fun e w'=>e = .returned (.int .i64 (toV a b - fromV a b)) /\ w = w':=by
 obtain ⟨b1,b2,b3,b4,b5⟩:=fromV_bd a b;cases h:may a b
 · go_enter Tryz.func45,Tryz.ntmps45;go_wp2_with (first | (go_at_call 73;refine (rmay_any _ _ _).mono ?_;rintro e w' ⟨rfl,rfl⟩) | (go_at_call 44;refine (rto_any _ _ _).mono ?_;rintro e w' ⟨rfl,rfl⟩) | (go_at_call 46;refine (rfrom_any _ _ _).mono ?_;rintro e w' ⟨rfl,rfl⟩) | (go_at_call 54;refine (rnone_any _).mono ?_;rintro e w' ⟨rfl,rfl⟩) | (go_at_call 79;refine (rof_any _ _ _).mono ?_;rintro e w' ⟨rfl,rfl⟩));go_ret;exact ⟨by unfold fromV toV;rw [h];rfl,rfl⟩
 · go_enter Tryz.func45,Tryz.ntmps45;go_wp2_with (first | (go_at_call 73;refine (rmay_any _ _ _).mono ?_;rintro e w' ⟨rfl,rfl⟩) | (go_at_call 44;refine (rto_any _ _ _).mono ?_;rintro e w' ⟨rfl,rfl⟩) | (go_at_call 46;refine (rfrom_any _ _ _).mono ?_;rintro e w' ⟨rfl,rfl⟩) | (go_at_call 54;refine (rnone_any _).mono ?_;rintro e w' ⟨rfl,rfl⟩) | (go_at_call 79;refine (rof_any _ _ _).mono ?_;rintro e w' ⟨rfl,rfl⟩));go_ret;exact ⟨rfl,rfl⟩
def rcut (t:ByteArray) (a b:Nat) (k:Nat):ByteArray:=if may a b then t.extract (tr a).toNat (min k (tr b).toNat) else ByteArray.empty
theorem rcut_no {t:ByteArray} {a b k:Nat} (h:may a b = false):rcut t a b k = ByteArray.empty:=by
 unfold rcut;rw [h];rfl
theorem rcut_zero (t:ByteArray) (a b:Nat):rcut t a b 0 = ByteArray.empty:=by
 unfold rcut;split
 · ext1;simp
 · rfl
theorem rcut_in {t:ByteArray} {a b k:Nat} (h:may a b = true) (h1:tr a <= k) (h2:(k:Int) < tr b):rcut t a b (k + 1) = rcut t a b k ++ t.extract k (k + 1):=by
 unfold rcut;rw [if_pos h,if_pos h,Nat.min_eq_left (by omega),Nat.min_eq_left (by omega)]
 ext1
 simp;rw [Nat.min_eq_left (by omega)]
theorem rcut_out {t:ByteArray} {a b k:Nat} (h:may a b = true) (h1:(k:Int) < tr a \/ tr b <= k):rcut t a b (k + 1) = rcut t a b k:=by
 obtain ⟨h4,h5,h6⟩:=may_spec h;unfold rcut;rw [if_pos h,if_pos h];rcases h1 with h1 | h1
 · ext1;simp;rw [Array.extract_eq_empty_of_le (by omega),Array.extract_eq_empty_of_le (by omega)]
 · rw [Nat.min_eq_right (by omega),Nat.min_eq_right (by omega)]
theorem rcut_size (t:ByteArray) (a b k:Nat):(rcut t a b k).size <= k:=by
 unfold rcut;split
 · simp;omega
 · simp
theorem rcut_any (t:ByteArray) (a b:Nat) (w:World) (ht:t.size <= maxLen) :
  Calls Tryz.prog 52 #[.string t,cx a b] w fun e w'=>e = .returned (.string (rcut t a b t.size)) /\ w = w':=by
 unfold maxLen at ht;obtain ⟨b1,b2,b3,b4,b5⟩:=fromV_bd a b;go_enter Tryz.func52,Tryz.ntmps52;go_wp2
 go_loop [5,6] (fun o i=>∃ k:Nat,k <= t.size /\ i = .int .i64 k /\ o = .string (rcut t a b k)) (fun _ i=>t.size - (intOf i).toNat)
 (case atStart=>exact ⟨0,Nat.zero_le _,rfl,by rw [rcut_zero];rfl⟩);case round =>
  obtain ⟨k,hk,rfl,rfl⟩:=hrel;cases h:may a b
  ·
   go_wp2_with (first | (go_at_call 73;refine (rmay_any _ _ _).mono ?_;rintro e w' ⟨rfl,rfl⟩) | (go_at_call 44;refine (rto_any _ _ _).mono ?_;rintro e w' ⟨rfl,rfl⟩) | (go_at_call 46;refine (rfrom_any _ _ _).mono ?_;rintro e w' ⟨rfl,rfl⟩) | (go_at_call 54;refine (rnone_any _).mono ?_;rintro e w' ⟨rfl,rfl⟩) | (go_at_call 79;refine (rof_any _ _ _).mono ?_;rintro e w' ⟨rfl,rfl⟩))
   ·
    go_round
    (case rel=>exact ⟨k + 1,by omega,by go_num,by rw [rcut_no h,rcut_no h]⟩);case measure=>simp [intOf];omega
   · go_ret;exact ⟨by rw [rcut_no h,rcut_no h];rfl,rfl⟩
  ·
   obtain ⟨h1,h2,h3⟩:=may_spec h;obtain ⟨_,c2,c3,_⟩:=wh_spec h1;obtain ⟨_,d2,d3,_⟩:=wh_spec h2;(have e1:fromV a b = tr a:=by unfold fromV;rw [h];rfl);(have e2:toV a b = tr b:=by unfold toV;rw [h];rfl);by_cases hlt:k < t.size
   ·
    by_cases hin:fromV a b <= k /\ k < toV a b
    ·
     have S:=Lib.hid (rcut_in h (t:=t) (k:=k) (by omega) (by omega));(have cc:=fun w=>run_string_add_sum (P:=Tryz.prog) w (rcut t a b k) (t.extract k (k + 1)) (by have:=rcut_size t a b k;simp;omega));obtain ⟨hin1,hin2⟩:=hin;clear h1 h2 h3 c2 c3 d2 d3 e1 e2;go_wp2_with (first | (go_at_call 73;refine (rmay_any _ _ _).mono ?_;rintro e w' ⟨rfl,rfl⟩) | (go_at_call 44;refine (rto_any _ _ _).mono ?_;rintro e w' ⟨rfl,rfl⟩) | (go_at_call 46;refine (rfrom_any _ _ _).mono ?_;rintro e w' ⟨rfl,rfl⟩) | (go_at_call 54;refine (rnone_any _).mono ?_;rintro e w' ⟨rfl,rfl⟩) | (go_at_call 79;refine (rof_any _ _ _).mono ?_;rintro e w' ⟨rfl,rfl⟩))
     go_round
     (case rel=>exact ⟨k + 1,by omega,by go_num,by rw [S.out]⟩);case measure=>simp [intOf];omega
    ·
     have S:=Lib.hid (rcut_out (t:=t) h (k:=k) (by omega));clear h1 h2 h3 c2 c3 d2 d3 e1 e2;by_cases hin1:fromV a b <= k
     ·
      (have hin2:toV a b <= k:=by omega);clear hin;go_wp2_with (first | (go_at_call 73;refine (rmay_any _ _ _).mono ?_;rintro e w' ⟨rfl,rfl⟩) | (go_at_call 44;refine (rto_any _ _ _).mono ?_;rintro e w' ⟨rfl,rfl⟩) | (go_at_call 46;refine (rfrom_any _ _ _).mono ?_;rintro e w' ⟨rfl,rfl⟩) | (go_at_call 54;refine (rnone_any _).mono ?_;rintro e w' ⟨rfl,rfl⟩) | (go_at_call 79;refine (rof_any _ _ _).mono ?_;rintro e w' ⟨rfl,rfl⟩))
      go_round
      (case rel=>exact ⟨k + 1,by omega,by go_num,by rw [S.out]⟩);case measure=>simp [intOf];omega
     ·
      clear hin;go_wp2_with (first | (go_at_call 73;refine (rmay_any _ _ _).mono ?_;rintro e w' ⟨rfl,rfl⟩) | (go_at_call 44;refine (rto_any _ _ _).mono ?_;rintro e w' ⟨rfl,rfl⟩) | (go_at_call 46;refine (rfrom_any _ _ _).mono ?_;rintro e w' ⟨rfl,rfl⟩) | (go_at_call 54;refine (rnone_any _).mono ?_;rintro e w' ⟨rfl,rfl⟩) | (go_at_call 79;refine (rof_any _ _ _).mono ?_;rintro e w' ⟨rfl,rfl⟩))
      go_round
      (case rel=>exact ⟨k + 1,by omega,by go_num,by rw [S.out]⟩);case measure=>simp [intOf];omega
   · go_wp2_with (first | (go_at_call 73;refine (rmay_any _ _ _).mono ?_;rintro e w' ⟨rfl,rfl⟩) | (go_at_call 44;refine (rto_any _ _ _).mono ?_;rintro e w' ⟨rfl,rfl⟩) | (go_at_call 46;refine (rfrom_any _ _ _).mono ?_;rintro e w' ⟨rfl,rfl⟩) | (go_at_call 54;refine (rnone_any _).mono ?_;rintro e w' ⟨rfl,rfl⟩) | (go_at_call 79;refine (rof_any _ _ _).mono ?_;rintro e w' ⟨rfl,rfl⟩));go_ret;(obtain rfl:k = t.size:=by omega);exact ⟨rfl,rfl⟩
abbrev fi (n:Int):Nat:=floatOfInt .f64 n
theorem may_fi (a b:Int) (ha:-9223372036854775808 <= a) (ha':a <= 9223372036854775807) (hb:-9223372036854775808 <= b) (hb':b <= 9223372036854775807):may (fi a) (fi b) = inB a b:=by
 obtain ⟨a1,a2⟩:=wh_ofInt a ha ha';obtain ⟨b1,b2⟩:=wh_ofInt b hb hb';rw [Bool.eq_iff_iff];constructor
 · intro h;obtain ⟨h1,h2,h3⟩:=may_spec h;rw [a1] at h1;rw [b1] at h2;simp at h1 h2;rw [a2 h1.1 h1.2,b2 h2.1 h2.2] at h3;unfold inB;simp;omega
 · intro h;unfold inB at h;simp at h;have e1:=a2 (by omega) (by omega);have e2:=b2 (by omega) (by omega);exact may_of (by rw [a1];simp;omega) (by rw [b1];simp;omega) (by rw [e1,e2];omega)
theorem inB_spec {a b:Int} (h:inB a b = true):0 <= a /\ a <= b /\ b <= 999999999:=by
 unfold inB at h;simp at h;omega
theorem inB_of {a b:Int} (h0:0 <= a) (h1:a <= b) (h2:b <= 999999999):inB a b = true:=by
 unfold inB;simp;omega
theorem fi_in {a b:Int} (h:inB a b = true):may (fi a) (fi b) = true /\ fromV (fi a) (fi b) = a /\ toV (fi a) (fi b) = b /\ tr (fi a) = a /\ tr (fi b) = b:=by
 obtain ⟨h0,h1,h2⟩:=inB_spec h;have e:=may_fi a b (by omega) (by omega) (by omega) (by omega);rw [h] at e;have e1:=(wh_ofInt a (by omega) (by omega)).2 h0 (by omega);have e2:=(wh_ofInt b (by omega) (by omega)).2 (by omega) h2;exact ⟨e,by unfold fromV;rw [e];exact e1,by unfold toV;rw [e];exact e2,e1,e2⟩
theorem eqB_refl {x:Nat} {v:Int} (h:V x = some v):eqB x x = true:=eq_V h h
theorem eqB_none:eqB noneB noneB = true:=eqB_refl V_none
end Go.Proofs.YtinallojhkaogaaGreatDoor.Sp
