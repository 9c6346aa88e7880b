/- The texts RrY M6P M6a. -/
import Derived.Deep.LoopGhost
import Derived.Lib.SmallJoins
import Derived.Test.YthpiapemjadgdaaGreatDoorCk02
import Derived.Test.YthpiapemjadgdaaGreatDoorCk07
import Derived.Test.YthpiapemjadgdaaGreatDoorCk23
set_option linter.unusedVariables false
set_option linter.unusedSimpArgs false
set_option maxHeartbeats 3200000
set_option maxRecDepth 100000
namespace Go.Proofs.YthpiapemjadgdaaGreatDoor.Rx
open Go.RowKit Go.Shelf
open Tr
open St (Wf word zeroW wf_zero)
theorem off_false (s : NSt) : offN false s = ⟨s.g, s.e, s.r, false⟩ := by unfold offN; simp
theorem thr_len (em : Bool) (t : Tr) (s : NSt) : (thrT em t s).e.length = s.e.length := by rw [thr_num]; exact num_e t s
theorem thr_g (em : Bool) (t : Tr) (s : NSt) : (thrT em t s).g = s.g + cnt t := by rw [thr_num]; exact num_g t s
theorem ns_root {w : World} {b0 o0 c : Nat} {l : List Nd} {t : Tr} {o : Nat} (hN : Ns w (.slice (some ⟨b0, o0, none⟩) l.length c) l) (h : At l t o) : o + t.size - 1 < l.length ∧ NCell w b0 (o0 + (o + t.size - 1) * 10) (t.root o) := by
 have hr := at_root h;obtain ⟨hlt, he⟩ := List.getElem?_eq_some_iff.1 hr;obtain ⟨B, o', hq, hc⟩ := hN.at hlt;simp only [Option.some.injEq, Addr.mk.injEq, and_true] at hq;obtain ⟨rfl, rfl⟩ := hq;rw [he] at hc;exact ⟨hlt, hc⟩
theorem ns_kind {w : World} {b0 o0 c : Nat} {l : List Nd} {t : Tr} {o : Nat} (hN : Ns w (.slice (some ⟨b0, o0, none⟩) l.length c) l) (h : At l t o) : w.cell? ⟨b0, o0 + (o + t.size - 1) * 10, none⟩ = some (E t.rk) := by
 have := (ns_root hN h).2.1;rw [root_k] at this;exact this
theorem thr_any (b0 o0 c : Nat) (l : List Nd) : ∀ (t : Tr) (o : Nat) (s : NSt) (w : World), At l t o → (∀ n ∈ t.nodes o, OneN n) → Ns w (.slice (some ⟨b0, o0, none⟩) l.length c) l → s.e.length = 10 → 0 ≤ s.g → s.g + t.size ≤ 1000 →
  Calls Tryz.prog 122 #[.slice (some ⟨b0, o0, none⟩) l.length c, E ((o + t.size - 1 : Nat) : Int), WV s] w fun e w' => e = .returned (WV (thrT (decide (l.length = 1)) t s)) ∧ Below w.heap.size w w'
 | t, o, s, w, ha, ho, hN, he, hg0, hg1 => by
  obtain ⟨hlt, hc⟩ := ns_root hN ha;(have hi : ((o + t.size - 1 : Nat) : Int) < ((l.length : Nat) : Int) := by omega);have one := ho _ (List.mem_of_getElem? (nodes_last t o))
  match t with
  | .e =>
   by_cases h1 : l.length = 1
   · rw [show thrT (decide (l.length = 1)) .e s = s from by rw [decide_eq_true h1]; exact off_true s];exact thr_0t w b0 o0 l.length c _ s hi _ _ _ _ _ _ h1 hc
   · rw [show thrT (decide (l.length = 1)) .e s = ⟨s.g, s.e, s.r, false⟩ from by rw [decide_eq_false h1]; exact off_false s];exact thr_0f w b0 o0 l.length c _ s hi _ _ _ _ _ _ (by simp; omega) hc
  | .set z => exact thr_leaf w b0 o0 l.length c _ s hi _ rfl rfl rfl rfl rfl rfl hc
  | .beg => exact thr_leaf w b0 o0 l.length c _ s hi _ rfl rfl rfl rfl rfl rfl hc
  | .fin => exact thr_leaf w b0 o0 l.length c _ s hi _ rfl rfl rfl rfl rfl rfl hc
  | .ref n =>
   have h19 := one_ref one;obtain ⟨m, rfl⟩ : ∃ m : Nat, n = (m : Int) := ⟨n.toNat, by omega⟩;(have hm : m < 10 := by omega);cases hx : ex s m with
   | true =>
    rw [show thrT (decide (l.length = 1)) (.ref (m : Int)) s = ⟨s.g, s.e, true, s.ok⟩ from by
     show (⟨s.g, s.e, true, s.ok && (s.e[((m : Int)).toNat]?).getD false⟩ : NSt) = _;rw [Int.toNat_natCast];unfold ex at hx;rw [hx, Bool.and_true]]
    exact thr_8t w b0 o0 l.length c _ s hi _ m _ _ _ _ hm hx hc
   | false =>
    rw [show thrT (decide (l.length = 1)) (.ref (m : Int)) s = ⟨s.g, s.e, true, false⟩ from by
     show (⟨s.g, s.e, true, s.ok && (s.e[((m : Int)).toNat]?).getD false⟩ : NSt) = _;rw [Int.toNat_natCast];unfold ex at hx;rw [hx, Bool.and_false]]
    exact thr_8f w b0 o0 l.length c _ s hi _ m _ _ _ _ hm hx hc
  | .cat x y =>
   have px := size_pos x;have py := size_pos y;have hax := at_left (t := .cat x y) (x := x) (r := y.nodes (o + x.size) ++ [(Tr.cat x y).root o]) ha (by simp [nodes]);have hay := at_right (t := .cat x y) (x := x) (y := y) (r := [(Tr.cat x y).root o]) ha (by simp [nodes]);(have hox : ∀ n ∈ x.nodes o, OneN n := fun n hn => ho n (by simp [nodes, hn]));(have hoy : ∀ n ∈ y.nodes (o + x.size), OneN n := fun n hn => ho n (by simp [nodes, hn]));have hkx := ns_kind hN hax;have hky := ns_kind hN hay;have hlx := (ns_root hN hax).1;have hly := (ns_root hN hay).1;have cx := cnt_size x;have cp := cnt_pos x;(have IHx := fun (s' : NSt) (h1 : s'.e.length = 10) (h2 : 0 ≤ s'.g) (h3 : s'.g + x.size ≤ 1000) => Hd (fun W (hb : Below w.heap.size w W) => thr_any b0 o0 c l x o s' W hax hox (hN.below hb) h1 h2 h3));(have IHy := fun (s' : NSt) (h1 : s'.e.length = 10) (h2 : 0 ≤ s'.g) (h3 : s'.g + y.size ≤ 1000) => Hd (fun W (hb : Below w.heap.size w W) => thr_any b0 o0 c l y (o + x.size) s' W hay hoy (hN.below hb) h1 h2 h3));simp only [size] at hg1;(have hgx := fun s' => thr_g (decide (l.length = 1)) x s');by_cases hgood : x.rk ≠ 4 ∧ x.rk ≠ 5 ∧ y.rk ≠ 5
   ·
    rw [show thrT (decide (l.length = 1)) (.cat x y) s = thrT (decide (l.length = 1)) y (thrT (decide (l.length = 1)) x s) from by
     show thrT _ y (thrT _ x (offN (decide _) s)) = _;rw [decide_eq_true hgood, off_true]]
    exact thr_4g w b0 o0 l.length c _ s hi _ (o + x.size - 1) (o + x.size + y.size - 1) _ _ _ x.rk y.rk (thrT (decide (l.length = 1)) x s) _ (by omega) (by omega) hkx hky (by simpa using hgood.1) (by simpa using hgood.2.1) (by simpa using hgood.2.2)
     (IHx s he hg0 (by omega)) (IHy _ (by rw [thr_len]; exact he) (by rw [hgx]; omega) (by rw [hgx]; omega)) hc
   ·
    rw [show thrT (decide (l.length = 1)) (.cat x y) s = thrT (decide (l.length = 1)) y (thrT (decide (l.length = 1)) x ⟨s.g, s.e, s.r, false⟩) from by
     show thrT _ y (thrT _ x (offN (decide _) s)) = _;rw [decide_eq_false hgood, off_false]]
    have Hx := IHx ⟨s.g, s.e, s.r, false⟩ he hg0 (by show s.g + (x.size : Int) ≤ 1000; omega);have Hy := IHy (thrT (decide (l.length = 1)) x ⟨s.g, s.e, s.r, false⟩) (by rw [thr_len]; exact he) (by rw [hgx]; show 0 ≤ s.g + cnt x; omega) (by rw [hgx]; show s.g + cnt x + (y.size : Int) ≤ 1000; omega);by_cases k4 : x.rk = 4
    · exact thr_4a w b0 o0 l.length c _ s hi _ (o + x.size - 1) (o + x.size + y.size - 1) _ _ _ x.rk y.rk _ _ (by omega) (by omega) hkx hky k4 Hx Hy hc
    by_cases k5 : x.rk = 5
    · exact thr_4b w b0 o0 l.length c _ s hi _ (o + x.size - 1) (o + x.size + y.size - 1) _ _ _ x.rk y.rk _ _ (by omega) (by omega) hkx hky k5 Hx Hy hc
    have y5 : y.rk = 5 := by
     by_cases q : y.rk = 5
     · exact q
     · exact absurd ⟨k4, k5, q⟩ hgood
    exact thr_4c w b0 o0 l.length c _ s hi _ (o + x.size - 1) (o + x.size + y.size - 1) _ _ _ x.rk y.rk _ _ (by omega) (by omega) hkx hky (by simpa using k4) (by simpa using k5) y5 Hx Hy hc
  | .alt x y =>
   have px := size_pos x;have py := size_pos y;have hax := at_left (t := .alt x y) (x := x) (r := y.nodes (o + x.size) ++ [(Tr.alt x y).root o]) ha (by simp [nodes]);have hay := at_right (t := .alt x y) (x := x) (y := y) (r := [(Tr.alt x y).root o]) ha (by simp [nodes]);(have hox : ∀ n ∈ x.nodes o, OneN n := fun n hn => ho n (by simp [nodes, hn]));(have hoy : ∀ n ∈ y.nodes (o + x.size), OneN n := fun n hn => ho n (by simp [nodes, hn]));have hkx := ns_kind hN hax;have hky := ns_kind hN hay;have hlx := (ns_root hN hax).1;have hly := (ns_root hN hay).1;have cx := cnt_size x;have cp := cnt_pos x;(have IHx := fun (s' : NSt) (h1 : s'.e.length = 10) (h2 : 0 ≤ s'.g) (h3 : s'.g + x.size ≤ 1000) => Hd (fun W (hb : Below w.heap.size w W) => thr_any b0 o0 c l x o s' W hax hox (hN.below hb) h1 h2 h3));(have IHy := fun (s' : NSt) (h1 : s'.e.length = 10) (h2 : 0 ≤ s'.g) (h3 : s'.g + y.size ≤ 1000) => Hd (fun W (hb : Below w.heap.size w W) => thr_any b0 o0 c l y (o + x.size) s' W hay hoy (hN.below hb) h1 h2 h3));simp only [size] at hg1;(have hgx := fun s' => thr_g (decide (l.length = 1)) x s');by_cases k5 : x.rk = 5
   ·
    rw [show thrT (decide (l.length = 1)) (.alt x y) s = thrT (decide (l.length = 1)) y (thrT (decide (l.length = 1)) x ⟨s.g, s.e, s.r, false⟩) from by
     show thrT _ y (thrT _ x (offN (decide _) s)) = _;rw [show (decide (x.rk ≠ 5)) = false from decide_eq_false (fun q => q k5), off_false]]
    have Hx := IHx ⟨s.g, s.e, s.r, false⟩ he hg0 (by show s.g + (x.size : Int) ≤ 1000; omega);have Hy := IHy (thrT (decide (l.length = 1)) x ⟨s.g, s.e, s.r, false⟩) (by rw [thr_len]; exact he) (by rw [hgx]; show 0 ≤ s.g + cnt x; omega) (by rw [hgx]; show s.g + cnt x + (y.size : Int) ≤ 1000; omega);exact thr_5b w b0 o0 l.length c _ s hi _ (o + x.size - 1) (o + x.size + y.size - 1) _ _ _ x.rk y.rk _ _ (by omega) (by omega) hkx hky k5 Hx Hy hc
   ·
    rw [show thrT (decide (l.length = 1)) (.alt x y) s = thrT (decide (l.length = 1)) y (thrT (decide (l.length = 1)) x s) from by
     show thrT _ y (thrT _ x (offN (decide _) s)) = _;rw [show (decide (x.rk ≠ 5)) = true from decide_eq_true k5, off_true]]
    exact thr_5g w b0 o0 l.length c _ s hi _ (o + x.size - 1) (o + x.size + y.size - 1) _ _ _ x.rk y.rk (thrT (decide (l.length = 1)) x s) _ (by omega) (by omega) hkx hky (by simpa using k5)
     (IHx s he hg0 (by omega)) (IHy _ (by rw [thr_len]; exact he) (by rw [hgx]; omega) (by rw [hgx]; omega)) hc
  | .times mn mx x =>
   have px := size_pos x;have hax := at_left (t := .times mn mx x) (x := x) (r := [(Tr.times mn mx x).root o]) ha (by simp [nodes]);(have hox : ∀ n ∈ x.nodes o, OneN n := fun n hn => ho n (by simp [nodes, hn]));have hkx := ns_kind hN hax;have hlx := (ns_root hN hax).1;(have IHx := fun (s' : NSt) (h1 : s'.e.length = 10) (h2 : 0 ≤ s'.g) (h3 : s'.g + x.size ≤ 1000) => Hd (fun W (hb : Below w.heap.size w W) => thr_any b0 o0 c l x o s' W hax hox (hN.below hb) h1 h2 h3));simp only [size] at hg1;by_cases hgood : x.rk = 1 ∨ x.rk = 7 ∨ x.rk = 8
   ·
    rw [show thrT (decide (l.length = 1)) (.times mn mx x) s = thrT (decide (l.length = 1)) x s from by
     show thrT _ x (offN (decide _) s) = _;rw [decide_eq_true hgood, off_true]]
    rcases hgood with k | k | k
    · exact thr_61 w b0 o0 l.length c _ s hi _ (o + x.size - 1) _ _ _ _ x.rk _ (by omega) hkx k (IHx s he hg0 (by omega)) hc
    · exact thr_67 w b0 o0 l.length c _ s hi _ (o + x.size - 1) _ _ _ _ x.rk _ (by omega) hkx k (IHx s he hg0 (by omega)) hc
    · exact thr_68 w b0 o0 l.length c _ s hi _ (o + x.size - 1) _ _ _ _ x.rk _ (by omega) hkx k (IHx s he hg0 (by omega)) hc
   ·
    rw [show thrT (decide (l.length = 1)) (.times mn mx x) s = thrT (decide (l.length = 1)) x ⟨s.g, s.e, s.r, false⟩ from by
     show thrT _ x (offN (decide _) s) = _;rw [decide_eq_false hgood, off_false]]
    exact thr_6f w b0 o0 l.length c _ s hi _ (o + x.size - 1) _ _ _ _ x.rk _ (by omega) hkx (by simpa using fun q => hgood (Or.inl q)) (by simpa using fun q => hgood (Or.inr (Or.inl q))) (by simpa using fun q => hgood (Or.inr (Or.inr q)))
     (IHx ⟨s.g, s.e, s.r, false⟩ he hg0 (by show s.g + (x.size : Int) ≤ 1000; omega)) hc
  | .grp n x =>
   have px := size_pos x;have h19 := one_grp one;obtain ⟨m, rfl⟩ : ∃ m : Nat, n = (m : Int) := ⟨n.toNat, by omega⟩;have hax := at_left (t := .grp (m : Int) x) (x := x) (r := [(Tr.grp (m : Int) x).root o]) ha (by simp [nodes]);(have hox : ∀ n ∈ x.nodes o, OneN n := fun n hn => ho n (by simp [nodes, hn]));have hlx := (ns_root hN hax).1;(have IHx := fun (s' : NSt) (h1 : s'.e.length = 10) (h2 : 0 ≤ s'.g) (h3 : s'.g + x.size ≤ 1000) => Hd (fun W (hb : Below w.heap.size w W) => thr_any b0 o0 c l x o s' W hax hox (hN.below hb) h1 h2 h3));simp only [size] at hg1;by_cases hgm : s.g + 1 = (m : Int)
   ·
    (have e : (⟨s.g + 1, s.e, s.r, s.ok && decide ((m : Int) = s.g + 1)⟩ : NSt) = ⟨s.g + 1, s.e, s.r, s.ok⟩ := by rw [decide_eq_true hgm.symm, Bool.and_true]);rw [show thrT (decide (l.length = 1)) (.grp (m : Int) x) s = ⟨(thrT (decide (l.length = 1)) x ⟨s.g + 1, s.e, s.r, s.ok⟩).g, (thrT (decide (l.length = 1)) x ⟨s.g + 1, s.e, s.r, s.ok⟩).e.set m true, (thrT (decide (l.length = 1)) x ⟨s.g + 1, s.e, s.r, s.ok⟩).r, (thrT (decide (l.length = 1)) x ⟨s.g + 1, s.e, s.r, s.ok⟩).ok⟩ from by
     simp only [thrT];rw [e, Int.toNat_natCast]]
    exact thr_7g w b0 o0 l.length c _ s hi _ (o + x.size - 1) m _ _ _ _ (by omega) (by omega) hg0 (by omega) (by rw [thr_len]; exact he) hgm (IHx ⟨s.g + 1, s.e, s.r, s.ok⟩ he (by show 0 ≤ s.g + 1; omega) (by show s.g + 1 + (x.size : Int) ≤ 1000; omega)) hc
   ·
    (have e : (⟨s.g + 1, s.e, s.r, s.ok && decide ((m : Int) = s.g + 1)⟩ : NSt) = ⟨s.g + 1, s.e, s.r, false⟩ := by rw [decide_eq_false (fun q => hgm q.symm), Bool.and_false]);rw [show thrT (decide (l.length = 1)) (.grp (m : Int) x) s = ⟨(thrT (decide (l.length = 1)) x ⟨s.g + 1, s.e, s.r, false⟩).g, (thrT (decide (l.length = 1)) x ⟨s.g + 1, s.e, s.r, false⟩).e.set m true, (thrT (decide (l.length = 1)) x ⟨s.g + 1, s.e, s.r, false⟩).r, (thrT (decide (l.length = 1)) x ⟨s.g + 1, s.e, s.r, false⟩).ok⟩ from by
     simp only [thrT];rw [e, Int.toNat_natCast]]
    exact thr_7f w b0 o0 l.length c _ s hi _ (o + x.size - 1) m _ _ _ _ (by omega) (by omega) hg0 (by omega) (by rw [thr_len]; exact he) (by simpa using hgm) (IHx ⟨s.g + 1, s.e, s.r, false⟩ he (by show 0 ≤ s.g + 1; omega) (by show s.g + 1 + (x.size : Int) ≤ 1000; omega)) hc
/-- What the look answers. -/
def LookA (l : List Nd) (s : NSt) : Prop := s.ok = mayL l ∧ (mayL l = true → s.g = groupsL l ∧ s.r = refsL l)
def nsz : NSt := ⟨0, List.replicate 10 false, false, false⟩
theorem look_no {l : List Nd} (h : mayL l = false) : LookA l nsz := ⟨by rw [h]; rfl, fun q => by rw [h] at q; cases q⟩
theorem may_len0 {l : List Nd} (h : l.length = 0) : mayL l = false := by
 unfold mayL;cases hp : patOf l with
 | none => rfl
 | some t =>
  obtain ⟨h1, _⟩ := patOf_some hp;have := size_pos t;rw [h1, nodes_len] at h;omega
theorem may_long {l : List Nd} (h : 120 < l.length) : mayL l = false := by
 unfold mayL;cases hp : patOf l with
 | none => rfl
 | some t =>
  obtain ⟨h1, h2⟩ := patOf_some hp;have := h2.2.1;rw [h1, nodes_len] at h;omega
theorem all_one {l : List Nd} (h : ∀ j (hj : j < l.length), OneN l[j]) : ∀ n ∈ l, OneN n := by
 intro n hn;obtain ⟨j, hj, rfl⟩ := List.getElem_of_mem hn;exact h j hj
theorem wz_new (w : World) : WB (w.alloc (.cells #[.bool false, .int .i64 0, .bool false, .bool false, .bool false, .bool false, .bool false, .bool false, .bool false, .bool false, .bool false, .bool false, .bool false] 159)) w.heap.size nsz := heap_alloc_new _ _
theorem rlook_any (ao : Option Addr) (c : Nat) (l : List Nd) (w : World) (hN : Ns w (.slice ao l.length c) l) (hw : ∀ n ∈ l, Wf n.s) :
  Calls Tryz.prog 92 #[.slice ao l.length c] w fun e w' => ∃ s, e = .returned (WV s) ∧ LookA l s ∧ Below w.heap.size w w' := by
 have HZ := Hd (wz_new w);have HB0 := Hd ((Below.refl w.heap.size w).alloc (Nat.le_refl _) (.cells #[.bool false, .int .i64 0, .bool false, .bool false, .bool false, .bool false, .bool false, .bool false, .bool false, .bool false, .bool false, .bool false, .bool false] 159));by_cases h1 : l.length = 0
 · have HA := Hd (look_no (may_len0 h1));(have hlt : ((l.length : Nat) : Int) < 1 := by omega);clear h1 hN hw;go_enter Tryz.func92, Tryz.ntmps92;go_wp2;exact bodyPost_ret (v := WV nsz) (ansW rfl rfl HZ.out Tryz.underlying159) rfl ⟨nsz, rfl, HA.out, HB0.out⟩
 by_cases h120 : 120 < l.length
 · have HA := Hd (look_no (may_long h120));(have hlt : ¬ ((l.length : Nat) : Int) < 1 := by omega);(have hgt : (120 : Int) < ((l.length : Nat) : Int) := by omega);clear h1 h120 hN hw;go_enter Tryz.func92, Tryz.ntmps92;go_wp2;exact bodyPost_ret (v := WV nsz) (ansW rfl rfl HZ.out Tryz.underlying159) rfl ⟨nsz, rfl, HA.out, HB0.out⟩
 (have hlt0 : ¬ ((l.length : Nat) : Int) < 1 := by omega);(have hgt0 : ¬ (120 : Int) < ((l.length : Nat) : Int) := by omega);obtain ⟨b0, o0, rfl, _⟩ := hN.at (i := 0) (by omega);have HNS := Hd (fun W (hb : Below w.heap.size w W) => hN.below hb);have HW := Hd (fun (k : Nat) (hk : k < l.length) => show Wf l[k].s from hw _ (List.getElem_mem hk));clear hN hw;go_enter Tryz.func92, Tryz.ntmps92;go_wp2;go_loopw [3] (fun i wr => ∃ (k : Nat), k ≤ l.length ∧ i = .int .i64 (k : Nat) ∧ Hid (∀ j (hj : j < l.length), j < k → OneN l[j]) ∧ Hid (WB wr w.heap.size nsz) ∧ Hid (Below w.heap.size w wr)) (fun i _ => l.length - (intOf i).toNat);(case atStart => exact ⟨0, Nat.zero_le _, rfl, Hd (fun j hj h => absurd h (by omega)), HZ, HB0⟩);case round =>
  clear HZ HB0;obtain ⟨k, hk, rfl, HO, HZ, HB⟩ := hrel;by_cases hlt : k < l.length
  ·
   (have hlt' : ((k : Nat) : Int) < ((l.length : Nat) : Int) := by omega);obtain ⟨B, o, hq, q0, q1, q2, q3, q4, q5, q6, q7, q8, q9⟩ := (HNS.out wr HB.out).at hlt;simp only [Option.some.injEq, Addr.mk.injEq, and_true] at hq;obtain ⟨rfl, rfl⟩ := hq;(have HF0 := fun W => fields_any l[k] W (HW.out k hlt));by_cases hone : OneN l[k]
   ·
    have HK := Hd (show ∀ j (hj : j < l.length), j < k + 1 → OneN l[j] from fun j hj h => by
     rcases Nat.lt_or_ge j k with q | q
     · exact HO.out j hj q
     · (obtain rfl : j = k := by omega);exact hone)
    rw [decide_eq_true hone] at HF0;have HF := Hd HF0;generalize l[k] = n at *;clear HF0 HO hone;go_wp2_with (go_at_call 120; refine (HF.out _).mono ?_; rintro e w2 ⟨rfl, hb⟩; have HZ2 := Hd ((hb.block _ (lt_heap' HZ.out)).trans HZ.out); have HB2 := Hd (HB.out.trans (hb.mono HB.out.size)); clear hb);go_roundw;(case rel => exact ⟨k + 1, by omega, by go_num, HK, HZ2, HB2⟩);case measure => simp [intOf]; omega
   · have HA := Hd (look_no (may_one (fun q => hone (q _ (List.getElem_mem hlt)))));rw [decide_eq_false hone] at HF0;have HF := Hd HF0;generalize l[k] = n at *;clear HF0 HO hone;go_wp2_with (go_at_call 120; refine (HF.out _).mono ?_; rintro e w2 ⟨rfl, hb⟩; have HZ2 : Hid (WB w2 w.heap.size nsz) := Hd ((hb.block _ (lt_heap' HZ.out)).trans HZ.out); have HB2 := Hd (HB.out.trans (hb.mono HB.out.size)); clear hb; have HR := Hd (rb_put HZ2.out nsz); have HBL := Hd (put_below HB2.out (Nat.le_refl _) nsz); obtain ⟨⟨y0, y1, y2, y3, y4, y5, y6, y7, y8, y9, y10, y11, y12⟩, yf⟩ := HZ2.out.cells);exact bodyPost_ret (v := WV nsz) (ansW rfl rfl HR.out Tryz.underlying159) rfl ⟨nsz, rfl, HA.out, HBL.out⟩
  ·
   (obtain rfl : k = l.length := by omega);have hall := all_one (fun j hj => HO.out j hj hj);(have hl : l.length ≤ 120 := by omega);have HF1 := Hd (first_any b0 o0 c l (by omega) 121 ((l.length : Int) - 1) wr (HNS.out _ HB.out) (by omega) (by omega) (by omega));(have hw1 : IntKind.i64.wrap (((l.length : Nat) : Int) - 1) = ((l.length : Nat) : Int) - 1 := by rw [IntKind.wrap_i64]; omega);by_cases hf : firstF l 121 ((l.length : Int) - 1) = 0
   ·
    obtain ⟨t, ht⟩ := tree_of_first hall hf;(have hs : l.length = t.size := by rw [ht, nodes_len]);(have HT0 := fun W hb => thr_any b0 o0 c l t 0 num0 W (by rw [ht]; exact at_self t) (by rw [← ht]; exact hall) (HNS.out W hb) rfl (by decide) (by show (0 : Int) + t.size ≤ 1000; omega));have hm := thr_may (t := t) (by rw [← ht]; exact hall) (by omega);rw [show (decide (t.size = 1)) = decide (l.length = 1) from by rw [hs], ← ht] at hm;rw [show ((0 + t.size - 1 : Nat) : Int) = ((l.length : Nat) : Int) - 1 from by omega] at HT0;generalize thrT (decide (l.length = 1)) t num0 = sf at *;rw [hf] at HF1;have HA := Hd (show LookA l sf from hm);have HT := Hd HT0;clear HT0 hm hs ht hf hall HO hl;go_wp2_with (first
     | (go_at_call 121; refine HF1.out.mono ?_; rintro e w2 ⟨rfl, hb⟩; have HZ2 : Hid (WB w2 w.heap.size nsz) := Hd ((hb.block _ (lt_heap' HZ.out)).trans HZ.out); have HB2 := Hd (HB.out.trans (hb.mono HB.out.size)); clear hb)
     | (go_at_call 122; refine (HT.out _ HB2.out).mono ?_; rintro e w3 ⟨rfl, hb⟩; have HZ3 : Hid (WB w3 w.heap.size nsz) := Hd ((hb.block _ (lt_heap' HZ2.out)).trans HZ2.out); have HB3 := Hd (HB2.out.trans (hb.mono HB2.out.size)); clear hb; have HR := Hd (rb_put HZ3.out sf); have HBL := Hd (put_below HB3.out (Nat.le_refl _) sf); obtain ⟨⟨y0, y1, y2, y3, y4, y5, y6, y7, y8, y9, y10, y11, y12⟩, yf⟩ := HZ3.out.cells))
    exact bodyPost_ret (v := WV sf) (ansW rfl rfl HR.out Tryz.underlying159) rfl ⟨sf, rfl, HA.out, HBL.out⟩
   · have HA := Hd (look_no (may_first hl hf));generalize firstF l 121 ((l.length : Int) - 1) = fv at *;(have hfv : (fv != 0) = true := by simpa using hf);clear hf hall HO hl;go_wp2_with (go_at_call 121; refine HF1.out.mono ?_; rintro e w2 ⟨rfl, hb⟩; have HZ2 : Hid (WB w2 w.heap.size nsz) := Hd ((hb.block _ (lt_heap' HZ.out)).trans HZ.out); have HB2 := Hd (HB.out.trans (hb.mono HB.out.size)); clear hb; have HR := Hd (rb_put HZ2.out nsz); have HBL := Hd (put_below HB2.out (Nat.le_refl _) nsz); obtain ⟨⟨y0, y1, y2, y3, y4, y5, y6, y7, y8, y9, y10, y11, y12⟩, yf⟩ := HZ2.out.cells);exact bodyPost_ret (v := WV nsz) (ansW rfl rfl HR.out Tryz.underlying159) rfl ⟨nsz, rfl, HA.out, HBL.out⟩
open St (Wf)
theorem groups_not {l : List Nd} (h : mayL l = false) : groupsL l = 0 ∧ refsL l = false := by
 unfold mayL at h;have : patOf l = none := by
  cases hp : patOf l with
  | none => rfl
  | some t => rw [hp] at h; cases h
 unfold groupsL refsL;rw [this];exact ⟨rfl, rfl⟩
theorem rmay_any (ao : Option Addr) (c : Nat) (l : List Nd) (w : World) (hN : Ns w (.slice ao l.length c) l) (hw : ∀ n ∈ l, Wf n.s) :
  Calls Tryz.prog 65 #[.slice ao l.length c] w fun e w' => e = .returned (.bool (mayL l)) ∧ Below w.heap.size w w' := by
 have HK := Hd (rlook_any ao c l w hN hw);clear hN hw;(have hfd : ∀ (s : NSt) (W : World), (Instr.field 159 (WV s) 0).run Tryz.prog W = .ok (.bool s.ok) W := fun _ _ => by kernel_rfl);go_enter Tryz.func65, Tryz.ntmps65;go_wp2_with (go_at_call 92; refine HK.out.mono ?_; rintro e w2 ⟨s, rfl, hl, hb⟩; have HA := Hd hl; have HB := Hd hb; clear hl hb);go_ret;exact ⟨by rw [← HA.out.1]; rfl, HB.out⟩
theorem rrefs_any (ao : Option Addr) (c : Nat) (l : List Nd) (w : World) (hN : Ns w (.slice ao l.length c) l) (hw : ∀ n ∈ l, Wf n.s) :
  Calls Tryz.prog 93 #[.slice ao l.length c] w fun e w' => e = .returned (.bool (refsL l)) ∧ Below w.heap.size w w' := by
 have HK := Hd (rlook_any ao c l w hN hw);clear hN hw;go_enter Tryz.func93, Tryz.ntmps93;cases hm : mayL l
 · have HG := Hd (groups_not hm).2;have HM := Hd hm;clear hm;go_wp2_with (go_at_call 92; refine HK.out.mono ?_; rintro e w2 ⟨s, rfl, hl, hb⟩; have hk := hl.1; rw [HM.out] at hk; rw [show WV s = .agg #[.bool false, E s.g, .bool (ex s 0), .bool (ex s 1), .bool (ex s 2), .bool (ex s 3), .bool (ex s 4), .bool (ex s 5), .bool (ex s 6), .bool (ex s 7), .bool (ex s 8), .bool (ex s 9), .bool s.r] from by rw [← hk]]; have HB := Hd ((hb.alloc hb.size (.cells #[.bool false, E s.g, .bool (ex s 0), .bool (ex s 1), .bool (ex s 2), .bool (ex s 3), .bool (ex s 4), .bool (ex s 5), .bool (ex s 6), .bool (ex s 7), .bool (ex s 8), .bool (ex s 9), .bool s.r] 159))); clear hl hb hk);go_ret;exact ⟨by rw [HG.out]; rfl, HB.out⟩
 · have HM := Hd hm;clear hm;go_wp2_with (go_at_call 92; refine HK.out.mono ?_; rintro e w2 ⟨s, rfl, hl, hb⟩; have hk := hl.1; have HG := Hd (hl.2 HM.out).2; rw [HM.out] at hk; rw [show WV s = .agg #[.bool true, E s.g, .bool (ex s 0), .bool (ex s 1), .bool (ex s 2), .bool (ex s 3), .bool (ex s 4), .bool (ex s 5), .bool (ex s 6), .bool (ex s 7), .bool (ex s 8), .bool (ex s 9), .bool s.r] from by rw [← hk]]; have HB := Hd ((hb.alloc hb.size (.cells #[.bool true, E s.g, .bool (ex s 0), .bool (ex s 1), .bool (ex s 2), .bool (ex s 3), .bool (ex s 4), .bool (ex s 5), .bool (ex s 6), .bool (ex s 7), .bool (ex s 8), .bool (ex s 9), .bool s.r] 159))); clear hl hb hk);go_ret;exact ⟨by rw [← HG.out]; rfl, HB.out⟩
end Go.Proofs.YthpiapemjadgdaaGreatDoor.Rx
namespace Go.Proofs.YthpiapemjadgdaaGreatDoor.Mt
open Rx
open Rx.Tr
open St (mem)
def stC (a : Nat → Nat → Bool) (mn mx : Int) (j most : Nat) : Nat → Nat → Bool
 | 0, p => decide (p = j) && (decide (mn ≤ (most : Int)) || a j j)
 | u + 1, p => if p = j then decide (mn ≤ ((most - (u + 1) : Nat) : Int)) || a j j
  else (List.range (j + 1)).any fun k => decide (p < k) && (decide (mx = -1) || decide (((most - (u + 1) : Nat) : Int) < mx)) && a p k && stC a mn mx j most u k
def gP (T : List UInt8) : Tr → Nat → Nat → Bool
 | .e, i, j => decide (i = j)
 | .set s, i, j => decide (j = i + 1) && hasAt s T i
 | .beg, i, j => decide (j = 0)
 | .fin, i, j => decide (i = T.length)
 | .cat x y, i, j => (List.range (j + 1)).any fun k => decide (i ≤ k) && gP T x i k && gP T y k j
 | .alt x y, i, j => gP T x i j || gP T y i j
 | .times mn mx x, i, j => stC (gP T x) mn mx j (j + 2) (j + 2) i
 | .grp _ x, i, j => gP T x i j
 | .ref _, _, _ => false
theorem st_sound {f : Nat → Nat → Caps → Option Caps} {A : Nat → Nat → Bool} {mn mx : Int} {j N : Nat} (hA : ∀ p q c a, p ≤ q → q ≤ N → f p q c = some a → A p q = true) (hj : j ≤ N) :
  ∀ (fuel p k : Nat) (c a : Caps), p ≤ j → k ≤ p → timesP f mn mx j fuel p k c = some a → stC A mn mx j (j + 2) (j + 2 - k) p = true := by
 intro fuel
 induction fuel with
 | zero =>
  intro p k c a hp hk h;obtain ⟨u, he⟩ : ∃ u, j + 2 - k = u + 1 := ⟨j + 1 - k, by omega⟩;(have hee : j + 2 - (u + 1) = k := by omega);rw [he];unfold timesP at h;split at h
  ·
   rename_i e2; subst e2;unfold stC;rw [if_pos rfl, hee, Bool.or_eq_true];split at h
   · rename_i q; exact Or.inl (decide_eq_true q)
   · exact Or.inr (hA p p c a (Nat.le_refl _) hj h)
  · split at h <;> cases h
 | succ fuel ih =>
  intro p k c a hp hk h;obtain ⟨u, he⟩ : ∃ u, j + 2 - k = u + 1 := ⟨j + 1 - k, by omega⟩;(have hee : j + 2 - (u + 1) = k := by omega);rw [he];unfold timesP at h;split at h
  ·
   rename_i e2; subst e2;unfold stC;rw [if_pos rfl, hee, Bool.or_eq_true];split at h
   · rename_i q; exact Or.inl (decide_eq_true q)
   · exact Or.inr (hA p p c a (Nat.le_refl _) hj h)
  ·
   rename_i hne;split at h
   · cases h
   ·
    rename_i hmx;dsimp only at h;obtain ⟨q, h1, h2, h3⟩ := down_some h;cases hf : f p q c with
    | none => rw [hf] at h3; cases h3
    | some b =>
     rw [hf, Option.bind_some] at h3;have hi := ih q (k + 1) b a (by omega) (by omega) h3;rw [show j + 2 - (k + 1) = u by omega] at hi;unfold stC;rw [if_neg hne, List.any_eq_true];refine ⟨q, List.mem_range.2 (by omega), ?_⟩;rw [hee, hi, hA p q c b (by omega) (by omega) hf, decide_eq_true (by omega : p < q)];by_cases e1 : mx = -1
     · rw [decide_eq_true e1]; rfl
     · rw [decide_eq_true (by omega : (k : Int) < mx)]; simp
theorem g_sound {T : List UInt8} : ∀ (t : Tr), refsT t = 0 → ∀ (i j : Nat) (c a : Caps), i ≤ j → j ≤ T.length → fitP T t i j c = some a → gP T t i j = true
 | .e, _, i, j, c, a, hij, hj, h => by
  unfold fitP at h;split at h
  · rename_i e; simp [gP, e]
  · cases h
 | .set s, _, i, j, c, a, hij, hj, h => by
  unfold fitP at h;split at h
  · rename_i e; simp [gP, e.1, e.2]
  · cases h
 | .beg, _, i, j, c, a, hij, hj, h => by
  unfold fitP at h;split at h
  · rename_i e; simp [gP, e]
  · cases h
 | .fin, _, i, j, c, a, hij, hj, h => by
  unfold fitP at h;split at h
  · rename_i e; simp [gP, e]
  · cases h
 | .cat x y, hr, i, j, c, a, hij, hj, h => by
  have hr := noref_cat hr;unfold fitP at h;obtain ⟨k, h1, h2, h3⟩ := down_some h;cases hx : fitP T x i k c with
  | none => rw [hx] at h3; cases h3
  | some b =>
   rw [hx, Option.bind_some] at h3;have e1 := g_sound x hr.1 i k c b h1 (by omega) hx;have e2 := g_sound y hr.2 k j b a (by omega) hj h3;unfold gP;rw [List.any_eq_true];exact ⟨k, List.mem_range.2 (by omega), by rw [e1, e2, decide_eq_true h1]; rfl⟩
 | .alt x y, hr, i, j, c, a, hij, hj, h => by
  have hr := noref_cat hr;unfold fitP at h;unfold gP;rw [Bool.or_eq_true];cases hx : fitP T x i j c with
  | some b => exact Or.inl (g_sound x hr.1 i j c b hij hj hx)
  | none =>
   rw [hx] at h;exact Or.inr (g_sound y hr.2 i j c a hij hj h)
 | .times mn mx x, hr, i, j, c, a, hij, hj, h => by
  unfold fitP at h;have := st_sound (A := gP T x) (f := fitP T x) (N := T.length) (fun p q c a h1 h2 h3 => g_sound x hr p q c a h1 h2 h3) hj (j - i) i 0 c a hij (by omega) h;exact this
 | .grp n x, hr, i, j, c, a, hij, hj, h => by
  unfold fitP at h;cases hx : fitP T x i j c with
  | none => rw [hx] at h; cases h
  | some b => exact g_sound x hr i j c b hij hj hx
 | .ref n, hr, _, _, _, _, _, _, _ => by cases hr
/-- The part of a tree whose root is node k (in order). -/
def sT : Tr → Nat → Tr
 | .cat x y, k => if k < x.size then sT x k else if k < x.size + y.size then sT y (k - x.size) else .cat x y
 | .alt x y, k => if k < x.size then sT x k else if k < x.size + y.size then sT y (k - x.size) else .alt x y
 | .times a b x, k => if k < x.size then sT x k else .times a b x
 | .grp n x, k => if k < x.size then sT x k else .grp n x
 | t, _ => t
theorem sT_self : ∀ t : Tr, sT t (t.size - 1) = t
 | .cat x y => by
  unfold sT;have e : (Tr.cat x y).size = x.size + y.size + 1 := rfl;have := size_pos x;rw [e, if_neg (by omega), if_neg (by omega)]
 | .alt x y => by
  unfold sT;have e : (Tr.alt x y).size = x.size + y.size + 1 := rfl;have := size_pos x;rw [e, if_neg (by omega), if_neg (by omega)]
 | .times a b x => by
  unfold sT;have e : (Tr.times a b x).size = x.size + 1 := rfl;rw [e, if_neg (by omega)]
 | .grp n x => by
  unfold sT;have e : (Tr.grp n x).size = x.size + 1 := rfl;rw [e, if_neg (by omega)]
 | .e | .set _ | .beg | .fin | .ref _ => rfl
/-- A part stands in a tree from node o on. -/
def InT (t x : Tr) (o : Nat) : Prop := ∀ m, m < x.size → sT t (o + m) = sT x m
theorem in_self (t : Tr) : InT t t 0 := fun m _ => by rw [Nat.zero_add]
theorem in_root {t x : Tr} {o : Nat} (h : InT t x o) : sT t (o + x.size - 1) = x := by
 have hp := size_pos x;have := h (x.size - 1) (by omega);rw [sT_self, show o + (x.size - 1) = o + x.size - 1 by omega] at this;exact this
theorem in_cat1 {t x y : Tr} {o : Nat} (h : InT t (.cat x y) o) : InT t x o := fun m hm => by
 rw [h m (by show m < x.size + y.size + 1; omega), sT, if_pos hm]
theorem in_cat2 {t x y : Tr} {o : Nat} (h : InT t (.cat x y) o) : InT t y (o + x.size) := fun m hm => by
 rw [Nat.add_assoc, h (x.size + m) (by show _ < x.size + y.size + 1; omega), sT, if_neg (by omega), if_pos (by omega), show x.size + m - x.size = m by omega]
theorem in_alt1 {t x y : Tr} {o : Nat} (h : InT t (.alt x y) o) : InT t x o := fun m hm => by
 rw [h m (by show m < x.size + y.size + 1; omega), sT, if_pos hm]
theorem in_alt2 {t x y : Tr} {o : Nat} (h : InT t (.alt x y) o) : InT t y (o + x.size) := fun m hm => by
 rw [Nat.add_assoc, h (x.size + m) (by show _ < x.size + y.size + 1; omega), sT, if_neg (by omega), if_pos (by omega), show x.size + m - x.size = m by omega]
theorem in_times {t x : Tr} {a b : Int} {o : Nat} (h : InT t (.times a b x) o) : InT t x o := fun m hm => by
 rw [h m (by show m < x.size + 1; omega), sT, if_pos hm]
theorem in_grp {t x : Tr} {n : Int} {o : Nat} (h : InT t (.grp n x) o) : InT t x o := fun m hm => by
 rw [h m (by show m < x.size + 1; omega), sT, if_pos hm]
/-- At each node stands the root of such a part. -/
theorem in_at : ∀ (t : Tr) (k : Nat), k < t.size → ∃ p, k + 1 = p + (sT t k).size ∧ InT t (sT t k) p ∧ ∀ (l : List Nd) (o : Nat), At l t o → At l (sT t k) (o + p)
 | .cat x y, k, hk => by
  have e : (Tr.cat x y).size = x.size + y.size + 1 := rfl;by_cases h1 : k < x.size
  · obtain ⟨p, a1, a2, a3⟩ := in_at x k h1;(have es : sT (.cat x y) k = sT x k := by rw [sT, if_pos h1]);rw [es];refine ⟨p, a1, fun m hm => ?_, fun l o hA => a3 l o (at_left hA (by simp only [nodes, List.append_assoc]; exact rfl))⟩;rw [← a2 m hm, sT, if_pos (by omega)]
  ·
   by_cases h2 : k < x.size + y.size
   ·
    obtain ⟨p, a1, a2, a3⟩ := in_at y (k - x.size) (by omega);(have es : sT (.cat x y) k = sT y (k - x.size) := by rw [sT, if_neg h1, if_pos h2]);rw [es];refine ⟨x.size + p, by omega, fun m hm => ?_, fun l o hA => ?_⟩
    · rw [← a2 m hm, sT, if_neg (by omega), if_pos (by omega), show x.size + p + m - x.size = p + m by omega]
    · rw [← Nat.add_assoc];exact a3 l (o + x.size) (at_right hA (by simp only [nodes, List.append_assoc]; exact rfl))
   · (have es : sT (.cat x y) k = .cat x y := by rw [sT, if_neg h1, if_neg h2]);rw [es];exact ⟨0, by omega, in_self _, fun l o hA => hA⟩
 | .alt x y, k, hk => by
  have e : (Tr.alt x y).size = x.size + y.size + 1 := rfl;by_cases h1 : k < x.size
  · obtain ⟨p, a1, a2, a3⟩ := in_at x k h1;(have es : sT (.alt x y) k = sT x k := by rw [sT, if_pos h1]);rw [es];refine ⟨p, a1, fun m hm => ?_, fun l o hA => a3 l o (at_left hA (by simp only [nodes, List.append_assoc]; exact rfl))⟩;rw [← a2 m hm, sT, if_pos (by omega)]
  ·
   by_cases h2 : k < x.size + y.size
   ·
    obtain ⟨p, a1, a2, a3⟩ := in_at y (k - x.size) (by omega);(have es : sT (.alt x y) k = sT y (k - x.size) := by rw [sT, if_neg h1, if_pos h2]);rw [es];refine ⟨x.size + p, by omega, fun m hm => ?_, fun l o hA => ?_⟩
    · rw [← a2 m hm, sT, if_neg (by omega), if_pos (by omega), show x.size + p + m - x.size = p + m by omega]
    · rw [← Nat.add_assoc];exact a3 l (o + x.size) (at_right hA (by simp only [nodes, List.append_assoc]; exact rfl))
   · (have es : sT (.alt x y) k = .alt x y := by rw [sT, if_neg h1, if_neg h2]);rw [es];exact ⟨0, by omega, in_self _, fun l o hA => hA⟩
 | .times a b x, k, hk => by
  have e : (Tr.times a b x).size = x.size + 1 := rfl;by_cases h1 : k < x.size
  · obtain ⟨p, a1, a2, a3⟩ := in_at x k h1;(have es : sT (.times a b x) k = sT x k := by rw [sT, if_pos h1]);rw [es];refine ⟨p, a1, fun m hm => ?_, fun l o hA => a3 l o (at_left hA (by simp only [nodes]; exact rfl))⟩;rw [← a2 m hm, sT, if_pos (by omega)]
  · (have es : sT (.times a b x) k = .times a b x := by rw [sT, if_neg h1]);rw [es];exact ⟨0, by omega, in_self _, fun l o hA => hA⟩
 | .grp n x, k, hk => by
  have e : (Tr.grp n x).size = x.size + 1 := rfl;by_cases h1 : k < x.size
  · obtain ⟨p, a1, a2, a3⟩ := in_at x k h1;(have es : sT (.grp n x) k = sT x k := by rw [sT, if_pos h1]);rw [es];refine ⟨p, a1, fun m hm => ?_, fun l o hA => a3 l o (at_left hA (by simp only [nodes]; exact rfl))⟩;rw [← a2 m hm, sT, if_pos (by omega)]
  · (have es : sT (.grp n x) k = .grp n x := by rw [sT, if_neg h1]);rw [es];exact ⟨0, by omega, in_self _, fun l o hA => hA⟩
 | .e, k, hk | .set _, k, hk | .beg, k, hk | .fin, k, hk | .ref _, k, hk => by
  (obtain rfl : k = 0 := by simp [size] at hk; omega);exact ⟨0, rfl, in_self _, fun l o hA => hA⟩
open Go.RowKit Go.Shelf
open St (Wf word mem)
/-- A row of rows of truths, as it is read. -/
def R2 (w : World) (v : Value) (m n : Nat) (F : Nat → Nat → Bool) : Prop :=
 ∃ r cap, v = .slice (some ⟨r, 0, none⟩) m cap ∧ m ≤ cap ∧ r < w.heap.size ∧ ∀ i, i < m → ∃ q, w.cell? ⟨r, i, none⟩ = some (SL q n) ∧ RB w q n (F i)
theorem R2.below {w w' : World} {v : Value} {m n : Nat} {F : Nat → Nat → Bool} (h : R2 w v m n F) (hb : Below w.heap.size w w') : R2 w' v m n F := by
 obtain ⟨r, cap, h1, h2, h3, h4⟩ := h;refine ⟨r, cap, h1, h2, Nat.lt_of_lt_of_le h3 hb.size, fun i hi => ?_⟩;obtain ⟨q, h5, h6⟩ := h4 i hi;exact ⟨q, (hb.cell h3).trans h5, h6.keep (hb.block q h6.lt)⟩
/-- Rows that are made one by one, from the last one on. -/
structure R2m (w0 w : World) (r m n c : Nat) (F : Nat → Nat → Bool) : Prop where
 bel : Below w0.heap.size w0 w
 r0 : w0.heap.size ≤ r
 row : ∃ cs : Array Value, w.heap[r]? = some (.cells cs 162 (0, 0)) ∧ cs.size = m ∧ ∀ i, c ≤ i → i < m → ∃ q, cs[i]? = some (SL q n) ∧ q ≠ r ∧ w0.heap.size ≤ q ∧ RB w q n (F i)
theorem infoSB : (Tryz.prog.info? 162).map (fun i => (i.zero, i.size, i.bytes)) = some (some (.slice none 0 0), 1, 24) := by kernel_rfl
def nilRow (n : Nat) : Array Value := (Array.range n).map fun _ => .slice none 0 0
theorem nilRow_size (n : Nat) : (nilRow n).size = n := by simp [nilRow]
theorem nilRow_made (n : Nat) : madeCells (Value.slice none 0 0).cells (n * 1) = nilRow n := by
 unfold madeCells nilRow;rw [Nat.mul_one];apply Array.map_congr_left;intro i _;simp [Value.cells, Nat.mod_one]
theorem make_rows (n : Nat) (hn : n ≤ 1000000) (w : World) : (Instr.makeSlice 161 (.int .i64 (n : Nat)) (.int .i64 (n : Nat))).run Tryz.prog w = .ok (SL w.heap.size n) (w.alloc (.cells (nilRow n) 162)) := by
 obtain ⟨i0, hi, hz0, hz1, hz2⟩ := info_parts infoSB;have := run_makeSlice (P := Tryz.prog) w 161 162 i0 _ Tryz.underlying161 hi hz0 .i64 .i64 (n : Int) (n : Int) (by omega) (by omega) (by rw [hz1]; omega) (by rw [hz2]; omega) (by omega);rw [Int.toNat_natCast, hz1, nilRow_made] at this;exact this
theorem r2m_start {w : World} (m n : Nat) (F : Nat → Nat → Bool) : R2m w (w.alloc (.cells (nilRow m) 162)) w.heap.size m n m F :=
 ⟨(Below.refl _ _).alloc (Nat.le_refl _) _, Nat.le_refl _, _, heap_alloc_new _ _, nilRow_size m, fun i h1 h2 => by omega⟩
/-- A new row in its place; what was there stays. -/
theorem R2m.lay {w0 w : World} {r m n c : Nat} {F : Nat → Nat → Bool} (h : R2m w0 w r m n (c + 1) F) (hc : c < m) (f : Nat → Bool) :
  R2m w0 ((w.alloc (.cells (bcn n f) 4)).setCell ⟨r, c, none⟩ (SL w.heap.size n)) r m n (c + 1) F ∧ RB ((w.alloc (.cells (bcn n f) 4)).setCell ⟨r, c, none⟩ (SL w.heap.size n)) w.heap.size n f ∧ ((w.alloc (.cells (bcn n f) 4)).setCell ⟨r, c, none⟩ (SL w.heap.size n)).cell? ⟨r, c, none⟩ = some (SL w.heap.size n) ∧
   ∀ i, c < i → i < m → ∀ p, ((w.alloc (.cells (bcn n f) 4)).setCell ⟨r, c, none⟩ (SL w.heap.size n)).cell? ⟨r, i, none⟩ = some (SL p n) → p ≠ w.heap.size := by
 obtain ⟨cs, h1, h2, h3⟩ := h.row;have hr : r < w.heap.size := lt_heap' h1;have ha : (w.alloc (.cells (bcn n f) 4)).heap[r]? = some (.cells cs 162 (0, 0)) := (Below.heap_alloc _ _ _ hr).trans h1;have hs := Go.Joins.block_setCell ha (i := c) (SL w.heap.size n);have hnew : RB ((w.alloc (.cells (bcn n f) 4)).setCell ⟨r, c, none⟩ (SL w.heap.size n)) w.heap.size n f := (Below.heap_setCell _ ⟨r, c, none⟩ _ w.heap.size (by show w.heap.size ≠ r; omega)).trans (heap_alloc_new _ _);refine ⟨⟨(h.bel.alloc h.bel.size _).setCell h.r0 _, h.r0, _, hs, by rw [Array.size_setIfInBounds]; exact h2, fun i i1 i2 => ?_⟩, hnew, ?_, fun i i1 i2 p hp => ?_⟩
 · obtain ⟨q, q1, q2, q3, q4⟩ := h3 i i1 i2;refine ⟨q, by rw [Array.getElem?_setIfInBounds_ne (by omega)]; exact q1, q2, q3, ?_⟩;exact ((Below.heap_setCell _ ⟨r, c, none⟩ _ q q2).trans (Below.heap_alloc _ _ _ q4.lt)).trans q4
 · rw [Lib.cell_of_heap hs];exact Array.getElem?_setIfInBounds_self_of_lt (by omega)
 · obtain ⟨q, q1, q2, q3, q4⟩ := h3 i (by omega) i2;rw [Lib.cell_of_heap hs, Array.getElem?_setIfInBounds_ne (by omega), q1] at hp;(have e : q = p := by simpa using hp);have := q4.lt;omega
/-- What is kept while one row is written. -/
structure Rk (w1 : World) (q : Nat) (w : World) : Prop where
 os : w.os = w1.os
 tape : w.tape = w1.tape
 output : w.output = w1.output
 size : w.heap.size = w1.heap.size
 far : ∀ k, k ≠ q → w.heap[k]? = w1.heap[k]?
theorem Rk.refl (w : World) (q : Nat) : Rk w q w := ⟨rfl, rfl, rfl, rfl, fun _ _ => rfl⟩
theorem Rk.set {w1 w : World} {q : Nat} (h : Rk w1 q w) (i : Nat) (v : Value) : Rk w1 q (w.setCell ⟨q, i, none⟩ v) :=
 ⟨h.os, h.tape, h.output, by have := h.size; simpa using this, fun k hk => (Below.heap_setCell w ⟨q, i, none⟩ v k hk).trans (h.far k hk)⟩
theorem Rk.drew {w1 w : World} {q : Nat} (h : Rk w1 q w) : Rk w1 q w.drew := ⟨h.os, h.tape, h.output, h.size, h.far⟩
theorem Rk.below {w1 w : World} {q n : Nat} (h : Rk w1 q w) (hn : n ≤ q) : Below n w1 w := ⟨h.os, h.tape, h.output, by rw [h.size]; exact Nat.le_refl _, fun k hk => h.far k (by omega)⟩
theorem Rk.cell {w1 w : World} {q b o : Nat} {v : Value} (h : Rk w1 q w) (hb : b ≠ q) (hc : w1.cell? ⟨b, o, none⟩ = some v) : w.cell? ⟨b, o, none⟩ = some v := by
 rw [← hc];simp only [World.cell?];rw [h.far b hb]
/-- A row is ready. -/
theorem R2m.put {w0 w1 w : World} {r m n c q : Nat} {F : Nat → Nat → Bool} (h : R2m w0 w1 r m n (c + 1) F) (hcell : w1.cell? ⟨r, c, none⟩ = some (SL q n)) (hq : q ≠ r) (hq0 : w0.heap.size ≤ q) (hnew : ∀ i, c < i → i < m → ∀ p, w1.cell? ⟨r, i, none⟩ = some (SL p n) → p ≠ q) (hk : Rk w1 q w) (hrow : RB w q n (F c)) : R2m w0 w r m n c F := by
 obtain ⟨cs, h1, h2, h3⟩ := h.row;refine ⟨h.bel.trans (hk.below hq0), h.r0, cs, (hk.far r (Ne.symm hq)).trans h1, h2, fun i i1 i2 => ?_⟩;by_cases hi : i = c
 · subst hi;rw [Lib.cell_of_heap h1] at hcell;exact ⟨q, hcell, hq, hq0, hrow⟩
 · obtain ⟨p, p1, p2, p3, p4⟩ := h3 i (by omega) i2;have := hnew i (by omega) i2 p (by rw [Lib.cell_of_heap h1]; exact p1);exact ⟨p, p1, p2, p3, (hk.far p this).trans p4⟩
/-- Rows that are new. -/
def R2n (w : World) (B : Nat) (v : Value) (m n : Nat) (F : Nat → Nat → Bool) : Prop := ∃ r, v = SL r m ∧ B ≤ r ∧ r < w.heap.size ∧ ∀ i, i < m → ∃ q, w.cell? ⟨r, i, none⟩ = some (SL q n) ∧ B ≤ q ∧ RB w q n (F i)
theorem R2m.done {w0 w : World} {r m n : Nat} {F : Nat → Nat → Bool} (h : R2m w0 w r m n 0 F) {B : Nat} (hB : B ≤ w0.heap.size) : R2n w B (SL r m) m n F := by
 obtain ⟨cs, h1, h2, h3⟩ := h.row;refine ⟨r, rfl, Nat.le_trans hB h.r0, lt_heap' h1, fun i hi => ?_⟩;obtain ⟨q, q1, q2, q3, q4⟩ := h3 i (Nat.zero_le _) hi;exact ⟨q, by rw [Lib.cell_of_heap h1]; exact q1, Nat.le_trans hB q3, q4⟩
theorem R2n.keep {w w' : World} {B m n : Nat} {v : Value} {F : Nat → Nat → Bool} (h : R2n w B v m n F) (hk : ∀ k, B ≤ k → k < w.heap.size → w'.heap[k]? = w.heap[k]?) (hs : w.heap.size ≤ w'.heap.size) : R2n w' B v m n F := by
 obtain ⟨r, h1, h2, h3, h4⟩ := h;refine ⟨r, h1, h2, Nat.lt_of_lt_of_le h3 hs, fun i hi => ?_⟩;obtain ⟨q, q1, q2, q3⟩ := h4 i hi;refine ⟨q, ?_, q2, q3.keep (hk q q2 q3.lt)⟩;rw [← q1];simp only [World.cell?];rw [hk r h2 h3]
theorem R2n.read {w : World} {B m n : Nat} {v : Value} {F : Nat → Nat → Bool} (h : R2n w B v m n F) : R2 w v m n F := by
 obtain ⟨r, h1, h2, h3, h4⟩ := h;refine ⟨r, m, h1, Nat.le_refl _, h3, fun i hi => ?_⟩;obtain ⟨q, q1, q2, q3⟩ := h4 i hi;exact ⟨q, q1, q3⟩
theorem R2.row {w : World} {r cap m n : Nat} {F : Nat → Nat → Bool} (h : R2 w (.slice (some ⟨r, 0, none⟩) m cap) m n F) {i : Nat} (hi : i < m) : ∃ q, w.cell? ⟨r, i, none⟩ = some (SL q n) ∧ RB w q n (F i) := by
 obtain ⟨r', cap', h1, h2, h3, h4⟩ := h;simp only [Value.slice.injEq, Option.some.injEq, Addr.mk.injEq, and_true, true_and] at h1;obtain ⟨rfl, rfl⟩ := h1;exact h4 i hi
/-- Up to a step on: what is found so far. -/
def accK (a : Nat → Nat → Bool) (cm : Bool) (f : Nat → Bool) (p K : Nat) : Bool := (List.range K).any fun k => decide (p < k) && cm && a p k && f k
theorem acc_start (a : Nat → Nat → Bool) (cm : Bool) (f : Nat → Bool) (p : Nat) : accK a cm f p (p + 1) = false := by
 unfold accK;rw [List.any_eq_false];intro k hk;have := List.mem_range.1 hk;rw [decide_eq_false (by omega)];simp
theorem acc_next (a : Nat → Nat → Bool) (f : Nat → Bool) {p k : Nat} (h : p < k) : accK a true f p (k + 1) = (accK a true f p k || (a p k && f k)) := by
 unfold accK;rw [List.range_succ, List.any_append];simp [h]
theorem acc_off (a : Nat → Nat → Bool) (f : Nat → Bool) (p K : Nat) : accK a false f p K = false := by
 unfold accK;rw [List.any_eq_false];intro k hk;simp
/-- The rows of steps. -/
def stF (a : Nat → Nat → Bool) (mn mx : Int) (j : Nat) (c p : Nat) : Bool := stC a mn mx j (j + 2) (j + 2 - c) p
theorem stF_at (a : Nat → Nat → Bool) (mn mx : Int) (j c : Nat) (hc : c ≤ j + 2) : stF a mn mx j c j = (decide (mn ≤ (c : Int)) || a j j) := by
 unfold stF;cases h : j + 2 - c with
 | zero =>
  (have : c = j + 2 := by omega);subst this;simp [stC]
 | succ u =>
  unfold stC;rw [if_pos rfl, show j + 2 - (u + 1) = c by omega]
theorem stF_else (a : Nat → Nat → Bool) (mn mx : Int) (j c p : Nat) (hc : c ≤ j + 2) (hp : p ≠ j) : stF a mn mx j c p = accK a (decide (c < j + 2) && (decide (mx = -1) || decide ((c : Int) < mx))) (stF a mn mx j (c + 1)) p (j + 1) := by
 show stC a mn mx j (j + 2) (j + 2 - c) p = _;cases h : j + 2 - c with
 | zero =>
  (have : c = j + 2 := by omega);subst this;rw [decide_eq_false (by omega : ¬ j + 2 < j + 2), Bool.false_and, acc_off];simp [stC, hp]
 | succ u =>
  rw [stC, if_neg hp, decide_eq_true (by omega : c < j + 2), Bool.true_and];unfold accK stF;rw [show j + 2 - (u + 1) = c by omega, show j + 2 - (c + 1) = u by omega]
end Go.Proofs.YthpiapemjadgdaaGreatDoor.Mt
