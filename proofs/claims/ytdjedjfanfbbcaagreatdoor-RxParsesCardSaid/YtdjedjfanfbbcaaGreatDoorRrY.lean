/- The document's walk through a pattern, whole. The document's look at nodes, whole: May, Groups, Refs: the walks. The document's May, Groups, Refs: the walks. -/
import Derived.Test.YtdjedjfanfbbcaaGreatDoorRrX
namespace Go.Proofs.YtdjedjfanfbbcaaGreatDoor.Rx
open Go.RowKit Go.Shelf
open Tr
open Go.Proofs.YtdjedjfanfbbcaaGreatDoor.St (Wf word zeroW wf_zero)
set_option linter.unusedVariables false
set_option linter.unusedSimpArgs false
theorem off_false (s : NSt) : offN false s = ⟨s.g, s.e, s.r, false⟩ := by unfold offN; simp
theorem thr_len (em : Bool) (t : Tr) (s : NSt) : (thrT em t s).e.length = s.e.length := by rw [thr_num]; exact num_e t s
theorem thr_g (em : Bool) (t : Tr) (s : NSt) : (thrT em t s).g = s.g + cnt t := by rw [thr_num]; exact num_g t s
theorem ns_root {w : World} {b0 o0 c : Nat} {l : List Nd} {t : Tr} {o : Nat} (hN : Ns w (.slice (some ⟨b0, o0, none⟩) l.length c) l) (h : At l t o) : o + t.size - 1 < l.length ∧ NCell w b0 (o0 + (o + t.size - 1) * 10) (t.root o) := by
  have hr := at_root h
  obtain ⟨hlt, he⟩ := List.getElem?_eq_some_iff.1 hr
  obtain ⟨B, o', hq, hc⟩ := hN.at hlt
  simp only [Option.some.injEq, Addr.mk.injEq, and_true] at hq
  obtain ⟨rfl, rfl⟩ := hq
  rw [he] at hc
  exact ⟨hlt, hc⟩
theorem ns_kind {w : World} {b0 o0 c : Nat} {l : List Nd} {t : Tr} {o : Nat} (hN : Ns w (.slice (some ⟨b0, o0, none⟩) l.length c) l) (h : At l t o) : w.cell? ⟨b0, o0 + (o + t.size - 1) * 10, none⟩ = some (E t.rk) := by
  have := (ns_root hN h).2.1
  rw [root_k] at this
  exact this
set_option maxHeartbeats 1600000 in
theorem thr_any (b0 o0 c : Nat) (l : List Nd) : ∀ (t : Tr) (o : Nat) (s : NSt) (w : World), At l t o → (∀ n ∈ t.nodes o, OneN n) → Ns w (.slice (some ⟨b0, o0, none⟩) l.length c) l → s.e.length = 10 → 0 ≤ s.g → s.g + t.size ≤ 1000 →
    Calls Tryz.prog 47 #[.slice (some ⟨b0, o0, none⟩) l.length c, E ((o + t.size - 1 : Nat) : Int), WV s] w fun e w' => e = .returned (WV (thrT (decide (l.length = 1)) t s)) ∧ Below w.heap.size w w'
  | t, o, s, w, ha, ho, hN, he, hg0, hg1 => by
    obtain ⟨hlt, hc⟩ := ns_root hN ha
    have hi : ((o + t.size - 1 : Nat) : Int) < ((l.length : Nat) : Int) := by omega
    have one := ho _ (List.mem_of_getElem? (nodes_last t o))
    match t with
    | .e =>
      by_cases h1 : l.length = 1
      · rw [show thrT (decide (l.length = 1)) .e s = s from by rw [decide_eq_true h1]; exact off_true s]
        exact thr_0t w b0 o0 l.length c _ s hi _ _ _ _ _ _ h1 hc
      · rw [show thrT (decide (l.length = 1)) .e s = ⟨s.g, s.e, s.r, false⟩ from by rw [decide_eq_false h1]; exact off_false s]
        exact thr_0f w b0 o0 l.length c _ s hi _ _ _ _ _ _ (by simp; omega) hc
    | .set z => exact thr_leaf w b0 o0 l.length c _ s hi _ rfl rfl rfl rfl rfl rfl hc
    | .beg => exact thr_leaf w b0 o0 l.length c _ s hi _ rfl rfl rfl rfl rfl rfl hc
    | .fin => exact thr_leaf w b0 o0 l.length c _ s hi _ rfl rfl rfl rfl rfl rfl hc
    | .ref n =>
      have h19 := one_ref one
      obtain ⟨m, rfl⟩ : ∃ m : Nat, n = (m : Int) := ⟨n.toNat, by omega⟩
      have hm : m < 10 := by omega
      cases hx : ex s m with
      | true =>
        rw [show thrT (decide (l.length = 1)) (.ref (m : Int)) s = ⟨s.g, s.e, true, s.ok⟩ from by
          show (⟨s.g, s.e, true, s.ok && (s.e[((m : Int)).toNat]?).getD false⟩ : NSt) = _
          rw [Int.toNat_natCast]
          unfold ex at hx
          rw [hx, Bool.and_true]]
        exact thr_8t w b0 o0 l.length c _ s hi _ m _ _ _ _ hm hx hc
      | false =>
        rw [show thrT (decide (l.length = 1)) (.ref (m : Int)) s = ⟨s.g, s.e, true, false⟩ from by
          show (⟨s.g, s.e, true, s.ok && (s.e[((m : Int)).toNat]?).getD false⟩ : NSt) = _
          rw [Int.toNat_natCast]
          unfold ex at hx
          rw [hx, Bool.and_false]]
        exact thr_8f w b0 o0 l.length c _ s hi _ m _ _ _ _ hm hx hc
    | .cat x y =>
      have px := size_pos x
      have py := size_pos y
      have hax := at_left (t := .cat x y) (x := x) (r := y.nodes (o + x.size) ++ [(Tr.cat x y).root o]) ha (by simp [nodes])
      have hay := at_right (t := .cat x y) (x := x) (y := y) (r := [(Tr.cat x y).root o]) ha (by simp [nodes])
      have hox : ∀ n ∈ x.nodes o, OneN n := fun n hn => ho n (by simp [nodes, hn])
      have hoy : ∀ n ∈ y.nodes (o + x.size), OneN n := fun n hn => ho n (by simp [nodes, hn])
      have hkx := ns_kind hN hax
      have hky := ns_kind hN hay
      have hlx := (ns_root hN hax).1
      have hly := (ns_root hN hay).1
      have cx := cnt_size x
      have cp := cnt_pos x
      have IHx := fun (s' : NSt) (h1 : s'.e.length = 10) (h2 : 0 ≤ s'.g) (h3 : s'.g + x.size ≤ 1000) => Lib.hid (fun W (hb : Below w.heap.size w W) => thr_any b0 o0 c l x o s' W hax hox (hN.below hb) h1 h2 h3)
      have IHy := fun (s' : NSt) (h1 : s'.e.length = 10) (h2 : 0 ≤ s'.g) (h3 : s'.g + y.size ≤ 1000) => Lib.hid (fun W (hb : Below w.heap.size w W) => thr_any b0 o0 c l y (o + x.size) s' W hay hoy (hN.below hb) h1 h2 h3)
      simp only [size] at hg1
      have hgx := fun s' => thr_g (decide (l.length = 1)) x s'
      by_cases hgood : x.rk ≠ 4 ∧ x.rk ≠ 5 ∧ y.rk ≠ 5
      · rw [show thrT (decide (l.length = 1)) (.cat x y) s = thrT (decide (l.length = 1)) y (thrT (decide (l.length = 1)) x s) from by
          show thrT _ y (thrT _ x (offN (decide _) s)) = _
          rw [decide_eq_true hgood, off_true]]
        exact thr_4g w b0 o0 l.length c _ s hi _ (o + x.size - 1) (o + x.size + y.size - 1) _ _ _ x.rk y.rk (thrT (decide (l.length = 1)) x s) _ (by omega) (by omega) hkx hky (by simpa using hgood.1) (by simpa using hgood.2.1) (by simpa using hgood.2.2)
          (IHx s he hg0 (by omega)) (IHy _ (by rw [thr_len]; exact he) (by rw [hgx]; omega) (by rw [hgx]; omega)) hc
      · rw [show thrT (decide (l.length = 1)) (.cat x y) s = thrT (decide (l.length = 1)) y (thrT (decide (l.length = 1)) x ⟨s.g, s.e, s.r, false⟩) from by
          show thrT _ y (thrT _ x (offN (decide _) s)) = _
          rw [decide_eq_false hgood, off_false]]
        have Hx := IHx ⟨s.g, s.e, s.r, false⟩ he hg0 (by show s.g + (x.size : Int) ≤ 1000; omega)
        have Hy := IHy (thrT (decide (l.length = 1)) x ⟨s.g, s.e, s.r, false⟩) (by rw [thr_len]; exact he) (by rw [hgx]; show 0 ≤ s.g + cnt x; omega) (by rw [hgx]; show s.g + cnt x + (y.size : Int) ≤ 1000; omega)
        by_cases k4 : x.rk = 4
        · exact thr_4a w b0 o0 l.length c _ s hi _ (o + x.size - 1) (o + x.size + y.size - 1) _ _ _ x.rk y.rk _ _ (by omega) (by omega) hkx hky k4 Hx Hy hc
        by_cases k5 : x.rk = 5
        · exact thr_4b w b0 o0 l.length c _ s hi _ (o + x.size - 1) (o + x.size + y.size - 1) _ _ _ x.rk y.rk _ _ (by omega) (by omega) hkx hky k5 Hx Hy hc
        have y5 : y.rk = 5 := by
          by_cases q : y.rk = 5
          · exact q
          · exact absurd ⟨k4, k5, q⟩ hgood
        exact thr_4c w b0 o0 l.length c _ s hi _ (o + x.size - 1) (o + x.size + y.size - 1) _ _ _ x.rk y.rk _ _ (by omega) (by omega) hkx hky (by simpa using k4) (by simpa using k5) y5 Hx Hy hc
    | .alt x y =>
      have px := size_pos x
      have py := size_pos y
      have hax := at_left (t := .alt x y) (x := x) (r := y.nodes (o + x.size) ++ [(Tr.alt x y).root o]) ha (by simp [nodes])
      have hay := at_right (t := .alt x y) (x := x) (y := y) (r := [(Tr.alt x y).root o]) ha (by simp [nodes])
      have hox : ∀ n ∈ x.nodes o, OneN n := fun n hn => ho n (by simp [nodes, hn])
      have hoy : ∀ n ∈ y.nodes (o + x.size), OneN n := fun n hn => ho n (by simp [nodes, hn])
      have hkx := ns_kind hN hax
      have hky := ns_kind hN hay
      have hlx := (ns_root hN hax).1
      have hly := (ns_root hN hay).1
      have cx := cnt_size x
      have cp := cnt_pos x
      have IHx := fun (s' : NSt) (h1 : s'.e.length = 10) (h2 : 0 ≤ s'.g) (h3 : s'.g + x.size ≤ 1000) => Lib.hid (fun W (hb : Below w.heap.size w W) => thr_any b0 o0 c l x o s' W hax hox (hN.below hb) h1 h2 h3)
      have IHy := fun (s' : NSt) (h1 : s'.e.length = 10) (h2 : 0 ≤ s'.g) (h3 : s'.g + y.size ≤ 1000) => Lib.hid (fun W (hb : Below w.heap.size w W) => thr_any b0 o0 c l y (o + x.size) s' W hay hoy (hN.below hb) h1 h2 h3)
      simp only [size] at hg1
      have hgx := fun s' => thr_g (decide (l.length = 1)) x s'
      by_cases k5 : x.rk = 5
      · rw [show thrT (decide (l.length = 1)) (.alt x y) s = thrT (decide (l.length = 1)) y (thrT (decide (l.length = 1)) x ⟨s.g, s.e, s.r, false⟩) from by
          show thrT _ y (thrT _ x (offN (decide _) s)) = _
          rw [show (decide (x.rk ≠ 5)) = false from decide_eq_false (fun q => q k5), off_false]]
        have Hx := IHx ⟨s.g, s.e, s.r, false⟩ he hg0 (by show s.g + (x.size : Int) ≤ 1000; omega)
        have Hy := IHy (thrT (decide (l.length = 1)) x ⟨s.g, s.e, s.r, false⟩) (by rw [thr_len]; exact he) (by rw [hgx]; show 0 ≤ s.g + cnt x; omega) (by rw [hgx]; show s.g + cnt x + (y.size : Int) ≤ 1000; omega)
        exact thr_5b w b0 o0 l.length c _ s hi _ (o + x.size - 1) (o + x.size + y.size - 1) _ _ _ x.rk y.rk _ _ (by omega) (by omega) hkx hky k5 Hx Hy hc
      · rw [show thrT (decide (l.length = 1)) (.alt x y) s = thrT (decide (l.length = 1)) y (thrT (decide (l.length = 1)) x s) from by
          show thrT _ y (thrT _ x (offN (decide _) s)) = _
          rw [show (decide (x.rk ≠ 5)) = true from decide_eq_true k5, off_true]]
        exact thr_5g w b0 o0 l.length c _ s hi _ (o + x.size - 1) (o + x.size + y.size - 1) _ _ _ x.rk y.rk (thrT (decide (l.length = 1)) x s) _ (by omega) (by omega) hkx hky (by simpa using k5)
          (IHx s he hg0 (by omega)) (IHy _ (by rw [thr_len]; exact he) (by rw [hgx]; omega) (by rw [hgx]; omega)) hc
    | .times mn mx x =>
      have px := size_pos x
      have hax := at_left (t := .times mn mx x) (x := x) (r := [(Tr.times mn mx x).root o]) ha (by simp [nodes])
      have hox : ∀ n ∈ x.nodes o, OneN n := fun n hn => ho n (by simp [nodes, hn])
      have hkx := ns_kind hN hax
      have hlx := (ns_root hN hax).1
      have IHx := fun (s' : NSt) (h1 : s'.e.length = 10) (h2 : 0 ≤ s'.g) (h3 : s'.g + x.size ≤ 1000) => Lib.hid (fun W (hb : Below w.heap.size w W) => thr_any b0 o0 c l x o s' W hax hox (hN.below hb) h1 h2 h3)
      simp only [size] at hg1
      by_cases hgood : x.rk = 1 ∨ x.rk = 7 ∨ x.rk = 8
      · rw [show thrT (decide (l.length = 1)) (.times mn mx x) s = thrT (decide (l.length = 1)) x s from by
          show thrT _ x (offN (decide _) s) = _
          rw [decide_eq_true hgood, off_true]]
        rcases hgood with k | k | k
        · exact thr_61 w b0 o0 l.length c _ s hi _ (o + x.size - 1) _ _ _ _ x.rk _ (by omega) hkx k (IHx s he hg0 (by omega)) hc
        · exact thr_67 w b0 o0 l.length c _ s hi _ (o + x.size - 1) _ _ _ _ x.rk _ (by omega) hkx k (IHx s he hg0 (by omega)) hc
        · exact thr_68 w b0 o0 l.length c _ s hi _ (o + x.size - 1) _ _ _ _ x.rk _ (by omega) hkx k (IHx s he hg0 (by omega)) hc
      · rw [show thrT (decide (l.length = 1)) (.times mn mx x) s = thrT (decide (l.length = 1)) x ⟨s.g, s.e, s.r, false⟩ from by
          show thrT _ x (offN (decide _) s) = _
          rw [decide_eq_false hgood, off_false]]
        exact thr_6f w b0 o0 l.length c _ s hi _ (o + x.size - 1) _ _ _ _ x.rk _ (by omega) hkx (by simpa using fun q => hgood (Or.inl q)) (by simpa using fun q => hgood (Or.inr (Or.inl q))) (by simpa using fun q => hgood (Or.inr (Or.inr q)))
          (IHx ⟨s.g, s.e, s.r, false⟩ he hg0 (by show s.g + (x.size : Int) ≤ 1000; omega)) hc
    | .grp n x =>
      have px := size_pos x
      have h19 := one_grp one
      obtain ⟨m, rfl⟩ : ∃ m : Nat, n = (m : Int) := ⟨n.toNat, by omega⟩
      have hax := at_left (t := .grp (m : Int) x) (x := x) (r := [(Tr.grp (m : Int) x).root o]) ha (by simp [nodes])
      have hox : ∀ n ∈ x.nodes o, OneN n := fun n hn => ho n (by simp [nodes, hn])
      have hlx := (ns_root hN hax).1
      have IHx := fun (s' : NSt) (h1 : s'.e.length = 10) (h2 : 0 ≤ s'.g) (h3 : s'.g + x.size ≤ 1000) => Lib.hid (fun W (hb : Below w.heap.size w W) => thr_any b0 o0 c l x o s' W hax hox (hN.below hb) h1 h2 h3)
      simp only [size] at hg1
      by_cases hgm : s.g + 1 = (m : Int)
      · have e : (⟨s.g + 1, s.e, s.r, s.ok && decide ((m : Int) = s.g + 1)⟩ : NSt) = ⟨s.g + 1, s.e, s.r, s.ok⟩ := by rw [decide_eq_true hgm.symm, Bool.and_true]
        rw [show thrT (decide (l.length = 1)) (.grp (m : Int) x) s = ⟨(thrT (decide (l.length = 1)) x ⟨s.g + 1, s.e, s.r, s.ok⟩).g, (thrT (decide (l.length = 1)) x ⟨s.g + 1, s.e, s.r, s.ok⟩).e.set m true, (thrT (decide (l.length = 1)) x ⟨s.g + 1, s.e, s.r, s.ok⟩).r, (thrT (decide (l.length = 1)) x ⟨s.g + 1, s.e, s.r, s.ok⟩).ok⟩ from by
          simp only [thrT]
          rw [e, Int.toNat_natCast]]
        exact thr_7g w b0 o0 l.length c _ s hi _ (o + x.size - 1) m _ _ _ _ (by omega) (by omega) hg0 (by omega) (by rw [thr_len]; exact he) hgm (IHx ⟨s.g + 1, s.e, s.r, s.ok⟩ he (by show 0 ≤ s.g + 1; omega) (by show s.g + 1 + (x.size : Int) ≤ 1000; omega)) hc
      · have e : (⟨s.g + 1, s.e, s.r, s.ok && decide ((m : Int) = s.g + 1)⟩ : NSt) = ⟨s.g + 1, s.e, s.r, false⟩ := by rw [decide_eq_false (fun q => hgm q.symm), Bool.and_false]
        rw [show thrT (decide (l.length = 1)) (.grp (m : Int) x) s = ⟨(thrT (decide (l.length = 1)) x ⟨s.g + 1, s.e, s.r, false⟩).g, (thrT (decide (l.length = 1)) x ⟨s.g + 1, s.e, s.r, false⟩).e.set m true, (thrT (decide (l.length = 1)) x ⟨s.g + 1, s.e, s.r, false⟩).r, (thrT (decide (l.length = 1)) x ⟨s.g + 1, s.e, s.r, false⟩).ok⟩ from by
          simp only [thrT]
          rw [e, Int.toNat_natCast]]
        exact thr_7f w b0 o0 l.length c _ s hi _ (o + x.size - 1) m _ _ _ _ (by omega) (by omega) hg0 (by omega) (by rw [thr_len]; exact he) (by simpa using hgm) (IHx ⟨s.g + 1, s.e, s.r, false⟩ he (by show 0 ≤ s.g + 1; omega) (by show s.g + 1 + (x.size : Int) ≤ 1000; omega)) hc
end Go.Proofs.YtdjedjfanfbbcaaGreatDoor.Rx
namespace Go.Proofs.YtdjedjfanfbbcaaGreatDoor.Rx
open Go.RowKit Go.Shelf
open Tr
open Go.Proofs.YtdjedjfanfbbcaaGreatDoor.St (Wf word zeroW wf_zero)
set_option linter.unusedVariables false
set_option linter.unusedSimpArgs false
/-- What the look answers. -/
def LookA (l : List Nd) (s : NSt) : Prop := s.ok = mayL l ∧ (mayL l = true → s.g = groupsL l ∧ s.r = refsL l)
def nsz : NSt := ⟨0, List.replicate 10 false, false, false⟩
theorem look_no {l : List Nd} (h : mayL l = false) : LookA l nsz := ⟨by rw [h]; rfl, fun q => by rw [h] at q; cases q⟩
theorem may_len0 {l : List Nd} (h : l.length = 0) : mayL l = false := by
  unfold mayL
  cases hp : patOf l with
  | none => rfl
  | some t =>
    obtain ⟨h1, _⟩ := patOf_some hp
    have := size_pos t
    rw [h1, nodes_len] at h
    omega
theorem may_long {l : List Nd} (h : 120 < l.length) : mayL l = false := by
  unfold mayL
  cases hp : patOf l with
  | none => rfl
  | some t =>
    obtain ⟨h1, h2⟩ := patOf_some hp
    have := h2.2.1
    rw [h1, nodes_len] at h
    omega
theorem all_one {l : List Nd} (h : ∀ j (hj : j < l.length), OneN l[j]) : ∀ n ∈ l, OneN n := by
  intro n hn
  obtain ⟨j, hj, rfl⟩ := List.getElem_of_mem hn
  exact h j hj
theorem wz_new (w : World) : WB (w.alloc (.cells #[.bool false, .int .i64 0, .bool false, .bool false, .bool false, .bool false, .bool false, .bool false, .bool false, .bool false, .bool false, .bool false, .bool false] 59)) w.heap.size nsz := heap_alloc_new _ _
set_option maxRecDepth 100000 in
set_option maxHeartbeats 3200000 in
theorem rlook_any (ao : Option Addr) (c : Nat) (l : List Nd) (w : World) (hN : Ns w (.slice ao l.length c) l) (hw : ∀ n ∈ l, Wf n.s) :
    Calls Tryz.prog 24 #[.slice ao l.length c] w fun e w' => ∃ s, e = .returned (WV s) ∧ LookA l s ∧ Below w.heap.size w w' := by
  have HZ := Lib.hid (wz_new w)
  have HB0 := Lib.hid ((Below.refl w.heap.size w).alloc (Nat.le_refl _) (.cells #[.bool false, .int .i64 0, .bool false, .bool false, .bool false, .bool false, .bool false, .bool false, .bool false, .bool false, .bool false, .bool false, .bool false] 59))
  by_cases h1 : l.length = 0
  · have HA := Lib.hid (look_no (may_len0 h1))
    have hlt : ((l.length : Nat) : Int) < 1 := by omega
    clear h1 hN hw
    go_enter Tryz.func24, Tryz.ntmps24
    go_wp2
    exact bodyPost_ret (v := WV nsz) (ansW rfl rfl HZ.out Tryz.underlying59) rfl ⟨nsz, rfl, HA.out, HB0.out⟩
  by_cases h120 : 120 < l.length
  · have HA := Lib.hid (look_no (may_long h120))
    have hlt : ¬ ((l.length : Nat) : Int) < 1 := by omega
    have hgt : (120 : Int) < ((l.length : Nat) : Int) := by omega
    clear h1 h120 hN hw
    go_enter Tryz.func24, Tryz.ntmps24
    go_wp2
    exact bodyPost_ret (v := WV nsz) (ansW rfl rfl HZ.out Tryz.underlying59) rfl ⟨nsz, rfl, HA.out, HB0.out⟩
  have hlt0 : ¬ ((l.length : Nat) : Int) < 1 := by omega
  have hgt0 : ¬ (120 : Int) < ((l.length : Nat) : Int) := by omega
  obtain ⟨b0, o0, rfl, _⟩ := hN.at (i := 0) (by omega)
  have HNS := Lib.hid (fun W (hb : Below w.heap.size w W) => hN.below hb)
  have HW := Lib.hid (fun (k : Nat) (hk : k < l.length) => show Wf l[k].s from hw _ (List.getElem_mem hk))
  clear hN hw
  go_enter Tryz.func24, Tryz.ntmps24
  go_wp2
  go_loopw [3] (fun i wr => ∃ (k : Nat), k ≤ l.length ∧ i = .int .i64 (k : Nat) ∧ Hid (∀ j (hj : j < l.length), j < k → OneN l[j]) ∧ Hid (WB wr w.heap.size nsz) ∧ Hid (Below w.heap.size w wr)) (fun i _ => l.length - (intOf i).toNat)
  case atStart => exact ⟨0, Nat.zero_le _, rfl, Lib.hid (fun j hj h => absurd h (by omega)), HZ, HB0⟩
  case round =>
    clear HZ HB0
    obtain ⟨k, hk, rfl, HO, HZ, HB⟩ := hrel
    by_cases hlt : k < l.length
    · have hlt' : ((k : Nat) : Int) < ((l.length : Nat) : Int) := by omega
      obtain ⟨B, o, hq, q0, q1, q2, q3, q4, q5, q6, q7, q8, q9⟩ := (HNS.out wr HB.out).at hlt
      simp only [Option.some.injEq, Addr.mk.injEq, and_true] at hq
      obtain ⟨rfl, rfl⟩ := hq
      have HF0 := fun W => fields_any l[k] W (HW.out k hlt)
      by_cases hone : OneN l[k]
      · have HK := Lib.hid (show ∀ j (hj : j < l.length), j < k + 1 → OneN l[j] from fun j hj h => by
          rcases Nat.lt_or_ge j k with q | q
          · exact HO.out j hj q
          · obtain rfl : j = k := by omega
            exact hone)
        rw [decide_eq_true hone] at HF0
        have HF := Lib.hid HF0
        generalize l[k] = n at *
        clear HF0 HO hone
        go_wp2_with (go_at_call 45; refine (HF.out _).mono ?_; rintro e w2 ⟨rfl, hb⟩; have HZ2 := Lib.hid ((hb.block _ (lt_heap' HZ.out)).trans HZ.out); have HB2 := Lib.hid (HB.out.trans (hb.mono HB.out.size)); clear hb)
        go_roundw
        case rel => exact ⟨k + 1, by omega, by go_num, HK, HZ2, HB2⟩
        case measure => simp [intOf]; omega
      · have HA := Lib.hid (look_no (may_one (fun q => hone (q _ (List.getElem_mem hlt)))))
        rw [decide_eq_false hone] at HF0
        have HF := Lib.hid HF0
        generalize l[k] = n at *
        clear HF0 HO hone
        go_wp2_with (go_at_call 45; refine (HF.out _).mono ?_; rintro e w2 ⟨rfl, hb⟩; have HZ2 : Hid (WB w2 w.heap.size nsz) := Lib.hid ((hb.block _ (lt_heap' HZ.out)).trans HZ.out); have HB2 := Lib.hid (HB.out.trans (hb.mono HB.out.size)); clear hb; have HR := Lib.hid (rb_put HZ2.out nsz); have HBL := Lib.hid (put_below HB2.out (Nat.le_refl _) nsz); obtain ⟨⟨y0, y1, y2, y3, y4, y5, y6, y7, y8, y9, y10, y11, y12⟩, yf⟩ := HZ2.out.cells)
        exact bodyPost_ret (v := WV nsz) (ansW rfl rfl HR.out Tryz.underlying59) rfl ⟨nsz, rfl, HA.out, HBL.out⟩
    · obtain rfl : k = l.length := by omega
      have hall := all_one (fun j hj => HO.out j hj hj)
      have hl : l.length ≤ 120 := by omega
      have HF1 := Lib.hid (first_any b0 o0 c l (by omega) 121 ((l.length : Int) - 1) wr (HNS.out _ HB.out) (by omega) (by omega) (by omega))
      have hw1 : IntKind.i64.wrap (((l.length : Nat) : Int) - 1) = ((l.length : Nat) : Int) - 1 := by rw [IntKind.wrap_i64]; omega
      by_cases hf : firstF l 121 ((l.length : Int) - 1) = 0
      · obtain ⟨t, ht⟩ := tree_of_first hall hf
        have hs : l.length = t.size := by rw [ht, nodes_len]
        have HT0 := fun W hb => thr_any b0 o0 c l t 0 num0 W (by rw [ht]; exact at_self t) (by rw [← ht]; exact hall) (HNS.out W hb) rfl (by decide) (by show (0 : Int) + t.size ≤ 1000; omega)
        have hm := thr_may (t := t) (by rw [← ht]; exact hall) (by omega)
        rw [show (decide (t.size = 1)) = decide (l.length = 1) from by rw [hs], ← ht] at hm
        rw [show ((0 + t.size - 1 : Nat) : Int) = ((l.length : Nat) : Int) - 1 from by omega] at HT0
        generalize thrT (decide (l.length = 1)) t num0 = sf at *
        rw [hf] at HF1
        have HA := Lib.hid (show LookA l sf from hm)
        have HT := Lib.hid HT0
        clear HT0 hm hs ht hf hall HO hl
        go_wp2_with (first
          | (go_at_call 46; refine HF1.out.mono ?_; rintro e w2 ⟨rfl, hb⟩; have HZ2 : Hid (WB w2 w.heap.size nsz) := Lib.hid ((hb.block _ (lt_heap' HZ.out)).trans HZ.out); have HB2 := Lib.hid (HB.out.trans (hb.mono HB.out.size)); clear hb)
          | (go_at_call 47; refine (HT.out _ HB2.out).mono ?_; rintro e w3 ⟨rfl, hb⟩; have HZ3 : Hid (WB w3 w.heap.size nsz) := Lib.hid ((hb.block _ (lt_heap' HZ2.out)).trans HZ2.out); have HB3 := Lib.hid (HB2.out.trans (hb.mono HB2.out.size)); clear hb; have HR := Lib.hid (rb_put HZ3.out sf); have HBL := Lib.hid (put_below HB3.out (Nat.le_refl _) sf); obtain ⟨⟨y0, y1, y2, y3, y4, y5, y6, y7, y8, y9, y10, y11, y12⟩, yf⟩ := HZ3.out.cells))
        exact bodyPost_ret (v := WV sf) (ansW rfl rfl HR.out Tryz.underlying59) rfl ⟨sf, rfl, HA.out, HBL.out⟩
      · have HA := Lib.hid (look_no (may_first hl hf))
        generalize firstF l 121 ((l.length : Int) - 1) = fv at *
        have hfv : (fv != 0) = true := by simpa using hf
        clear hf hall HO hl
        go_wp2_with (go_at_call 46; refine HF1.out.mono ?_; rintro e w2 ⟨rfl, hb⟩; have HZ2 : Hid (WB w2 w.heap.size nsz) := Lib.hid ((hb.block _ (lt_heap' HZ.out)).trans HZ.out); have HB2 := Lib.hid (HB.out.trans (hb.mono HB.out.size)); clear hb; have HR := Lib.hid (rb_put HZ2.out nsz); have HBL := Lib.hid (put_below HB2.out (Nat.le_refl _) nsz); obtain ⟨⟨y0, y1, y2, y3, y4, y5, y6, y7, y8, y9, y10, y11, y12⟩, yf⟩ := HZ2.out.cells)
        exact bodyPost_ret (v := WV nsz) (ansW rfl rfl HR.out Tryz.underlying59) rfl ⟨nsz, rfl, HA.out, HBL.out⟩
end Go.Proofs.YtdjedjfanfbbcaaGreatDoor.Rx
namespace Go.Proofs.YtdjedjfanfbbcaaGreatDoor.Rx
open Go.RowKit Go.Shelf
open Go.Proofs.YtdjedjfanfbbcaaGreatDoor.St (Wf)
set_option linter.unusedVariables false
set_option linter.unusedSimpArgs false
theorem groups_not {l : List Nd} (h : mayL l = false) : groupsL l = 0 ∧ refsL l = false := by
  unfold mayL at h
  have : patOf l = none := by
    cases hp : patOf l with
    | none => rfl
    | some t => rw [hp] at h; cases h
  unfold groupsL refsL
  rw [this]
  exact ⟨rfl, rfl⟩
set_option maxRecDepth 100000 in
theorem rmay_any (ao : Option Addr) (c : Nat) (l : List Nd) (w : World) (hN : Ns w (.slice ao l.length c) l) (hw : ∀ n ∈ l, Wf n.s) :
    Calls Tryz.prog 11 #[.slice ao l.length c] w fun e w' => e = .returned (.bool (mayL l)) ∧ Below w.heap.size w w' := by
  have HK := Lib.hid (rlook_any ao c l w hN hw)
  clear hN hw
  have hfd : ∀ (s : NSt) (W : World), (Instr.field 59 (WV s) 0).run Tryz.prog W = .ok (.bool s.ok) W := fun _ _ => by kernel_rfl
  go_enter Tryz.func11, Tryz.ntmps11
  go_wp2_with (go_at_call 24; refine HK.out.mono ?_; rintro e w2 ⟨s, rfl, hl, hb⟩; have HA := Lib.hid hl; have HB := Lib.hid hb; clear hl hb)
  go_ret
  exact ⟨by rw [← HA.out.1]; rfl, HB.out⟩
set_option maxRecDepth 100000 in
set_option maxHeartbeats 800000 in
theorem rgroups_any (ao : Option Addr) (c : Nat) (l : List Nd) (w : World) (hN : Ns w (.slice ao l.length c) l) (hw : ∀ n ∈ l, Wf n.s) :
    Calls Tryz.prog 13 #[.slice ao l.length c] w fun e w' => e = .returned (E (groupsL l)) ∧ Below w.heap.size w w' := by
  have HK := Lib.hid (rlook_any ao c l w hN hw)
  clear hN hw
  go_enter Tryz.func13, Tryz.ntmps13
  cases hm : mayL l
  · have HG := Lib.hid (groups_not hm).1
    have HM := Lib.hid hm
    clear hm
    go_wp2_with (go_at_call 24; refine HK.out.mono ?_; rintro e w2 ⟨s, rfl, hl, hb⟩; have hk := hl.1; rw [HM.out] at hk; rw [show WV s = .agg #[.bool false, E s.g, .bool (ex s 0), .bool (ex s 1), .bool (ex s 2), .bool (ex s 3), .bool (ex s 4), .bool (ex s 5), .bool (ex s 6), .bool (ex s 7), .bool (ex s 8), .bool (ex s 9), .bool s.r] from by rw [← hk]]; have HB := Lib.hid ((hb.alloc hb.size (.cells #[.bool false, E s.g, .bool (ex s 0), .bool (ex s 1), .bool (ex s 2), .bool (ex s 3), .bool (ex s 4), .bool (ex s 5), .bool (ex s 6), .bool (ex s 7), .bool (ex s 8), .bool (ex s 9), .bool s.r] 59))); clear hl hb hk)
    go_ret
    exact ⟨by rw [HG.out]; rfl, HB.out⟩
  · have HM := Lib.hid hm
    clear hm
    go_wp2_with (go_at_call 24; refine HK.out.mono ?_; rintro e w2 ⟨s, rfl, hl, hb⟩; have hk := hl.1; have HG := Lib.hid (hl.2 HM.out).1; rw [HM.out] at hk; rw [show WV s = .agg #[.bool true, E s.g, .bool (ex s 0), .bool (ex s 1), .bool (ex s 2), .bool (ex s 3), .bool (ex s 4), .bool (ex s 5), .bool (ex s 6), .bool (ex s 7), .bool (ex s 8), .bool (ex s 9), .bool s.r] from by rw [← hk]]; have HB := Lib.hid ((hb.alloc hb.size (.cells #[.bool true, E s.g, .bool (ex s 0), .bool (ex s 1), .bool (ex s 2), .bool (ex s 3), .bool (ex s 4), .bool (ex s 5), .bool (ex s 6), .bool (ex s 7), .bool (ex s 8), .bool (ex s 9), .bool s.r] 59))); clear hl hb hk)
    go_ret
    exact ⟨by rw [← HG.out]; rfl, HB.out⟩
set_option maxRecDepth 100000 in
set_option maxHeartbeats 800000 in
theorem rrefs_any (ao : Option Addr) (c : Nat) (l : List Nd) (w : World) (hN : Ns w (.slice ao l.length c) l) (hw : ∀ n ∈ l, Wf n.s) :
    Calls Tryz.prog 15 #[.slice ao l.length c] w fun e w' => e = .returned (.bool (refsL l)) ∧ Below w.heap.size w w' := by
  have HK := Lib.hid (rlook_any ao c l w hN hw)
  clear hN hw
  go_enter Tryz.func15, Tryz.ntmps15
  cases hm : mayL l
  · have HG := Lib.hid (groups_not hm).2
    have HM := Lib.hid hm
    clear hm
    go_wp2_with (go_at_call 24; refine HK.out.mono ?_; rintro e w2 ⟨s, rfl, hl, hb⟩; have hk := hl.1; rw [HM.out] at hk; rw [show WV s = .agg #[.bool false, E s.g, .bool (ex s 0), .bool (ex s 1), .bool (ex s 2), .bool (ex s 3), .bool (ex s 4), .bool (ex s 5), .bool (ex s 6), .bool (ex s 7), .bool (ex s 8), .bool (ex s 9), .bool s.r] from by rw [← hk]]; have HB := Lib.hid ((hb.alloc hb.size (.cells #[.bool false, E s.g, .bool (ex s 0), .bool (ex s 1), .bool (ex s 2), .bool (ex s 3), .bool (ex s 4), .bool (ex s 5), .bool (ex s 6), .bool (ex s 7), .bool (ex s 8), .bool (ex s 9), .bool s.r] 59))); clear hl hb hk)
    go_ret
    exact ⟨by rw [HG.out]; rfl, HB.out⟩
  · have HM := Lib.hid hm
    clear hm
    go_wp2_with (go_at_call 24; refine HK.out.mono ?_; rintro e w2 ⟨s, rfl, hl, hb⟩; have hk := hl.1; have HG := Lib.hid (hl.2 HM.out).2; rw [HM.out] at hk; rw [show WV s = .agg #[.bool true, E s.g, .bool (ex s 0), .bool (ex s 1), .bool (ex s 2), .bool (ex s 3), .bool (ex s 4), .bool (ex s 5), .bool (ex s 6), .bool (ex s 7), .bool (ex s 8), .bool (ex s 9), .bool s.r] from by rw [← hk]]; have HB := Lib.hid ((hb.alloc hb.size (.cells #[.bool true, E s.g, .bool (ex s 0), .bool (ex s 1), .bool (ex s 2), .bool (ex s 3), .bool (ex s 4), .bool (ex s 5), .bool (ex s 6), .bool (ex s 7), .bool (ex s 8), .bool (ex s 9), .bool s.r] 59))); clear hl hb hk)
    go_ret
    exact ⟨by rw [← HG.out]; rfl, HB.out⟩
end Go.Proofs.YtdjedjfanfbbcaaGreatDoor.Rx
