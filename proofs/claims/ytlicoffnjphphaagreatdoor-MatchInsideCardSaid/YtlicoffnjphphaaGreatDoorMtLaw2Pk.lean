/- MatchInside: the walk. -/
import Derived.Test.YtlicoffnjphphaaGreatDoorPk29
namespace Go.Proofs.YtlicoffnjphphaaGreatDoor.Mt
open Go.RowKit Go.Shelf
open Go.Proofs.YtlicoffnjphphaaGreatDoor.Sp (hA hB hullV fi_in inB_of wh_eq cx fi)
open Go.Proofs.YtlicoffnjphphaaGreatDoor.Rx
open Go.Proofs.YtlicoffnjphphaaGreatDoor.Rx.Tr
open Go.Proofs.YtlicoffnjphphaaGreatDoor.St (Wf word mem SV SV_eq ofL wf_ofL bytesL)
set_option linter.unusedVariables false
set_option linter.unusedSimpArgs false
/-- Within bounds, if it is there. -/
def Inb (i j : Nat) : Cap → Prop
  | none => True
  | some (p, q) => i ≤ p ∧ p ≤ q ∧ q ≤ j
theorem Inb.wide {i j k l : Nat} {x : Cap} (h : Inb i j x) (h1 : k ≤ i) (h2 : j ≤ l) : Inb k l x := by
  cases x with
  | none => trivial
  | some p => obtain ⟨a, b⟩ := p; exact ⟨by have := h.1; omega, h.2.1, by have := h.2.2; omega⟩
/-- What groups have behind a tree: as before, or within where it fits, of its own groups. -/
def Stays (g : Int) (m : Int) (i j : Nat) (c a : Caps) : Prop := ∀ n : Nat, gr a n = gr c n ∨ (g < n ∧ (n : Int) ≤ g + m ∧ Inb i j (gr a n))
theorem Stays.refl (g m : Int) (i j : Nat) (c : Caps) : Stays g m i j c c := fun n => Or.inl rfl
theorem Stays.trans {g m g1 m1 g2 m2 : Int} {i j k l p q : Nat} {c a b : Caps} (h : Stays g1 m1 k l c a) (h' : Stays g2 m2 p q a b) (hg : g ≤ g1 ∧ g1 + m1 ≤ g + m) (hg2 : g ≤ g2 ∧ g2 + m2 ≤ g + m) (h1 : i ≤ k ∧ l ≤ j) (h2 : i ≤ p ∧ q ≤ j) : Stays g m i j c b := fun n => by
  rcases h' n with e | ⟨a1, a2, a3⟩
  · rw [e]
    rcases h n with e2 | ⟨b1, b2, b3⟩
    · exact Or.inl e2
    · exact Or.inr ⟨by omega, by omega, b3.wide h1.1 h1.2⟩
  · exact Or.inr ⟨by omega, by omega, a3.wide h2.1 h2.2⟩
theorem fit_stays {T : List UInt8} {em : Prop} : ∀ (t : Tr) (g : Int) (i j : Nat) (c a : Caps), NumOk t g → 0 ≤ g → i ≤ j → c.length = 10 → CapsOk T.length c → j ≤ T.length → t.Fine em → fitP T t i j c = some a → Stays g (cnt t) i j c a
  | .e, g, i, j, c, a, hn, hg, hij, hl, hc, hj, hf, h => by
    unfold fitP at h
    split at h
    · cases h; exact Stays.refl _ _ _ _ _
    · cases h
  | .set s, g, i, j, c, a, hn, hg, hij, hl, hc, hj, hf, h => by
    unfold fitP at h
    split at h
    · cases h; exact Stays.refl _ _ _ _ _
    · cases h
  | .beg, g, i, j, c, a, hn, hg, hij, hl, hc, hj, hf, h => by
    unfold fitP at h
    split at h
    · cases h; exact Stays.refl _ _ _ _ _
    · cases h
  | .fin, g, i, j, c, a, hn, hg, hij, hl, hc, hj, hf, h => by
    unfold fitP at h
    split at h
    · cases h; exact Stays.refl _ _ _ _ _
    · cases h
  | .ref n, g, i, j, c, a, hn, hg, hij, hl, hc, hj, hf, h => by
    unfold fitP at h
    split at h
    · cases h; exact Stays.refl _ _ _ _ _
    · cases h
  | .cat x y, g, i, j, c, a, hn, hg, hij, hl, hc, hj, hf, h => by
    unfold fitP at h
    obtain ⟨k, h1, h2, h3⟩ := down_some h
    cases hx : fitP T x i k c with
    | none => rw [hx] at h3; cases h3
    | some b =>
      rw [hx, Option.bind_some] at h3
      have cx := cnt_pos x
      have cy := cnt_pos y
      have hb := fit_ok x i k c b (by omega) (by omega) hc hx
      have s1 := fit_stays x g i k c b hn.1 hg (by omega) hl hc (by omega) hf.1 hx
      have s2 := fit_stays y (g + cnt x) k j b a hn.2 (by omega) (by omega) hb.len hb hj hf.2.1 h3
      refine s1.trans s2 ?_ ?_ ?_ ?_ <;> (try simp only [cnt]) <;> omega
  | .alt x y, g, i, j, c, a, hn, hg, hij, hl, hc, hj, hf, h => by
    unfold fitP at h
    have cx := cnt_pos x
    have cy := cnt_pos y
    split at h
    · rename_i b hx
      cases h
      have s1 := fit_stays x g i j c a hn.1 hg hij hl hc hj hf.1 hx
      refine (Stays.refl g 0 i j c).trans s1 ?_ ?_ ?_ ?_ <;> (try simp only [cnt]) <;> omega
    · have s2 := fit_stays y (g + cnt x) i j c a hn.2 (by omega) hij hl hc hj hf.2.1 h
      refine (Stays.refl g 0 i j c).trans s2 ?_ ?_ ?_ ?_ <;> (try simp only [cnt]) <;> omega
  | .grp n x, g, i, j, c, a, hn, hg, hij, hl, hc, hj, hf, h => by
    unfold fitP at h
    have cx := cnt_pos x
    cases hx : fitP T x i j c with
    | none => rw [hx] at h; cases h
    | some b =>
      rw [hx] at h
      cases h
      have hb := fit_ok x i j c b hij hj hc hx
      have s1 := fit_stays x (g + 1) i j c b hn.2 (by omega) hij hl hc hj hf.1 hx
      have h9 := hf.2
      have hng := hn.1
      have s2 : Stays g 1 i j b (b.set n.toNat (some (i, j))) := fun m => by
        rw [gr_set hb.len (by omega)]
        by_cases e : m = n.toNat
        · rw [if_pos e]
          exact Or.inr ⟨by omega, by omega, Nat.le_refl _, hij, Nat.le_refl _⟩
        · rw [if_neg e]
          exact Or.inl rfl
      refine s1.trans s2 ?_ ?_ ?_ ?_ <;> (try simp only [cnt]) <;> omega
  | .times mn mx x, g, i, j, c, a, hn, hg, hij, hl, hc, hj, hf, h => by
    unfold fitP at h
    have key : ∀ (fuel p k : Nat) (c a : Caps), i ≤ p → p ≤ j → CapsOk T.length c → timesP (fitP T x) mn mx j fuel p k c = some a → Stays g (cnt x) i j c a := by
      intro fuel
      induction fuel with
      | zero =>
        intro p k c a hip hp hc h
        unfold timesP at h
        split at h
        · split at h
          · cases h; exact Stays.refl _ _ _ _ _
          · have := fit_stays x g j j c a hn hg (Nat.le_refl _) hc.len hc hj hf.1 h
            exact (Stays.refl g 0 i j c).trans this ⟨by omega, by have := cnt_pos x; omega⟩ ⟨by omega, by omega⟩ ⟨by omega, by omega⟩ ⟨by omega, by omega⟩
        · split at h <;> cases h
      | succ fuel ih =>
        intro p k c a hip hp hc h
        unfold timesP at h
        split at h
        · split at h
          · cases h; exact Stays.refl _ _ _ _ _
          · have := fit_stays x g j j c a hn hg (Nat.le_refl _) hc.len hc hj hf.1 h
            exact (Stays.refl g 0 i j c).trans this ⟨by omega, by have := cnt_pos x; omega⟩ ⟨by omega, by omega⟩ ⟨by omega, by omega⟩ ⟨by omega, by omega⟩
        · split at h
          · cases h
          · dsimp only at h
            obtain ⟨q, h1, h2, h3⟩ := down_some h
            cases hx : fitP T x p q c with
            | none => rw [hx] at h3; cases h3
            | some b =>
              rw [hx, Option.bind_some] at h3
              have hb := fit_ok x p q c b (by omega) (by omega) hc hx
              have s1 := fit_stays x g p q c b hn hg (by omega) hc.len hc (by omega) hf.1 hx
              have s2 := ih q (k + 1) b a (by omega) (by omega) hb h3
              exact s1.trans s2 ⟨by omega, by omega⟩ ⟨by omega, by omega⟩ ⟨by omega, by omega⟩ ⟨by omega, by omega⟩
    exact key (j - i) i 0 c a (Nat.le_refl _) hij hc h
/-- What the law says of what groups have. -/
theorem long_inside {T : List UInt8} {t : Tr} (hg : Go.Proofs.YtlicoffnjphphaaGreatDoor.Rx.Good t) {i : Nat} (hi : i ≤ T.length) {c : Caps} (h : longP T t i = some c) :
    CapsOk T.length c ∧ ∃ j, i ≤ j ∧ j ≤ T.length ∧ gr c 0 = some (i, j) ∧ ∀ n : Nat, 1 ≤ n → n < 10 → Inb i j (gr c n) ∧ ((cnt t < (n : Int)) → gr c n = none) := by
  obtain ⟨q, h1, h2, h3⟩ := dn_some h
  (try dsimp only at h2)
  have hc := whole_ok (T := T) (t := t) (by omega : i ≤ i + q) (by omega) h2
  refine ⟨hc, i + q, by omega, by omega, ?_⟩
  unfold wholeP at h2
  cases hf : fitP T t i (i + q) nones with
  | none => rw [hf] at h2; cases h2
  | some a =>
    rw [hf] at h2
    cases h2
    have ha := (fit_ok t i (i + q) nones a (by omega) (by omega) (caps_none _) hf).len
    refine ⟨by rw [gr_set ha (by decide), if_pos rfl], fun n hn1 hn2 => ?_⟩
    rw [gr_set ha (by decide), if_neg (by omega)]
    have hs := fit_stays t 0 i (i + q) nones a hg.numOk (by omega) (by omega) rfl (caps_none _) (by omega) hg.1 hf n
    have hno : gr nones n = none := by
      unfold gr nones
      rw [List.getElem?_replicate, if_pos hn2]
      rfl
    rcases hs with e | ⟨e1, e2, e3⟩
    · rw [e, hno]
      exact ⟨trivial, fun _ => rfl⟩
    · exact ⟨e3, fun q => by omega⟩
theorem eql_caps {N : Nat} (hN : N ≤ 999999999) {c d : Caps} (hc : CapsOk N c) (hd : CapsOk N d) (W : World) : (binOp .eql 27 (CV c) (CV d)).run Tryz.prog W = .ok (.bool (decide (c = d))) W := by
  rw [run_eql_struct, show (10000 : Nat) = 9998 + 2 from rfl, run_eq_caps Tryz.underlying27 hN hc hd]
  rfl
theorem eq_cx (a b c d q : Nat) (w : World) : (Op.equalIn (q + 1) 25 (cx a b) (cx c d)).run Tryz.prog w = .ok (Go.Proofs.YtlicoffnjphphaaGreatDoor.Fl.eqB a c && Go.Proofs.YtlicoffnjphphaaGreatDoor.Fl.eqB b d) w := by
  rw [← Go.Proofs.YtlicoffnjphphaaGreatDoor.Fl.order_eq, ← Go.Proofs.YtlicoffnjphphaaGreatDoor.Fl.order_eq]
  rw [Op.equalIn]
  simp only [Sem.run_bind, run_underlying Tryz.underlying25, Result.andThen_ok]
  simp only [if_true, Sem.run_pure, Op.floatEq]
  rfl
/-- A hull with what is within is it. -/
theorem hull_cap {i j p q : Nat} (hj : j ≤ 999999999) (hip : i ≤ p) (hpq : p ≤ q) (hqj : q ≤ j) : ∃ u v, (∀ W, Calls Tryz.prog 28 #[capV (some (i, j)), capV (some (p, q))] W fun e w' => e = .returned (cx u v) ∧ W = w') ∧
    ∀ W : World, (binOp .neq 25 (cx u v) (capV (some (i, j)))).run Tryz.prog W = .ok (.bool false) W := by
  refine ⟨_, _, fun W => Go.Proofs.YtlicoffnjphphaaGreatDoor.Sp.hull_any (fi i) (fi j) (fi p) (fi q) W, fun W => ?_⟩
  obtain ⟨k1, _, _, k4, k5⟩ := fi_in (inB_of (a := (i : Int)) (b := (j : Int)) (by omega) (by omega) (by omega))
  obtain ⟨l1, _, _, l4, l5⟩ := fi_in (inB_of (a := (p : Int)) (b := (q : Int)) (by omega) (by omega) (by omega))
  obtain ⟨a1, a2, _⟩ := Go.Proofs.YtlicoffnjphphaaGreatDoor.Fl.may_spec k1
  obtain ⟨b1, b2, _⟩ := Go.Proofs.YtlicoffnjphphaaGreatDoor.Fl.may_spec l1
  obtain ⟨m1, m2⟩ := Go.Proofs.YtlicoffnjphphaaGreatDoor.Fl.minF_wh a1 b1
  obtain ⟨m3, m4⟩ := Go.Proofs.YtlicoffnjphphaaGreatDoor.Fl.maxF_wh a2 b2
  have e1 : Go.Proofs.YtlicoffnjphphaaGreatDoor.Fl.eqB (hA (fi i) (fi j) (fi p) (fi q)) (fi i) = true := by
    unfold hA
    rw [k1, l1]
    simp only [if_true]
    exact wh_eq m1 a1 (by rw [m2, k4, l4]; omega)
  have e2 : Go.Proofs.YtlicoffnjphphaaGreatDoor.Fl.eqB (hB (fi i) (fi j) (fi p) (fi q)) (fi j) = true := by
    unfold hB
    rw [k1, l1]
    simp only [if_true]
    exact wh_eq m3 a2 (by rw [m4, k5, l5]; omega)
  have h := run_neq_complex (P := Tryz.prog) W 25 .f64 (hA (fi i) (fi j) (fi p) (fi q)) (hB (fi i) (fi j) (fi p) (fi q)) (fi i) (fi j)
  rw [show FloatKind.f64.format = Ieee.double from rfl, Go.Proofs.YtlicoffnjphphaaGreatDoor.Fl.order_eq, Go.Proofs.YtlicoffnjphphaaGreatDoor.Fl.order_eq, e1, e2] at h
  exact h
set_option maxRecDepth 100000 in
set_option maxHeartbeats 3200000 in
theorem inside_none (W : World) (hL : Lay W) (ao : Option Addr) (n0 cc : Nat) (T : List UInt8) (hT : T.length ≤ 100)
    (hbd : ∀ W' : World, Calls Tryz.prog 9 #[.slice ao n0 cc, S T] W fun e w' => e = .returned (.bool true) ∧ W = w') (i : Int)
    (hlo : ∀ (W' : World), Below W.heap.size W W' → Calls Tryz.prog 11 #[.slice ao n0 cc, S T, E i] W' fun e w' => e = .returned (.tuple #[CV nones, .bool false]) ∧ Below W'.heap.size W' w') :
    Calls Tryz.prog 7 #[.slice ao n0 cc, S T, E i] W fun e W' => e = .returned (.bool true) ∧ Below W.heap.size W W' := by
  have heq : ∀ W : World, (Op.equalIn 10000 27 (CV nones) (CV nones)).run Tryz.prog W = .ok true W := fun W => by
    have := run_eq_caps (N := 0) Tryz.underlying27 (by decide) (caps_none 0) (caps_none 0) 9998 W
    rw [decide_eq_true rfl] at this
    exact this
  have HEQ := Lib.hid heq
  clear heq
  have HNA := Lib.hid (fun W => none_any W)
  have HB0 := Lib.hid (Below.refl W.heap.size W)
  have HBD := Lib.hid hbd
  have HSH := Lib.hid (fun (W' : World) (hb : Below W.heap.size W W') => mshown_any W' (hL.below hb))
  have HLO := Lib.hid hlo
  clear hbd hL hlo
  go_enter Tryz.func7, Tryz.ntmps7
  go_wp2_with (first
    | (go_at_call 9; refine (HBD.out W).mono ?_; rintro e w1 ⟨rfl, rfl⟩)
    | (go_at_call 10; refine (HSH.out _ HB0.out).mono ?_; rintro e w2 ⟨rfl, hb⟩; have HB1 := Lib.hid (HB0.out.trans (hb.mono HB0.out.size)); clear hb)
    | (go_at_call 11; refine (HLO.out _ HB1.out).mono ?_; rintro e w5 ⟨rfl, hb⟩; have HR5 := Lib.hid (HB1.out.trans (hb.mono HB1.out.size)); clear hb)
    | (refine wpList_store_row rfl 27 (.tmp 7) (.tmp 24) rfl _ (CC nones) rfl rfl _ CZ (heap_alloc_new _ _) (by kernel_rfl) rfl (cc_one nones) ?_; simp only [Act.put, List.setIfInBounds_toArray, List.set_cons_zero, List.set_cons_succ]; rw [box_laid]; have HX := Lib.hid (heap_alloc_new w5 (.cells (CC nones) 27)); have HR6 := Lib.hid (HR5.out.alloc HR5.out.size (.cells (CC nones) 27)); clear HR5; generalize hgg : w5.heap.size = g at HX ⊢; clear hgg; generalize World.alloc _ _ = W6 at HX HR6 ⊢))
  have HRd := Lib.hid HR6.out.drew
  refine wp_region_noPanic ?_
  refine wp_region_held_drew (S := fun w' => CB w' g nones) (by kernel_rfl) ?_ (fun hHeld => ?_)
  · (try dsimp only); exact HX.out
  have HXd := Lib.hid (show CB (World.drew _) g nones from HX.out)
  clear HX HR6
  generalize World.drew _ = W7 at HRd HXd hHeld ⊢
  refine Tk.take 0 (hy := fun wv hSw => exec_load_row 27 (.tmp 7) rfl g rfl _ (CC nones) _ _ hSw Tryz.underlying27 rfl (by kernel_rfl)) (h := ?_)
  refine Tk.one 1 (h := fun K hK => ?_)
  go_simp
  (go_at_call 21; refine (HNA.out W7).mono ?_; rintro e w8 ⟨rfl, hb⟩; have HR8 := Lib.hid (HRd.out.trans (hb.mono HRd.out.size)); have HX8 := Lib.hid ((hb.block _ (lt_heap' HXd.out)).trans HXd.out); clear hb)
  refine hK.out _ _ ?_ (fun hHeld => Tk.wrk ?_)
  · (try dsimp only); (exact HX8.out)
  clear hK K
  refine Tk.take 2 (hy := by (intro w hSw; have hq := HEQ.out w; go_simp) <;> with_reducible rfl) (h := ?_)
  refine Tk.take 3 (h := ?_)
  refine wpAnyH_done (by kernel_rfl) ?_ _
  refine NoPanic.normal ?_
  clear hHeld
  go_wp2
  go_ret
  exact ⟨rfl, HR8.out⟩
set_option maxRecDepth 100000 in
set_option maxHeartbeats 3200000 in
theorem inside_some (W : World) (hL : Lay W) (ao : Option Addr) (n0 cc : Nat) (T : List UInt8) (hT : T.length ≤ 100)
    (hbd : ∀ W' : World, Calls Tryz.prog 9 #[.slice ao n0 cc, S T] W fun e w' => e = .returned (.bool true) ∧ W = w') (i : Nat) (c : Caps) (j : Nat) (hij : i ≤ j) (hj : j ≤ T.length) (hc : CapsOk T.length c) (h0 : gr c 0 = some (i, j)) (G : Int) (hin : ∀ n : Nat, 1 ≤ n → n < 10 → Inb i j (gr c n) ∧ (G < (n : Int) → gr c n = none))
    (hlo : ∀ (W' : World), Below W.heap.size W W' → Calls Tryz.prog 11 #[.slice ao n0 cc, S T, E (i : Nat)] W' fun e w' => e = .returned (.tuple #[CV c, .bool true]) ∧ Below W'.heap.size W' w')
    (hgr : ∀ (W' : World), Below W.heap.size W W' → Calls Tryz.prog 25 #[.slice ao n0 cc] W' fun e w' => e = .returned (E G) ∧ Below W'.heap.size W' w') :
    Calls Tryz.prog 7 #[.slice ao n0 cc, S T, E (i : Nat)] W fun e W' => e = .returned (.bool true) ∧ Below W.heap.size W W' := by
  have HM0 := Lib.hid (fun W => may_cap (N := T.length) (by omega) (hc.at 0) W)
  have HF0 := Lib.hid (fun W => from_cap (N := T.length) (by omega) (show CapOk T.length (some (i, j)) from ⟨hij, hj⟩) W)
  have HT0 := Lib.hid (fun W => to_cap (N := T.length) (by omega) (show CapOk T.length (some (i, j)) from ⟨hij, hj⟩) W)
  rw [← h0] at HF0 HT0
  have HMs : Hid (gr c 0).isSome := Lib.hid (by rw [h0]; rfl)
  have HH0 := Lib.hid h0
  have HC := Lib.hid hc
  have HIN := Lib.hid hin
  have HGR := Lib.hid hgr
  have HJ := Lib.hid (And.intro hij (And.intro hj hT))
  have hii : ((i : Int) == (i : Int)) = true := by simp
  have hjl : ¬ ((T.length : Int) < (j : Int)) := by omega
  have hjn : ¬ (T.length < j) := by omega
  rw [HMs.out] at HM0
  clear hij hj hT hc h0 hin hgr HMs
  have HB0 := Lib.hid (Below.refl W.heap.size W)
  have HBD := Lib.hid hbd
  have HSH := Lib.hid (fun (W' : World) (hb : Below W.heap.size W W') => mshown_any W' (hL.below hb))
  have HLO := Lib.hid hlo
  clear hbd hL hlo
  go_enter Tryz.func7, Tryz.ntmps7
  go_wp2_with (first
    | (go_at_call 9; refine (HBD.out W).mono ?_; rintro e w1 ⟨rfl, rfl⟩)
    | (go_at_call 10; refine (HSH.out _ HB0.out).mono ?_; rintro e w2 ⟨rfl, hb⟩; have HB1 := Lib.hid (HB0.out.trans (hb.mono HB0.out.size)); clear hb)
    | (go_at_call 11; refine (HLO.out _ HB1.out).mono ?_; rintro e w5 ⟨rfl, hb⟩; have HR5 := Lib.hid (HB1.out.trans (hb.mono HB1.out.size)); clear hb)
    | (refine wpList_store_row rfl 27 (.tmp 7) (.tmp 24) rfl _ (CC c) rfl rfl _ CZ (heap_alloc_new _ _) (by kernel_rfl) rfl (cc_one c) ?_; simp only [Act.put, List.setIfInBounds_toArray, List.set_cons_zero, List.set_cons_succ]; rw [box_laid]; have HX := Lib.hid (heap_alloc_new w5 (.cells (CC c) 27)); have HR6 := Lib.hid (HR5.out.alloc HR5.out.size (.cells (CC c) 27)); clear HR5; generalize hgg : w5.heap.size = g at HX ⊢; clear hgg; generalize World.alloc _ _ = W6 at HX HR6 ⊢; obtain ⟨y0, y1, y2, y3, y4, y5, y6, y7, y8, y9⟩ := caps_cells HX.out)
    | (go_at_call 26; refine (HM0.out W6).mono ?_; rintro e w8 ⟨rfl, rfl⟩)
    | (go_at_call 27; refine (HF0.out W6).mono ?_; rintro e w8 ⟨rfl, rfl⟩)
    | (go_at_call 23; refine (HT0.out W6).mono ?_; rintro e w8 ⟨rfl, rfl⟩))
  go_loopg [9] 9 (fun k nv wr => ∃ n : Nat, k = 10 - n ∧ 1 ≤ n ∧ n ≤ 10 ∧ nv = .int .i64 (n : Nat) ∧ Hid (CB wr g c) ∧ Hid (Below W.heap.size W wr))
  case atStart => exact ⟨1, rfl, by omega, by omega, rfl, HX, HR6⟩
  case round =>
    clear HX HR6 y0 y1 y2 y3 y4 y5 y6 y7 y8 y9
    obtain ⟨n, hkk, hn1, hn2, rfl, HX, HR⟩ := hrel
    subst hkk
    by_cases hlt : n < 10
    · have hlt' : (n : Int) < 10 := by omega
      have hn0 : (0 : Int) ≤ (n : Int) := by omega
      have hwn : IntKind.i64.wrap ((n : Int) + 1) = (n : Int) + 1 := by rw [IntKind.wrap_i64]; omega
      have HN10 := Lib.hid hlt
      have HN1 := Lib.hid hn1
      obtain ⟨hb, hnn⟩ := HIN.out n hn1 hlt
      have hmy := (fun W => may_cap (N := T.length) (by have := HJ.out; omega) (HC.out.at n) W)
      have HRd := Lib.hid HR.out.drew
      have HXd := Lib.hid (show CB wr.drew g c from HX.out)
      cases hx : gr c n with
      | none =>
        rw [show (gr c n).isSome = false from by rw [hx]; rfl] at hmy
        have HMY := Lib.hid hmy
        clear hmy hb hnn hx hn1 hn2 hlt
        by_cases hG : G < (n : Int)
        · go_wp2
          refine wp_region_noPanic ?_
          refine wp_region_held_drew (S := fun w' => CB w' g c) (by kernel_rfl) ?_ (fun hHeld => ?_)
          · (try dsimp only); exact HX.out
          clear HX HR
          generalize World.drew _ = W7 at HRd HXd hHeld ⊢
          have hGx : G < (n : Int) := by omega
          refine Tk.take 0 (h := ?_)
          refine Tk.take 1 (h := ?_)
          refine Tk.fk (fun _ h => cap_cell h HN10.out) 2 (h := ?_)
          refine Tk.one 3 (h := fun K hK => ?_)
          go_simp
          (go_at_call 26; refine (HMY.out W7).mono ?_; rintro e w8 ⟨rfl, rfl⟩)
          refine hK.out _ _ ?_ (fun hHeld => Tk.wrk ?_)
          · (try dsimp only); (exact HXd.out)
          clear hK K
          refine Tk.take 4 (h := ?_)
          refine Tk.pass 5 (h := ?_)
          refine Tk.pass 6 (h := ?_)
          refine Tk.pass 7 (h := ?_)
          refine Tk.pass 8 (h := ?_)
          refine Tk.pass 9 (h := ?_)
          refine Tk.pass 10 (h := ?_)
          refine Tk.pass 11 (h := ?_)
          refine Tk.pass 12 (h := ?_)
          refine Tk.pass 13 (h := ?_)
          refine Tk.take 14 (h := ?_)
          refine Tk.take 15 (h := ?_)
          refine Tk.take 16 (h := ?_)
          refine Tk.take 17 (h := ?_)
          refine Tk.one 18 (h := fun K hK => ?_)
          go_simp
          (go_at_call 25; refine (HGR.out W7 HRd.out).mono ?_; rintro e w8 ⟨rfl, hb⟩; have HR8 := Lib.hid (HRd.out.trans (hb.mono HRd.out.size)); have HX8 := Lib.hid ((hb.block _ (lt_heap' HXd.out)).trans HXd.out); clear hb)
          refine hK.out _ _ ?_ (fun hHeld => Tk.wrk ?_)
          · (try dsimp only); (exact HX8.out)
          clear hK K
          refine Tk.take 19 (h := ?_)
          refine Tk.take 20 (h := ?_)
          refine Tk.take 21 (h := ?_)
          refine Tk.take 22 (h := ?_)
          refine Tk.fk (fun _ h => cap_cell h HN10.out) 23 (h := ?_)
          refine Tk.one 24 (h := fun K hK => ?_)
          go_simp
          (go_at_call 26; refine (HMY.out w8).mono ?_; rintro e w8 ⟨rfl, rfl⟩)
          refine hK.out _ _ ?_ (fun hHeld => Tk.wrk ?_)
          · (try dsimp only); (exact HX8.out)
          clear hK K
          refine Tk.take 25 (h := ?_)
          refine Tk.take 26 (h := ?_)
          refine wpAnyH_done (by kernel_rfl) ?_ _
          refine NoPanic.normal ?_
          clear hHeld
          go_wp2
          go_roundg (9 - n)
          case measure => have := HN10.out; omega
          case rel => exact ⟨n + 1, by omega, by omega, by have := HN10.out; omega, by go_num, HX8, HR8⟩
        · go_wp2
          refine wp_region_noPanic ?_
          refine wp_region_held_drew (S := fun w' => CB w' g c) (by kernel_rfl) ?_ (fun hHeld => ?_)
          · (try dsimp only); exact HX.out
          clear HX HR
          generalize World.drew _ = W7 at HRd HXd hHeld ⊢
          have hGx : ¬ G < (n : Int) := by omega
          refine Tk.take 0 (h := ?_)
          refine Tk.take 1 (h := ?_)
          refine Tk.fk (fun _ h => cap_cell h HN10.out) 2 (h := ?_)
          refine Tk.one 3 (h := fun K hK => ?_)
          go_simp
          (go_at_call 26; refine (HMY.out W7).mono ?_; rintro e w8 ⟨rfl, rfl⟩)
          refine hK.out _ _ ?_ (fun hHeld => Tk.wrk ?_)
          · (try dsimp only); (exact HXd.out)
          clear hK K
          refine Tk.take 4 (h := ?_)
          refine Tk.pass 5 (h := ?_)
          refine Tk.pass 6 (h := ?_)
          refine Tk.pass 7 (h := ?_)
          refine Tk.pass 8 (h := ?_)
          refine Tk.pass 9 (h := ?_)
          refine Tk.pass 10 (h := ?_)
          refine Tk.pass 11 (h := ?_)
          refine Tk.pass 12 (h := ?_)
          refine Tk.pass 13 (h := ?_)
          refine Tk.take 14 (h := ?_)
          refine Tk.take 15 (h := ?_)
          refine Tk.take 16 (h := ?_)
          refine Tk.take 17 (h := ?_)
          refine Tk.one 18 (h := fun K hK => ?_)
          go_simp
          (go_at_call 25; refine (HGR.out W7 HRd.out).mono ?_; rintro e w8 ⟨rfl, hb⟩; have HR8 := Lib.hid (HRd.out.trans (hb.mono HRd.out.size)); have HX8 := Lib.hid ((hb.block _ (lt_heap' HXd.out)).trans HXd.out); clear hb)
          refine hK.out _ _ ?_ (fun hHeld => Tk.wrk ?_)
          · (try dsimp only); (exact HX8.out)
          clear hK K
          refine Tk.take 19 (h := ?_)
          refine Tk.take 20 (h := ?_)
          refine Tk.pass 21 (h := ?_)
          refine Tk.pass 22 (h := ?_)
          refine Tk.pass 23 (h := ?_)
          refine Tk.pass 24 (h := ?_)
          refine Tk.take 25 (h := ?_)
          refine Tk.take 26 (h := ?_)
          refine wpAnyH_done (by kernel_rfl) ?_ _
          refine NoPanic.normal ?_
          clear hHeld
          go_wp2
          go_roundg (9 - n)
          case measure => have := HN10.out; omega
          case rel => exact ⟨n + 1, by omega, by omega, by have := HN10.out; omega, by go_num, HX8, HR8⟩
      | some pq =>
        obtain ⟨p, q⟩ := pq
        rw [show (gr c n).isSome = true from by rw [hx]; rfl] at hmy
        have HMY := Lib.hid hmy
        rw [hx] at hb hnn
        have hG : ¬ G < (n : Int) := fun e => by have := hnn e; cases this
        obtain ⟨u, v, hhu, hne⟩ := hull_cap (i := i) (j := j) (p := p) (q := q) (by have := HJ.out; omega) hb.1 hb.2.1 hb.2.2
        rw [← HH0.out] at hhu hne
        rw [← hx] at hhu
        have HHU := Lib.hid hhu
        have HNE := Lib.hid hne
        clear hmy hb hnn hx hn1 hn2 hlt hhu hne
        go_wp2
        refine wp_region_noPanic ?_
        refine wp_region_held_drew (S := fun w' => CB w' g c) (by kernel_rfl) ?_ (fun hHeld => ?_)
        · (try dsimp only); exact HX.out
        clear HX HR
        generalize World.drew _ = W7 at HRd HXd hHeld ⊢
        have hGx : ¬ G < (n : Int) := by omega
        refine Tk.take 0 (h := ?_)
        refine Tk.take 1 (h := ?_)
        refine Tk.fk (fun _ h => cap_cell h HN10.out) 2 (h := ?_)
        refine Tk.one 3 (h := fun K hK => ?_)
        go_simp
        (go_at_call 26; refine (HMY.out W7).mono ?_; rintro e w8 ⟨rfl, rfl⟩)
        refine hK.out _ _ ?_ (fun hHeld => Tk.wrk ?_)
        · (try dsimp only); (exact HXd.out)
        clear hK K
        refine Tk.take 4 (h := ?_)
        refine Tk.take 5 (h := ?_)
        refine Tk.fk (fun _ h => cap_cell h (show 0 < 10 by decide)) 6 (h := ?_)
        refine Tk.take 7 (h := ?_)
        refine Tk.take 8 (h := ?_)
        refine Tk.fk (fun _ h => cap_cell h HN10.out) 9 (h := ?_)
        refine Tk.take 11 (h := ?_)
        refine Tk.fk (fun _ h => cap_cell h (show 0 < 10 by decide)) 12 (h := ?_)
        refine Tk.one 10 (h := fun K hK => ?_)
        go_simp
        (go_at_call 28; refine (HHU.out W7).mono ?_; rintro e w8 ⟨rfl, rfl⟩)
        refine hK.out _ _ ?_ (fun hHeld => Tk.wrk ?_)
        · (try dsimp only); (exact HXd.out)
        clear hK K
        refine Tk.take 13 (hy := by (intro w hSw; have hq := HNE.out w; go_simp) <;> with_reducible rfl) (h := ?_)
        refine Tk.take 14 (h := ?_)
        refine Tk.take 15 (h := ?_)
        refine Tk.take 16 (h := ?_)
        refine Tk.take 17 (h := ?_)
        refine Tk.one 18 (h := fun K hK => ?_)
        go_simp
        (go_at_call 25; refine (HGR.out W7 HRd.out).mono ?_; rintro e w8 ⟨rfl, hb⟩; have HR8 := Lib.hid (HRd.out.trans (hb.mono HRd.out.size)); have HX8 := Lib.hid ((hb.block _ (lt_heap' HXd.out)).trans HXd.out); clear hb)
        refine hK.out _ _ ?_ (fun hHeld => Tk.wrk ?_)
        · (try dsimp only); (exact HX8.out)
        clear hK K
        refine Tk.take 19 (h := ?_)
        refine Tk.take 20 (h := ?_)
        refine Tk.pass 21 (h := ?_)
        refine Tk.pass 22 (h := ?_)
        refine Tk.pass 23 (h := ?_)
        refine Tk.pass 24 (h := ?_)
        refine Tk.take 25 (h := ?_)
        refine Tk.take 26 (h := ?_)
        refine wpAnyH_done (by kernel_rfl) ?_ _
        refine NoPanic.normal ?_
        clear hHeld
        go_wp2
        go_roundg (9 - n)
        case measure => have := HN10.out; omega
        case rel => exact ⟨n + 1, by omega, by omega, by have := HN10.out; omega, by go_num, HX8, HR8⟩
    · have hlt' : ¬ (n : Int) < 10 := by omega
      go_wp2
      go_ret
      exact ⟨rfl, HR.out⟩
set_option maxRecDepth 100000 in
set_option maxHeartbeats 3200000 in
theorem MatchInside_skip (W : World) (hL : Lay W) (ao : Option Addr) (c n : Nat) (T : List UInt8) (i : Int)
    (hbd : ∀ W' : World, Calls Tryz.prog 9 #[.slice ao n c, S T] W fun e w' => e = .returned (.bool false) ∧ W = w') :
    Calls Tryz.prog 7 #[.slice ao n c, S T, E i] W fun e W' => e = .returned (.bool true) ∧ Below W.heap.size W W' := by
  have HB0 := Lib.hid (Below.refl W.heap.size W)
  have HBD := Lib.hid hbd
  have HSH := Lib.hid (fun (W' : World) (hb : Below W.heap.size W W') => mshown_any W' (hL.below hb))
  clear hbd hL
  go_enter Tryz.func7, Tryz.ntmps7
  go_wp2_with (first
    | (go_at_call 9; refine (HBD.out W).mono ?_; rintro e w1 ⟨rfl, rfl⟩)
    | (go_at_call 10; refine (HSH.out _ HB0.out).mono ?_; rintro e w2 ⟨rfl, hb⟩; have HB1 := Lib.hid (HB0.out.trans (hb.mono HB0.out.size)); clear hb))
  go_ret
  exact ⟨rfl, HB1.out⟩
theorem matchInside_walk (W : World) (hL : Lay W) (ao : Option Addr) (c : Nat) (l : List Nd) (m : l.length ≤ maxLen) (B : Ns W (.slice ao l.length c) l) (F : ∀ n ∈ l, Wf n.s) (a1 : ByteArray) (w1 : a1.size ≤ maxLen) (i : Int) (w2 : (Lit.int .i64 i).wf = true) :
    Calls Tryz.prog 7 #[.slice ao l.length c, .string a1, .int .i64 i] W fun e W' => e = .returned (.bool true) ∧ Below W.heap.size W W' := by
  obtain ⟨T, rfl⟩ : ∃ T : List UInt8, a1 = ⟨T.toArray⟩ := ⟨a1.data.toList, (Lib.mk_data a1).symm⟩
  cases hb : boundedL 24 9 6 l T.length with
  | false => exact MatchInside_skip W hL ao c l.length T i fun W' => bounded_any ao c l W B m T false hb.symm
  | true =>
    obtain ⟨hl, hT⟩ := bounded_len hb
    have hbd := fun W' : World => bounded_any ao c l W B m T true hb.symm
    have no : (mayL l = false ∨ i < 0 ∨ (T.length : Int) < i) → Calls Tryz.prog 7 #[.slice ao l.length c, S T, E i] W fun e W' => e = .returned (.bool true) ∧ Below W.heap.size W W' := fun hno => by
      refine inside_none W hL ao l.length c T (by omega) hbd i (fun W' h => ?_)
      refine (Longest_no l ao c W' (B.below h) F T i hno).mono ?_
      rintro e w' ⟨rfl, hb⟩
      exact ⟨rfl, hb⟩
    cases hp : patOf l with
    | none => exact no (Or.inl (by unfold mayL; rw [hp]; rfl))
    | some t =>
      obtain ⟨rfl, hg⟩ := patOf_some hp
      have hs := sets_nodes t 0 F
      by_cases hi : i < 0 ∨ (T.length : Int) < i
      · exact no (Or.inr hi)
      · obtain ⟨k, rfl⟩ : ∃ k : Nat, i = (k : Int) := ⟨i.toNat, by omega⟩
        have hk : k ≤ T.length := by omega
        cases hlg : longP T t k with
        | none =>
          refine inside_none W hL ao _ c T (by omega) hbd _ (fun W' h => ?_)
          refine (Longest_yes t hg hs ao c W' (B.below h) T (by omega) k hk _ hlg.symm).mono ?_
          rintro e w' ⟨rfl, hb⟩
          exact ⟨rfl, hb⟩
        | some cj =>
          obtain ⟨h1, j, h2, h3, h4, h5⟩ := long_inside hg hk hlg
          refine inside_some W hL ao _ c T (by omega) hbd k cj j h2 h3 h1 h4 (cnt t) h5 (fun W' h => ?_) (fun W' h => ?_)
          · refine (Longest_yes t hg hs ao c W' (B.below h) T (by omega) k hk _ hlg.symm).mono ?_
            rintro e w' ⟨rfl, hb⟩
            exact ⟨rfl, hb⟩
          · refine (groups_any ao c (t.nodes 0) W' (B.below h) F).mono ?_
            rintro e w' ⟨rfl, hb⟩
            refine ⟨?_, hb⟩
            unfold groupsL
            rw [hp]
end Go.Proofs.YtlicoffnjphphaaGreatDoor.Mt
