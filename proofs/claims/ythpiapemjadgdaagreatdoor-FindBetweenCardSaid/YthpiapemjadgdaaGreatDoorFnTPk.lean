/- FindLater: the walk. -/
import Derived.Test.YthpiapemjadgdaaGreatDoorFnFPk
namespace Go.Proofs.YthpiapemjadgdaaGreatDoor.Mt
open Go.RowKit Go.Shelf
open Go.Proofs.YthpiapemjadgdaaGreatDoor.Rx
open Go.Proofs.YthpiapemjadgdaaGreatDoor.Fn
set_option linter.unusedVariables false
set_option linter.unusedSimpArgs false
/-- A row is loaded, where it is guarded. -/
theorem load_row_g {P : Program} {w : World} {ops : Array Oper} {rest : List Oper} {o : Oper} {a : Act} {Q : Exit → Act → World → Prop} (hgd : Region.wanted o (yielded ops a.tmps) = true) (ty : TypeId) (x : Operand) (ho : o.op = .load ty x)
    (g : Nat) (hx : a.eval x = .pointer (some ⟨g, 0, none⟩)) (t : TypeId) (cs : Array Value) (fr : Nat × Nat) (d : TypeDesc) (hg : w.heap[g]? = some (.cells cs t fr))
    (hu : P.underlying ty = some d) (hd : (match d with | .struct _ | .array _ _ => true | _ => false) = true) (hi : (P.info? ty).map (·.size) = some cs.size)
    (h : wpList P ops Q rest (a.put o.dst (.agg cs)) w) : wpList P ops Q (o :: rest) a w := by
  refine wpList_step fun K hK => ?_
  rw [if_pos hgd]
  exact wp_load_row ty x ho g hx t cs fr d hg hu hd hi (hK _ _ h)
theorem caps_eql {N : Nat} (hN : N ≤ 999999999) {c d : Caps} (hc : CapsOk N c) (hd : CapsOk N d) (W : World) : (binOp .eql 27 (CV c) (CV d)).run Tryz.prog W = .ok (.bool (decide (c = d))) W := by
  rw [run_eql_struct, show (10000 : Nat) = 9998 + 2 from rfl, run_eq_caps Tryz.underlying27 hN hc hd]
  rfl
/-- What is found from a later place on. -/
theorem later_none {F : Nat → Option Caps} {N a b : Nat} (hab : a ≤ b) (h : firstF F N a = none) : firstF F N b = none := by
  cases hb : firstF F N b with
  | none => rfl
  | some c =>
    obtain ⟨k, h1, h2, h3, _⟩ := first_some hb
    rw [first_none h k (by omega) h2] at h3
    cases h3
theorem later_some {F : Nat → Option Caps} {N a b : Nat} {c : Caps} (hF : FOk N F) (hab : a ≤ b) (h : firstF F N a = some c) (hb : b ≤ from0 c) : firstF F N b = some c := by
  obtain ⟨h1, h2, h3, _, _, h4, h5⟩ := first_at hF h
  cases hq : firstF F N b with
  | none =>
    rw [first_none hq (from0 c) hb (by omega)] at h2
    cases h2
  | some d =>
    obtain ⟨k1, k2, k3, _⟩ := first_at hF hq
    have e : from0 d = from0 c := by
      rcases Nat.lt_trichotomy (from0 d) (from0 c) with q | q | q
      · rw [h3 _ (by omega) q] at k2; cases k2
      · exact q
      · rw [k3 _ hb q] at h2; cases h2
    rw [e, h2] at k2
    exact k2.symm
set_option maxRecDepth 100000 in
set_option maxHeartbeats 3200000 in
theorem later_core (hna : NoneOk) (W : World) (ao : Option Addr) (n cc : Nat) (T : List UInt8) (hT : T.length ≤ 100) (F : Nat → Option Caps) (hF : FOk T.length F) (x y : Nat) (hx : x < 256) (hy : y < 256)
    (hbd : ∀ W' : World, Calls Tryz.prog 12 #[.slice ao n cc, S T] W fun e w' => e = .returned (.bool true) ∧ W = w')
    (hsh : ∀ W' : World, Below W.heap.size W W' → Calls Tryz.prog 13 #[] W' fun e w' => e = .returned (.bool true) ∧ Below W'.heap.size W' w')
    (hlo : LongOk W (.slice ao n cc) T F) :
    Calls Tryz.prog 7 #[.slice ao n cc, S T, .int .u8 (x : Nat), .int .u8 (y : Nat)] W fun e W' => e = .returned (.bool true) ∧ Below W.heap.size W W' := by
  obtain ⟨k, hk⟩ : ∃ k, x % (T.length + 1) = k := ⟨_, rfl⟩
  obtain ⟨m, hm⟩ : ∃ m, y % 5 = m := ⟨_, rfl⟩
  obtain ⟨b, hb⟩ : ∃ b, k + m = b := ⟨_, rfl⟩
  have hkl : k ≤ T.length := by have := Nat.mod_lt x (by omega : 0 < T.length + 1); omega
  have hml : m < 5 := by omega
  have HB0 := Lib.hid (Below.refl W.heap.size W)
  have HBD := Lib.hid hbd
  have HSH := Lib.hid hsh
  have hFI := fun (i : Nat) (hi : i ≤ 1000) (W' : World) (hb : Below W.heap.size W W') => first_from hna (.slice ao n cc) T (by omega) F W' (hlo.below hb) (i : Nat) i (Or.inr rfl) (by omega) _ rfl
  have hFA := hFI k (by omega)
  have hFB := hFI b (by omega)
  have hw1 : IntKind.i64.wrap ((T.length : Int) + 1) = (T.length : Int) + 1 := by rw [IntKind.wrap_i64]; omega
  have hw2 : IntKind.i64.wrap (x : Int) = (x : Int) := by rw [IntKind.wrap_i64]; omega
  have hw3 : IntKind.i64.wrap (y : Int) = (y : Int) := by rw [IntKind.wrap_i64]; omega
  have hmd : ((x : Int)).tmod ((T.length : Int) + 1) = (k : Int) := by
    rw [Int.tmod_eq_emod_of_nonneg (by omega), ← hk]
    push_cast
    rfl
  have hmd5 : ((y : Int)).tmod 5 = (m : Int) := by
    rw [Int.tmod_eq_emod_of_nonneg (by omega), ← hm]
    push_cast
    rfl
  have hmw : IntKind.i64.wrap (k : Int) = (k : Int) := by rw [IntKind.wrap_i64]; omega
  have hmw5 : IntKind.i64.wrap (m : Int) = (m : Int) := by rw [IntKind.wrap_i64]; omega
  have hbw : IntKind.i64.wrap ((k : Int) + (m : Int)) = (b : Int) := by rw [IntKind.wrap_i64]; omega
  have hnz : ((T.length : Int) + 1 == 0) = false := by rw [beq_eq_false_iff_ne]; omega
  have hnz2 : ¬ ((T.length : Int) + 1 = 0) := by omega
  have hN9 : T.length ≤ 999999999 := by omega
  have hkb : k ≤ b := by omega
  cases hA : firstF F T.length k with
  | none =>
    rw [hA] at hFA
    rw [later_none hkb hA] at hFB
    have HFA := Lib.hid hFA
    have HFB := Lib.hid hFB
    clear hbd hsh hlo hT hF hna hFI hFA hFB hA hk hm hb hkl hml hx hy hkb hN9
    go_enter Tryz.func7, Tryz.ntmps7
    go_wp2_with (first
      | (go_at_call 12; refine (HBD.out W).mono ?_; rintro e w1 ⟨rfl, rfl⟩)
      | (go_at_call 13; refine (HSH.out _ HB0.out).mono ?_; rintro e w2 ⟨rfl, hb⟩; have HB1 := Lib.hid (HB0.out.trans (hb.mono HB0.out.size)); clear hb)
      | (go_at_call 14; refine (HFA.out _ HB1.out).mono ?_; clear HFA; rintro e w3 ⟨he, hb⟩; rw [show ansC none = .tuple #[CV nones, .bool false] from rfl] at he; subst he; have HB3 := Lib.hid (HB1.out.trans (hb.mono HB1.out.size)); clear hb)
      | (refine wpList_store_row rfl 27 (.tmp 11) (.tmp 40) rfl _ (CC nones) rfl rfl _ CZ (heap_alloc_new _ _) (by kernel_rfl) rfl (cc_one nones) ?_; simp only [Act.put, List.setIfInBounds_toArray, List.set_cons_zero, List.set_cons_succ]; rw [box_laid]; have HB4 := Lib.hid (HB3.out.alloc HB3.out.size (.cells (CC nones) 27)); generalize World.alloc _ _ = W4 at HB4 ⊢)
      | (go_at_call 14; refine (HFB.out _ HB4.out).mono ?_; clear HFB; rintro e w5 ⟨he, hb⟩; rw [show ansC none = .tuple #[CV nones, .bool false] from rfl] at he; subst he; have HB5 := Lib.hid (HB4.out.trans (hb.mono HB4.out.size)); clear hb)
      | (refine wpList_store_row rfl 27 (.tmp 13) (.tmp 47) rfl _ (CC nones) rfl rfl _ CZ (heap_alloc_new _ _) (by kernel_rfl) rfl (cc_one nones) ?_; simp only [Act.put, List.setIfInBounds_toArray, List.set_cons_zero, List.set_cons_succ]; rw [box_laid]; have HB6 := Lib.hid (HB5.out.alloc HB5.out.size (.cells (CC nones) 27)); generalize World.alloc _ _ = W6 at HB6 ⊢))
    go_ret
    exact ⟨rfl, HB6.out⟩
  | some c =>
    rw [hA] at hFA
    obtain ⟨g1, g2, g3, hcaps, hgr, g4, g5⟩ := first_at hF hA
    have hok : CapOk T.length (some (from0 c, to0 c)) := by rw [← hgr]; exact hcaps.at 0
    have HFR := Lib.hid (fun W => from_cap hN9 hok W)
    have HGR := Lib.hid hgr
    have HFA := Lib.hid hFA
    by_cases hlt : from0 c < b
    · obtain ⟨R, hR⟩ : ∃ R, firstF F T.length b = R := ⟨_, rfl⟩
      rw [hR] at hFB
      have HFB := Lib.hid hFB
      have hlt2 : (from0 c : Int) < (b : Int) := by omega
      clear hbd hsh hlo hT hF hna hFI hFA hFB hA hR hk hm hb hkl hml hx hy hkb hN9 hlt g1 g2 g3 hcaps hgr g4 g5 hok
      obtain ⟨d, hd⟩ : ∃ d, R.getD nones = d := ⟨_, rfl⟩
      obtain ⟨r, hr⟩ : ∃ r, R.isSome = r := ⟨_, rfl⟩
      have HD := Lib.hid (show ansC R = .tuple #[CV d, .bool r] from by rw [← hd, ← hr]; rfl)
      clear hd hr
      go_enter Tryz.func7, Tryz.ntmps7
      go_wp2_with (first
        | (go_at_call 12; refine (HBD.out W).mono ?_; rintro e w1 ⟨rfl, rfl⟩)
        | (go_at_call 13; refine (HSH.out _ HB0.out).mono ?_; rintro e w2 ⟨rfl, hb⟩; have HB1 := Lib.hid (HB0.out.trans (hb.mono HB0.out.size)); clear hb)
        | (go_at_call 14; refine (HFA.out _ HB1.out).mono ?_; clear HFA; rintro e w3 ⟨he, hb⟩; rw [show ansC (some c) = .tuple #[CV c, .bool true] from rfl] at he; subst he; have HB3 := Lib.hid (HB1.out.trans (hb.mono HB1.out.size)); clear hb)
        | (refine wpList_store_row rfl 27 (.tmp 11) (.tmp 40) rfl _ (CC c) rfl rfl _ CZ (heap_alloc_new _ _) (by kernel_rfl) rfl (cc_one c) ?_; simp only [Act.put, List.setIfInBounds_toArray, List.set_cons_zero, List.set_cons_succ]; rw [box_laid]; have HB4 := Lib.hid (HB3.out.alloc HB3.out.size (.cells (CC c) 27)); have HX4 := Lib.hid (heap_alloc_new w3 (.cells (CC c) 27)); generalize World.alloc _ _ = W4 at HB4 HX4 ⊢)
        | (go_at_call 14; refine (HFB.out _ HB4.out).mono ?_; clear HFB; rintro e w5 ⟨he, hb⟩; rw [HD.out] at he; subst he; have HB5 := Lib.hid (HB4.out.trans (hb.mono HB4.out.size)); have HX5 := Lib.hid ((hb.block _ (lt_heap' HX4.out)).trans HX4.out); clear hb)
        | (refine wpList_store_row rfl 27 (.tmp 13) (.tmp 47) rfl _ (CC d) rfl rfl _ CZ (heap_alloc_new _ _) (by kernel_rfl) rfl (cc_one d) ?_; simp only [Act.put, List.setIfInBounds_toArray, List.set_cons_zero, List.set_cons_succ]; rw [box_laid]; have hbb := (Below.refl w5.heap.size w5).alloc (Nat.le_refl _) (.cells (CC d) 27); have HB6 := Lib.hid (HB5.out.trans (hbb.mono HB5.out.size)); have hx6 := (hbb.block _ (lt_heap' HX5.out)).trans HX5.out; have cx := cap_cell hx6 (n := 0) (by decide); rw [HGR.out] at cx; clear hbb hx6; generalize World.alloc _ _ = W6 at HB6 cx ⊢)
        | (go_at_call 22; refine (HFR.out _).mono ?_; rintro e w7 ⟨rfl, rfl⟩))
      go_ret
      exact ⟨rfl, HB6.out⟩
    · rw [later_some hF hkb hA (by omega)] at hFB
      have HFB := Lib.hid hFB
      have hlt2 : ¬ (from0 c : Int) < (b : Int) := by omega
      have heq := fun (W : World) => caps_eql hN9 hcaps hcaps W
      simp only [decide_true] at heq
      clear hbd hsh hlo hT hF hna hFI hFA hFB hA hk hm hb hkl hml hx hy hkb hN9 hlt g1 g2 g3 hcaps hgr g4 g5 hok
      go_enter Tryz.func7, Tryz.ntmps7
      go_wp2_with (first
        | (go_at_call 12; refine (HBD.out W).mono ?_; rintro e w1 ⟨rfl, rfl⟩)
        | (go_at_call 13; refine (HSH.out _ HB0.out).mono ?_; rintro e w2 ⟨rfl, hb⟩; have HB1 := Lib.hid (HB0.out.trans (hb.mono HB0.out.size)); clear hb)
        | (go_at_call 14; refine (HFA.out _ HB1.out).mono ?_; clear HFA; rintro e w3 ⟨he, hb⟩; rw [show ansC (some c) = .tuple #[CV c, .bool true] from rfl] at he; subst he; have HB3 := Lib.hid (HB1.out.trans (hb.mono HB1.out.size)); clear hb)
        | (refine wpList_store_row rfl 27 (.tmp 11) (.tmp 40) rfl _ (CC c) rfl rfl _ CZ (heap_alloc_new _ _) (by kernel_rfl) rfl (cc_one c) ?_; simp only [Act.put, List.setIfInBounds_toArray, List.set_cons_zero, List.set_cons_succ]; rw [box_laid]; have HB4 := Lib.hid (HB3.out.alloc HB3.out.size (.cells (CC c) 27)); have HX4 := Lib.hid (heap_alloc_new w3 (.cells (CC c) 27)); generalize World.alloc _ _ = W4 at HB4 HX4 ⊢)
        | (go_at_call 14; refine (HFB.out _ HB4.out).mono ?_; clear HFB; rintro e w5 ⟨he, hb⟩; rw [show ansC (some c) = .tuple #[CV c, .bool true] from rfl] at he; subst he; have HB5 := Lib.hid (HB4.out.trans (hb.mono HB4.out.size)); have HX5 := Lib.hid ((hb.block _ (lt_heap' HX4.out)).trans HX4.out); clear hb)
        | (refine wpList_store_row rfl 27 (.tmp 13) (.tmp 47) rfl _ (CC c) rfl rfl _ CZ (heap_alloc_new _ _) (by kernel_rfl) rfl (cc_one c) ?_; simp only [Act.put, List.setIfInBounds_toArray, List.set_cons_zero, List.set_cons_succ]; rw [box_laid]; have hbb := (Below.refl w5.heap.size w5).alloc (Nat.le_refl _) (.cells (CC c) 27); have HB6 := Lib.hid (HB5.out.trans (hbb.mono HB5.out.size)); have HX6 := Lib.hid ((hbb.block _ (lt_heap' HX5.out)).trans HX5.out); have HY6 := Lib.hid (heap_alloc_new w5 (.cells (CC c) 27)); clear hbb; generalize World.alloc _ _ = W6 at HB6 HX6 HY6 ⊢; have cx := cap_cell HX6.out (n := 0) (by decide); rw [HGR.out] at cx)
        | (go_at_call 22; refine (HFR.out _).mono ?_; rintro e w7 ⟨rfl, rfl⟩)
        | (refine load_row_g (by rfl) 27 (.tmp 11) rfl w3.heap.size rfl _ (CC c) (0, 0) _ HX6.out Tryz.underlying27 rfl (by kernel_rfl) ?_; simp only [Act.put, List.setIfInBounds_toArray, List.set_cons_zero, List.set_cons_succ])
        | (refine load_row_g (by rfl) 27 (.tmp 13) rfl w5.heap.size rfl _ (CC c) (0, 0) _ HY6.out Tryz.underlying27 rfl (by kernel_rfl) ?_; simp only [Act.put, List.setIfInBounds_toArray, List.set_cons_zero, List.set_cons_succ]))
      go_ret
      exact ⟨rfl, HB6.out⟩
end Go.Proofs.YthpiapemjadgdaaGreatDoor.Mt
