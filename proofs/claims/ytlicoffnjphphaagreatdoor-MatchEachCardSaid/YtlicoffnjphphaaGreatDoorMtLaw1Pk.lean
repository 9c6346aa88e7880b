/- MatchEach: the walk. -/
import Derived.Test.YtlicoffnjphphaaGreatDoorPk29
namespace Go.Proofs.YtlicoffnjphphaaGreatDoor.Mt
open Go.RowKit Go.Shelf
open Go.Proofs.YtlicoffnjphphaaGreatDoor.Rx
open Go.Proofs.YtlicoffnjphphaaGreatDoor.Rx.Tr
open Go.Proofs.YtlicoffnjphphaaGreatDoor.St (Wf word mem SV SV_eq ofL wf_ofL bytesL)
set_option linter.unusedVariables false
set_option linter.unusedSimpArgs false
set_option maxRecDepth 100000 in
set_option maxHeartbeats 3200000 in
theorem each_core (W : World) (hL : Lay W) (ao : Option Addr) (c : Nat) (n : Nat) (T : List UInt8) (hT : T.length ≤ 100) (x k : Nat) (hx : x < 256) (hk : x % (T.length + 1) = k) (q : Nat → Bool) (le : List Nat) (hle : le = qs q (T.length + 1))
    (hbd : ∀ W' : World, Calls Tryz.prog 9 #[.slice ao n c, S T] W fun e w' => e = .returned (.bool true) ∧ W = w')
    (hwh : ∀ (W' : World) (j : Nat), Below W.heap.size W W' → j ≤ T.length → Calls Tryz.prog 17 #[.slice ao n c, S T, E (k : Nat), E (j : Nat)] W' fun e w' => (∃ cj, e = .returned (.tuple #[CV cj, .bool (q j)])) ∧ Below W'.heap.size W' w')
    (hen : ∀ (W' : World), Below W.heap.size W W' → Calls Tryz.prog 15 #[.slice ao n c, S T, E (k : Nat)] W' (EndsAns W' le))
    (hlo : ∀ (W' : World), Below W.heap.size W W' → Calls Tryz.prog 11 #[.slice ao n c, S T, E (k : Nat)] W' fun e w' => (∃ cj, e = .returned (.tuple #[CV cj, .bool (decide (0 < le.length))]) ∧ (0 < le.length → ∃ j, k ≤ j ∧ j ≤ T.length ∧ gr cj 0 = some (k, j) ∧ le[le.length - 1]? = some j)) ∧ Below W'.heap.size W' w') :
    Calls Tryz.prog 5 #[.slice ao n c, S T, .int .u8 (x : Nat)] W fun e W' => e = .returned (.bool true) ∧ Below W.heap.size W W' := by
  have HB0 := Lib.hid (Below.refl W.heap.size W)
  have HBD := Lib.hid hbd
  have HSH := Lib.hid (fun (W' : World) (hb : Below W.heap.size W W') => mshown_any W' (hL.below hb))
  have HWH := Lib.hid hwh
  have HEN := Lib.hid hen
  have HLO := Lib.hid hlo
  have HLE := Lib.hid hle
  have HT := Lib.hid hT
  have HLL := Lib.hid (show le.length ≤ T.length + 1 from by rw [hle]; exact qs_len _ _)
  have hkl : k ≤ T.length := by have := Nat.mod_lt x (by omega : 0 < T.length + 1); omega
  have HK := Lib.hid hkl
  have hw1 : IntKind.i64.wrap ((T.length : Int) + 1) = (T.length : Int) + 1 := by rw [IntKind.wrap_i64]; omega
  have hw2 : IntKind.i64.wrap (x : Int) = (x : Int) := by rw [IntKind.wrap_i64]; omega
  have hmd : ((x : Int)).tmod ((T.length : Int) + 1) = (k : Int) := by
    rw [Int.tmod_eq_emod_of_nonneg (by omega), ← hk]
    push_cast
    rfl
  have hmw : IntKind.i64.wrap (k : Int) = (k : Int) := by rw [IntKind.wrap_i64]; omega
  have hnz : ((T.length : Int) + 1 == 0) = false := by rw [beq_eq_false_iff_ne]; omega
  have hnz2 : ¬ ((T.length : Int) + 1 = 0) := by omega
  clear hbd hL hwh hen hlo hle hT hk hx hkl
  go_enter Tryz.func5, Tryz.ntmps5
  rw [show Code.region 10 = Fz 10 from rfl]
  rw [show Code.region 16 = Fz 16 from rfl]
  go_wp2_with (first
    | (go_at_call 9; refine (HBD.out W).mono ?_; rintro e w1 ⟨rfl, rfl⟩)
    | (go_at_call 10; refine (HSH.out _ HB0.out).mono ?_; rintro e w2 ⟨rfl, hb⟩; have HB1 := Lib.hid (HB0.out.trans (hb.mono HB0.out.size)); clear hb)
    | (go_at_call 15; refine (HEN.out _ HB1.out).mono ?_; rintro e we ⟨v, B, rfl, hB, ho, hb⟩; obtain ⟨ae, cap, rfl, hcap, hcl⟩ := ints_form ho; have HEC := Lib.hid hcl; have HBE := Lib.hid (HB1.out.trans (hb.mono HB1.out.size)); clear hb hcl ho hB))
  clear hw2 hmd hmw hnz hnz2
  go_loopg [9, 10] (T.length + 1) (fun m av jv wr => ∃ j, m = T.length + 1 - j ∧ j ≤ T.length + 1 ∧ av = .int .i64 ((qs q j).length : Nat) ∧ jv = .int .i64 (j : Nat) ∧ Hid (Below W.heap.size W wr) ∧ Hid (Below we.heap.size we wr))
  case atStart => exact ⟨0, rfl, by omega, rfl, rfl, HBE, Lib.hid (Below.refl _ _)⟩
  case round =>
    clear HBE
    obtain ⟨j, hm, hj, rfl, rfl, HR, HS⟩ := hrel
    subst hm
    have HQL := Lib.hid (qs_len q j)
    by_cases hlt : j ≤ T.length
    · have hle : (j : Int) ≤ (T.length : Int) := by omega
      have hwj : IntKind.i64.wrap ((j : Int) + 1) = (j : Int) + 1 := by rw [IntKind.wrap_i64]; have := HT.out; omega
      have HJ := Lib.hid hlt
      have HNX := Lib.hid (qs_next q j)
      cases hq : q j with
      | true =>
        have hat := qs_at (q := q) (j := j) (n := T.length + 1) (by omega) hq
        rw [← HLE.out] at hat
        rw [hq] at HNX
        obtain ⟨aj, haj⟩ : ∃ aj, (qs q j).length = aj := ⟨_, rfl⟩
        have HAJ := Lib.hid haj
        rw [haj] at hat
        rw [haj]
        obtain ⟨hal, hae⟩ := List.getElem?_eq_some_iff.1 hat
        obtain ⟨g, rfl, hcl⟩ := HEC.out aj hal
        rw [hae] at hcl
        have HCL := Lib.hid hcl
        have hlen : (aj : Int) < (le.length : Int) := by omega
        have ha0 : (0 : Int) ≤ (aj : Int) := by omega
        have hwa : IntKind.i64.wrap ((aj : Int) + 1) = (aj : Int) + 1 := by rw [IntKind.wrap_i64]; have := HT.out; have := HQL.out; omega
        clear hlt hat haj hcl hal hae hj
        go_wp2_with (first
          | (go_at_call 17; have hq2 := HWH.out _ j HR.out HJ.out; rw [hq] at hq2; refine hq2.mono ?_; clear hq2; rintro e w3 ⟨⟨cj, rfl⟩, hb⟩; have HR3 := Lib.hid (HR.out.trans (hb.mono HR.out.size)); have HS3 := Lib.hid (HS.out.trans (hb.mono HS.out.size)); clear hb)
          | (refine wpList_store_row rfl 27 (.tmp 11) (.tmp 47) rfl _ (CC cj) rfl rfl _ CZ (heap_alloc_new _ _) (by kernel_rfl) rfl (cc_one cj) ?_; simp only [Act.put, List.setIfInBounds_toArray, List.set_cons_zero, List.set_cons_succ]; rw [box_laid]; have HR4 := Lib.hid (HR3.out.alloc HR3.out.size (.cells (CC cj) 27)); have HS4 := Lib.hid (HS3.out.alloc HS3.out.size (.cells (CC cj) 27)); clear HR3 HS3 HR HS; generalize World.alloc _ _ = W4 at HR4 HS4 ⊢))
        have hcl := Below.cellB HS4.out HCL.out
        rw [show Fz 10 = Code.region 10 from rfl]
        go_wp2
        go_roundg (T.length - j)
        case measure => have := HJ.out; omega
        case rel => exact ⟨j + 1, by omega, by have := HJ.out; omega, by rw [HNX.out]; simp [HAJ.out], by go_num, HR4, HS4⟩
      | false =>
        have hat := qs_not (q := q) (j := j) (n := T.length + 1) (by omega) hq
        rw [← HLE.out] at hat
        rw [hq] at HNX
        obtain ⟨aj, haj⟩ : ∃ aj, (qs q j).length = aj := ⟨_, rfl⟩
        have HAJ := Lib.hid haj
        rw [haj] at hat
        rw [haj]
        by_cases hal : aj < le.length
        · obtain ⟨g, rfl, hcl⟩ := HEC.out aj hal
          have hne : ((le[aj] : Nat) : Int) ≠ (j : Int) := by
            intro e
            apply hat
            rw [List.getElem?_eq_getElem hal]
            congr 1
            omega
          generalize le[aj] = y at *
          have HCL := Lib.hid hcl
          have hlen : (aj : Int) < (le.length : Int) := by omega
          have ha0 : (0 : Int) ≤ (aj : Int) := by omega
          have hne2 : ((y : Int) == (j : Int)) = false := by rw [beq_eq_false_iff_ne]; exact hne
          clear hlt hat haj hcl hal hj hne
          go_wp2_with (first
            | (go_at_call 17; have hq2 := HWH.out _ j HR.out HJ.out; rw [hq] at hq2; refine hq2.mono ?_; clear hq2; rintro e w3 ⟨⟨cj, rfl⟩, hb⟩; have HR3 := Lib.hid (HR.out.trans (hb.mono HR.out.size)); have HS3 := Lib.hid (HS.out.trans (hb.mono HS.out.size)); clear hb)
            | (refine wpList_store_row rfl 27 (.tmp 11) (.tmp 47) rfl _ (CC cj) rfl rfl _ CZ (heap_alloc_new _ _) (by kernel_rfl) rfl (cc_one cj) ?_; simp only [Act.put, List.setIfInBounds_toArray, List.set_cons_zero, List.set_cons_succ]; rw [box_laid]; have HR4 := Lib.hid (HR3.out.alloc HR3.out.size (.cells (CC cj) 27)); have HS4 := Lib.hid (HS3.out.alloc HS3.out.size (.cells (CC cj) 27)); clear HR3 HS3 HR HS; generalize World.alloc _ _ = W4 at HR4 HS4 ⊢))
          have hcl := Below.cellB HS4.out HCL.out
          rw [show Fz 10 = Code.region 10 from rfl]
          go_wp2
          go_roundg (T.length - j)
          case measure => have := HJ.out; omega
          case rel => exact ⟨j + 1, by omega, by have := HJ.out; omega, by rw [HNX.out]; simp [HAJ.out], by go_num, HR4, HS4⟩
        · have hlen : ¬ (aj : Int) < (le.length : Int) := by omega
          clear hlt hat haj hal hj
          go_wp2_with (first
            | (go_at_call 17; have hq2 := HWH.out _ j HR.out HJ.out; rw [hq] at hq2; refine hq2.mono ?_; clear hq2; rintro e w3 ⟨⟨cj, rfl⟩, hb⟩; have HR3 := Lib.hid (HR.out.trans (hb.mono HR.out.size)); have HS3 := Lib.hid (HS.out.trans (hb.mono HS.out.size)); clear hb)
            | (refine wpList_store_row rfl 27 (.tmp 11) (.tmp 47) rfl _ (CC cj) rfl rfl _ CZ (heap_alloc_new _ _) (by kernel_rfl) rfl (cc_one cj) ?_; simp only [Act.put, List.setIfInBounds_toArray, List.set_cons_zero, List.set_cons_succ]; rw [box_laid]; have HR4 := Lib.hid (HR3.out.alloc HR3.out.size (.cells (CC cj) 27)); have HS4 := Lib.hid (HS3.out.alloc HS3.out.size (.cells (CC cj) 27)); clear HR3 HS3 HR HS; generalize World.alloc _ _ = W4 at HR4 HS4 ⊢))
          rw [show Fz 10 = Code.region 10 from rfl]
          go_wp2
          go_roundg (T.length - j)
          case measure => have := HJ.out; omega
          case rel => exact ⟨j + 1, by omega, by have := HJ.out; omega, by rw [HNX.out]; simp [HAJ.out], by go_num, HR4, HS4⟩
    · have hle : ¬ (j : Int) ≤ (T.length : Int) := by omega
      have HAJ := Lib.hid (show (qs q j).length = le.length from by rw [HLE.out, show j = T.length + 1 by omega])
      rw [HAJ.out]
      clear hlt hj
      have hee : ((le.length : Int) == (le.length : Int)) = true := by simp
      go_wp2_with (first
        | (go_at_call 11; refine (HLO.out _ HR.out).mono ?_; rintro e w5 ⟨⟨cj, rfl, hcj⟩, hb⟩; have HCJ := Lib.hid hcj; have HR5 := Lib.hid (HR.out.trans (hb.mono HR.out.size)); have HS5 := Lib.hid (HS.out.trans (hb.mono HS.out.size)); clear hb hcj)
        | (refine wpList_store_row rfl 27 (.tmp 14) (.tmp 72) rfl _ (CC cj) rfl rfl _ CZ (heap_alloc_new _ _) (by kernel_rfl) rfl (cc_one cj) ?_; simp only [Act.put, List.setIfInBounds_toArray, List.set_cons_zero, List.set_cons_succ]; rw [box_laid]; have HX := Lib.hid (heap_alloc_new w5 (.cells (CC cj) 27)); have HR6 := Lib.hid (HR5.out.alloc HR5.out.size (.cells (CC cj) 27)); have HS6 := Lib.hid (HS5.out.alloc HS5.out.size (.cells (CC cj) 27)); clear HR5 HS5 HR HS; generalize World.alloc _ _ = W6 at HX HR6 HS6 ⊢))
      rw [show Fz 16 = Code.region 16 from rfl]
      have HRd := Lib.hid HR6.out.drew
      by_cases hl0 : le.length = 0
      · have hz : ((le.length : Int) == 0) = true := by rw [hl0]; rfl
        have hzl : ¬ (0 : Int) < (le.length : Int) := by omega
        have hzd : decide (0 < le.length) = false := decide_eq_false (by omega)
        refine wp_region_noPanic ?_
        refine wp_region_held_drew (S := fun w' => True) (by kernel_rfl) trivial (fun hHeld => ?_)
        generalize World.drew _ = W7 at HRd hHeld ⊢
        refine Tk.take 0 (h := ?_)
        refine Tk.take 1 (h := ?_)
        refine Tk.take 2 (h := ?_)
        refine Tk.take 3 (h := ?_)
        refine Tk.take 4 (h := ?_)
        refine Tk.take 5 (h := ?_)
        refine Tk.take 6 (h := ?_)
        refine Tk.take 7 (h := ?_)
        refine Tk.take 8 (h := ?_)
        refine Tk.take 9 (h := ?_)
        refine Tk.take 10 (h := ?_)
        refine Tk.take 11 (h := ?_)
        refine Tk.take 12 (h := ?_)
        refine Tk.take 13 (h := ?_)
        refine Tk.pass 14 (h := ?_)
        refine Tk.pass 15 (h := ?_)
        refine Tk.pass 16 (h := ?_)
        refine Tk.pass 17 (h := ?_)
        refine Tk.pass 18 (h := ?_)
        refine Tk.pass 19 (h := ?_)
        refine Tk.pass 20 (h := ?_)
        refine Tk.pass 21 (h := ?_)
        refine Tk.pass 22 (h := ?_)
        refine Tk.take 23 (h := ?_)
        refine Tk.take 24 (h := ?_)
        refine Tk.take 25 (h := ?_)
        refine wpAnyH_done (by kernel_rfl) ?_ _
        refine NoPanic.normal ?_
        go_wp2
        go_ret
        exact ⟨rfl, HRd.out⟩
      · obtain ⟨jl, hk1, hk2, hg0, hlast⟩ := HCJ.out (by omega)
        obtain ⟨hal, hae⟩ := List.getElem?_eq_some_iff.1 hlast
        obtain ⟨g, rfl, hcl⟩ := HEC.out (le.length - 1) hal
        rw [hae] at hcl
        have hcl6 := Below.cellB HS6.out hcl
        have hx6 := cap_cell HX.out (n := 0) (by decide)
        have HCD := Lib.hid (And.intro hcl6 hx6)
        have HTO := Lib.hid (fun W => to_cap (N := T.length) (by have := HT.out; omega) (show CapOk T.length (some (k, jl)) from ⟨hk1, hk2⟩) W)
        rw [← hg0] at HTO
        obtain ⟨lz, hlz⟩ : ∃ lz, le.length - 1 = lz := ⟨_, rfl⟩
        rw [hlz] at HCD
        have hz : ((le.length : Int) == 0) = false := by rw [beq_eq_false_iff_ne]; omega
        have hzl : (0 : Int) < (le.length : Int) := by omega
        have hzd : decide (0 < le.length) = true := decide_eq_true (by omega)
        have hwz : IntKind.i64.wrap ((le.length : Int) - 1) = (lz : Int) := by rw [IntKind.wrap_i64]; have := HLL.out; have := HT.out; omega
        have hz0 : (0 : Int) ≤ (lz : Int) := by omega
        have hz1 : (lz : Int) < (le.length : Int) := by omega
        clear hl0 hk1 hk2 hg0 hlast hal hae hcl hcl6 hx6 hlz
        refine wp_region_noPanic ?_
        refine wp_region_held_drew (S := fun w' => w'.cell? ⟨g, lz, none⟩ = some (E (jl : Nat)) ∧ w'.cell? ⟨w5.heap.size, 0, none⟩ = some (capV (gr cj 0))) (by kernel_rfl) ?_ (fun hHeld => ?_)
        · (try dsimp only); exact HCD.out
        have HCD7 := Lib.hid (show (World.drew _).cell? ⟨g, lz, none⟩ = some (E (jl : Nat)) ∧ (World.drew _).cell? ⟨w5.heap.size, 0, none⟩ = some (capV (gr cj 0)) from HCD.out)
        clear HCD
        generalize World.drew _ = W7 at HRd HCD7 hHeld ⊢
        refine Tk.take 0 (h := ?_)
        refine Tk.take 1 (h := ?_)
        refine Tk.take 2 (h := ?_)
        refine Tk.take 3 (h := ?_)
        refine Tk.take 4 (h := ?_)
        refine Tk.take 5 (h := ?_)
        refine Tk.take 6 (h := ?_)
        refine Tk.take 7 (h := ?_)
        refine Tk.take 8 (h := ?_)
        refine Tk.take 9 (h := ?_)
        refine Tk.take 10 (h := ?_)
        refine Tk.take 11 (h := ?_)
        refine Tk.take 12 (h := ?_)
        refine Tk.take 13 (h := ?_)
        refine Tk.take 14 (h := ?_)
        refine Tk.take 15 (hy := by (intro wv hSw; (try dsimp only at hSw); obtain ⟨p0, p1⟩ := hSw; go_simp) <;> with_reducible rfl) (h := ?_)
        refine Tk.take 17 (h := ?_)
        refine Tk.take 18 (h := ?_)
        refine Tk.take 19 (h := ?_)
        refine Tk.take 20 (h := ?_)
        refine Tk.take 21 (hy := by (intro wv hSw; (try dsimp only at hSw); obtain ⟨p0, p1⟩ := hSw; go_simp) <;> with_reducible rfl) (h := ?_)
        refine Tk.one 16 (h := fun K hK => ?_)
        go_simp
        (go_at_call 23; refine (HTO.out W7).mono ?_; rintro e w6 ⟨rfl, rfl⟩)
        refine hK.out _ _ ?_ (fun hHeld => Tk.wrk ?_)
        · (try dsimp only); (exact HCD7.out)
        clear hK K
        refine Tk.take 22 (h := ?_)
        refine Tk.take 23 (h := ?_)
        refine Tk.take 24 (h := ?_)
        refine Tk.take 25 (h := ?_)
        refine wpAnyH_done (by kernel_rfl) ?_ _
        refine NoPanic.normal ?_
        go_wp2
        go_ret
        exact ⟨rfl, HRd.out⟩
set_option maxRecDepth 100000 in
set_option maxHeartbeats 3200000 in
theorem MatchEach_skip (W : World) (hL : Lay W) (ao : Option Addr) (c n : Nat) (T : List UInt8) (x : Nat)
    (hbd : ∀ W' : World, Calls Tryz.prog 9 #[.slice ao n c, S T] W fun e w' => e = .returned (.bool false) ∧ W = w') :
    Calls Tryz.prog 5 #[.slice ao n c, S T, .int .u8 (x : Nat)] W fun e W' => e = .returned (.bool true) ∧ Below W.heap.size W W' := by
  have HB0 := Lib.hid (Below.refl W.heap.size W)
  have HBD := Lib.hid hbd
  have HSH := Lib.hid (fun (W' : World) (hb : Below W.heap.size W W') => mshown_any W' (hL.below hb))
  clear hbd hL
  go_enter Tryz.func5, Tryz.ntmps5
  go_wp2_with (first
    | (go_at_call 9; refine (HBD.out W).mono ?_; rintro e w1 ⟨rfl, rfl⟩)
    | (go_at_call 10; refine (HSH.out _ HB0.out).mono ?_; rintro e w2 ⟨rfl, hb⟩; have HB1 := Lib.hid (HB0.out.trans (hb.mono HB0.out.size)); clear hb))
  go_ret
  exact ⟨rfl, HB1.out⟩
theorem matchEach_walk (W : World) (hL : Lay W) (ao : Option Addr) (c : Nat) (l : List Nd) (m : l.length ≤ maxLen) (B : Ns W (.slice ao l.length c) l) (F : ∀ n ∈ l, Wf n.s) (a1 : ByteArray) (w1 : a1.size ≤ maxLen) (a2 : Int) (w2 : (Lit.int .u8 a2).wf = true) :
    Calls Tryz.prog 5 #[.slice ao l.length c, .string a1, .int .u8 a2] W fun e W' => e = .returned (.bool true) ∧ Below W.heap.size W W' := by
  obtain ⟨x, rfl, hx⟩ := u8_nat w2
  obtain ⟨T, rfl⟩ : ∃ T : List UInt8, a1 = ⟨T.toArray⟩ := ⟨a1.data.toList, (Lib.mk_data a1).symm⟩
  cases hb : boundedL 24 9 6 l T.length with
  | false => exact MatchEach_skip W hL ao c l.length T x fun W' => bounded_any ao c l W B m T false hb.symm
  | true =>
    obtain ⟨hl, hT⟩ := bounded_len hb
    have hbd := fun W' : World => bounded_any ao c l W B m T true hb.symm
    have hkl : x % (T.length + 1) ≤ T.length := by have := Nat.mod_lt x (by omega : 0 < T.length + 1); omega
    have hwh := fun (W' : World) (j : Nat) (h : Below W.heap.size W W') (hj : j ≤ T.length) => whole_row (B.below h) F (T := T) (by omega) (x % (T.length + 1)) j hj
    cases hp : patOf l with
    | none =>
      rw [hp] at hwh
      have hm : mayL l = false := by unfold mayL; rw [hp]; rfl
      refine each_core W hL ao c l.length T (by omega) x _ hx rfl (fun _ => false) [] (qs_none _).symm hbd hwh (fun W' h => ?_) (fun W' h => ?_)
      · exact Ends_no l ao c W' (B.below h) F T _ (Or.inl hm)
      · refine (Longest_no l ao c W' (B.below h) F T _ (Or.inl hm)).mono ?_
        rintro e w' ⟨rfl, hb⟩
        exact ⟨⟨nones, rfl, fun q => absurd q (by simp)⟩, hb⟩
    | some t =>
      rw [hp] at hwh
      obtain ⟨rfl, hg⟩ := patOf_some hp
      have hs := sets_nodes t 0 F
      refine each_core W hL ao c (t.nodes 0).length T (by omega) x _ hx rfl _ _ (ends_qs T t (x % (T.length + 1)) (T.length + 1)) hbd hwh (fun W' h => Ends_yes t hg hs ao c W' (B.below h) T (by omega) _ hkl) (fun W' h => ?_)
      refine (Longest_yes t hg hs ao c W' (B.below h) T (by omega) _ hkl _ rfl).mono ?_
      rintro e w' ⟨rfl, hb⟩
      refine ⟨?_, hb⟩
      have hll := long_last (T := T) (t := t) hkl
      rw [ends_qs]
      cases hlg : longP T t (x % (T.length + 1)) with
      | none =>
        rw [hlg] at hll
        dsimp only at hll
        rw [hll]
        exact ⟨nones, rfl, fun q => absurd q (by simp)⟩
      | some cj =>
        rw [hlg] at hll
        dsimp only at hll
        obtain ⟨_, jl, h1, h2, h3, h4, h5⟩ := hll
        exact ⟨cj, by rw [decide_eq_true h4]; rfl, fun _ => ⟨jl, h1, h2, h3, h5⟩⟩
end Go.Proofs.YtlicoffnjphphaaGreatDoor.Mt
