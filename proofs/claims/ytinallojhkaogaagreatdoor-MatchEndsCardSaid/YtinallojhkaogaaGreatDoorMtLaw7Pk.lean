/- MatchEnds: the walk. -/
import Derived.Test.YtinallojhkaogaaGreatDoorGk06
import Derived.Test.YtinallojhkaogaaGreatDoorGk14
import Derived.Test.YtinallojhkaogaaGreatDoorGk21
import Derived.Test.YtinallojhkaogaaGreatDoorGk33
import Derived.Test.YtinallojhkaogaaGreatDoorGk34
import Derived.Test.YtinallojhkaogaaGreatDoorGk40
set_option maxHeartbeats 6400000
set_option maxRecDepth 100000
namespace Go.Proofs.YtinallojhkaogaaGreatDoor.Mt
open Go.RowKit Go.Shelf
open Go.Proofs.YtinallojhkaogaaGreatDoor.Rx
open Go.Proofs.YtinallojhkaogaaGreatDoor.Rx.Tr
open Go.Proofs.YtinallojhkaogaaGreatDoor.St (Wf word mem SV SV_eq ofL wf_ofL bytesL)
set_option linter.unusedVariables false
set_option linter.unusedSimpArgs false
theorem MatchEnds_skip (W : World) (hL : Lay W) (ao : Option Addr) (c n : Nat) (T : List UInt8) (x : Int)
    (hbd : ∀ W' : World, Calls Tryz.prog 14 #[.slice ao n c, S T] W fun e w' => e = .returned (.bool false) ∧ W = w') :
    Calls Tryz.prog 4 #[.slice ao n c, S T, E x] W fun e W' => e = .returned (.bool true) ∧ Below W.heap.size W W' := by
  have HB0 := Lib.hid (Below.refl W.heap.size W);have HBD := Lib.hid hbd;have HSH := Lib.hid (fun (W' : World) (hb : Below W.heap.size W W') => mshown_any W' (hL.below hb));clear hbd hL;go_enter Tryz.func4, Tryz.ntmps4;go_wp2_with (first
    | (go_at_call 14; refine (HBD.out W).mono ?_; rintro e w1 ⟨rfl, rfl⟩)
    | (go_at_call 15; refine (HSH.out _ HB0.out).mono ?_; rintro e w2 ⟨rfl, hb⟩; have HB1 := Lib.hid (HB0.out.trans (hb.mono HB0.out.size)); clear hb))
  go_ret;exact ⟨rfl, HB1.out⟩
theorem MatchEnds_core (W : World) (hL : Lay W) (hTo : ToldOk) (ao : Option Addr) (c : Nat) (l : List Nd) (hl : l.length ≤ 1000) (B : Ns W (.slice ao l.length c) l) (F : ∀ n ∈ l, Wf n.s) (T : List UInt8) (hT : T.length ≤ 100) (x : Int)
    (hbd : ∀ W' : World, Calls Tryz.prog 14 #[.slice ao l.length c, S T] W fun e w' => e = .returned (.bool true) ∧ W = w') :
    Calls Tryz.prog 4 #[.slice ao l.length c, S T, E x] W fun e W' => e = .returned (.bool true) ∧ Below W.heap.size W W' := by
  obtain ⟨R, hR⟩ : ∃ R, R = longL l T x := ⟨_, rfl⟩;(have hok : CapsOk T.length (R.getD nones) := by rw [hR]; exact longL_ok l T x);have HB0 := Lib.hid (Below.refl W.heap.size W);have HBD := Lib.hid hbd;have HSH := Lib.hid (fun (W' : World) (hb : Below W.heap.size W W') => mshown_any W' (hL.below hb));have HFI := Lib.hid (fun (W' : World) (hb : Below W.heap.size W W') => mLongest_any l F T (by omega) ao c W' (B.below hb) x R hR);have HIT := Lib.hid (fun (W' : World) (hb : Below W.heap.size W W') => (its6_any ao c l W' (B.below hb) (by omega)).mono (R' := fun e w' => ∃ a2 c2, e = .returned (.slice a2 l.length c2) ∧ Ns w' (.slice a2 l.length c2) l ∧ Below W'.heap.size W' w') (by
    rintro e w' ⟨v, rfl, ho, hb'⟩;have hn := own_nsR ho;obtain ⟨a2, c2, rfl, _⟩ := id hn;exact ⟨a2, c2, rfl, hn, hb'⟩))
  have HRF := Lib.hid (fun (a2 : Option Addr) (c2 : Nat) (W' : World) (hN : Ns W' (.slice a2 l.length c2) l) => rLongest_any l F hTo T hT a2 c2 W' hN x R hR);have HTL := Lib.hid hT;obtain ⟨le, hle⟩ : ∃ le, le = qs (qL l T x) (T.length + 1) := ⟨_, rfl⟩;have HEN := Lib.hid (fun (W' : World) (hb : Below W.heap.size W W') => mEnds_any l F T (by omega) ao c W' (B.below hb) x le hle);have HRE := Lib.hid (fun (a2 : Option Addr) (c2 : Nat) (W' : World) (hN : Ns W' (.slice a2 l.length c2) l) => rEnds_any l F hTo T hT a2 c2 W' hN x le hle);have HLE := Lib.hid (show le.length ≤ 1000 from by rw [hle]; have := qs_len (qL l T x) (T.length + 1); omega);clear hle;have heq := (fun W' => caps_same2 Tryz.underlying34 (by omega : T.length ≤ 999999999) hok W');clear hbd hL hTo hl B F hT hR;generalize l.length = n at *;obtain ⟨C, hC⟩ : ∃ C, R.getD nones = C := ⟨_, rfl⟩;obtain ⟨is, his⟩ : ∃ is, R.isSome = is := ⟨_, rfl⟩;rw [hC] at heq hok;have HCR := Lib.hid (And.intro hC his);clear hC his;go_enter Tryz.func4, Tryz.ntmps4;go_wp2_with (first
    | (go_at_call 14; refine (HBD.out W).mono ?_; rintro e w1 ⟨rfl, rfl⟩; clear HBD)
    | (go_at_call 15; refine (HSH.out _ HB0.out).mono ?_; rintro e w2 ⟨rfl, hb⟩; have HB1 := Lib.hid (HB0.out.trans (hb.mono HB0.out.size)); clear hb)
    | (go_at_call 16; refine (HFI.out _ HB1.out).mono ?_; rintro e w3 ⟨he, hb⟩; obtain rfl : e = .returned (.tuple #[CV C, .bool is]) := by rw [he]; unfold ansC; rw [HCR.out.1, HCR.out.2]
       have HB3 := Lib.hid (HB1.out.trans (hb.mono HB1.out.size)); clear hb he)
    | (refine wpList_store_row rfl 34 (.tmp 7) (.tmp 25) rfl _ (CC C) rfl rfl _ CZ (heap_alloc_new _ _) (by kernel_rfl) rfl (cc_one _) ?_; simp only [Act.put, List.setIfInBounds_toArray, List.set_cons_zero, List.set_cons_succ]; rw [box_laid]; have HX4 := Lib.hid (heap_alloc_new w3 (.cells (CC C) 34)); have HB4 := Lib.hid (HB3.out.alloc HB3.out.size (.cells (CC C) 34)); clear HB3; generalize hgA : w3.heap.size = gA at HX4 ⊢; generalize World.alloc _ _ = W4 at HX4 HB4 ⊢)
    | (go_at_call 18; refine (HIT.out _ HB4.out).mono ?_; rintro e w5 ⟨a2, c2, rfl, hn, hb⟩; have HN := Lib.hid hn; have HX5 := Lib.hid ((hb.block _ (lt_heap' HX4.out)).trans HX4.out); have HB5 := Lib.hid (HB4.out.trans (hb.mono HB4.out.size)); clear hb hn HX4 HB4)
    | (go_at_call 17; refine (HRF.out a2 c2 _ HN.out).mono ?_; rintro e w6 ⟨he, hb⟩; obtain rfl : e = .returned (.tuple #[CV C, .bool is]) := by rw [he]; unfold ansC; rw [HCR.out.1, HCR.out.2]
       have HX6 := Lib.hid ((hb.block _ (lt_heap' HX5.out)).trans HX5.out); have HB6 := Lib.hid (HB5.out.trans (hb.mono HB5.out.size)); clear hb he HX5 HB5 HN)
    | (refine wpList_store_row rfl 33 (.tmp 9) (.tmp 33) rfl _ (CC C) rfl rfl _ CZ (heap_alloc_new _ _) (by kernel_rfl) rfl (cc_one _) ?_; simp only [Act.put, List.setIfInBounds_toArray, List.set_cons_zero, List.set_cons_succ]; rw [box_laid6]; have HY7 := Lib.hid (And.intro ((Below.heap_alloc _ (.cells (CC C) 33) _ (lt_heap' HX6.out)).trans HX6.out) (And.intro (heap_alloc_new w6 (.cells (CC C) 33)) (HB6.out.alloc HB6.out.size (.cells (CC C) 33)))); clear HX6 HB6; generalize hgB : w6.heap.size = gB at HY7 ⊢; generalize World.alloc _ _ = W7 at HY7 ⊢)
    | (refine wpList_load_row rfl 34 (.tmp 7) rfl gA rfl _ (CC C) (0, 0) _ HY7.out.1 Tryz.underlying34 rfl (by kernel_rfl) ?_; simp only [Act.put, List.setIfInBounds_toArray, List.set_cons_zero, List.set_cons_succ])
    | (refine wpList_load_row rfl 33 (.tmp 9) rfl gB rfl _ (CC C) (0, 0) _ HY7.out.2.1 Tryz.underlying33 rfl (by kernel_rfl) ?_; simp only [Act.put, List.setIfInBounds_toArray, List.set_cons_zero, List.set_cons_succ])
    | (go_at_call 20; refine (HEN.out _ HY7.out.2.2).mono ?_; rintro e w9 ⟨v, Bq, rfl, hB, ho, hb⟩; obtain ⟨ae, ca, rfl, -, ha⟩ := ints_form ho; have HA9 := Lib.hid ha; have HB9 := Lib.hid (HY7.out.2.2.trans (hb.mono HY7.out.2.2.size)); clear ho hB ha hb HY7)
    | (go_at_call 18; refine (HIT.out _ HB9.out).mono ?_; rintro e w10 ⟨a3, c3, rfl, hn, hb⟩; have HN := Lib.hid hn; have HA10 := Lib.hid (fun i (hi : i < le.length) => (HA9.out i hi).imp fun g q => And.intro q.1 (Below.cellB hb q.2)); have HB10 := Lib.hid (HB9.out.trans (hb.mono HB9.out.size)); clear hn HA9 hb HB9)
    | (go_at_call 21; refine (HRE.out a3 c3 _ HN.out).mono ?_; rintro e w11 ⟨v, Bq, rfl, hB, ho, hb⟩; obtain ⟨be, cb, rfl, -, hb2⟩ := ints_form ho; have HB11 := Lib.hid hb2; have HA11 := Lib.hid (fun i (hi : i < le.length) => (HA10.out i hi).imp fun g q => And.intro q.1 (Below.cellB hb q.2)); have HBX := Lib.hid (HB10.out.trans (hb.mono HB10.out.size)); clear ho hB hb2 hb HA10 HB10 HN)
    | (go_at_call 19; refine (sameInts_yes ae be ca cb le HLE.out _ HA11.out HB11.out).mono ?_; rintro e w12 ⟨rfl, hb⟩; have HEND := Lib.hid (HBX.out.trans (hb.mono HBX.out.size)); clear hb HBX HA11 HB11))
  go_ret;exact ⟨rfl, HEND.out⟩
theorem matchEnds_walk (W : World) (hL : Lay W) (ao : Option Addr) (c : Nat) (l : List Nd) (m : l.length ≤ maxLen) (B : Ns W (.slice ao l.length c) l) (F : ∀ n ∈ l, Wf n.s) (a1 : ByteArray) (w1 : a1.size ≤ maxLen) (a2 : Int) (w2 : (Lit.int .i64 a2).wf = true) :
    Calls Tryz.prog 4 #[.slice ao l.length c, .string a1, E a2] W fun e W' => e = .returned (.bool true) ∧ Below W.heap.size W W' := by
  obtain ⟨T, rfl⟩ : ∃ T : List UInt8, a1 = ⟨T.toArray⟩ := ⟨a1.data.toList, (Lib.mk_data a1).symm⟩;cases hb : boundedL 24 9 6 l T.length with
  | false => exact MatchEnds_skip W hL ao c l.length T a2 fun W' => bounded_any ao c l W B m T false hb.symm
  | true =>
    obtain ⟨hl, hT⟩ := bounded_len hb;exact MatchEnds_core W hL told_ok ao c l (by omega) B F T (by omega) a2 (fun W' => bounded_any ao c l W B m T true hb.symm)
end Go.Proofs.YtinallojhkaogaaGreatDoor.Mt
