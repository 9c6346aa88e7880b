/- FindFirst: of any nodes and any text. -/
import Derived.Test.YtgaiknjmbingjaaGreatDoorEk22
import Derived.Test.YtgaiknjmbingjaaGreatDoorEk28
import Derived.Test.YtgaiknjmbingjaaGreatDoorEk29
set_option maxHeartbeats 6400000
set_option maxRecDepth 100000
namespace Go.Proofs.YtgaiknjmbingjaaGreatDoor.Mt
open Go.RowKit Go.Shelf
open Go.Proofs.YtgaiknjmbingjaaGreatDoor.Rx
open Go.Proofs.YtgaiknjmbingjaaGreatDoor.Rx.Tr
open Go.Proofs.YtgaiknjmbingjaaGreatDoor.Fn
open Go.Proofs.YtgaiknjmbingjaaGreatDoor.St (Wf word mem SV SV_eq ofL wf_ofL bytesL)
set_option linter.unusedVariables false
set_option linter.unusedSimpArgs false
theorem FindFirst_skip (W : World) (hL : Lay W) (ao : Option Addr) (c n : Nat) (T : List UInt8) (x : Int)
  (hbd : ∀ W' : World, Calls Tryz.prog 5 #[.slice ao n c, S T] W fun e w' => e = .returned (.bool false) ∧ W = w') :
  Calls Tryz.prog 3 #[.slice ao n c, S T, E x] W fun e W' => e = .returned (.bool true) ∧ Below W.heap.size W W' := by
 have HB0 := Lib.hid (Below.refl W.heap.size W);have HBD := Lib.hid hbd;have HSH := Lib.hid (fun (W' : World) (hb : Below W.heap.size W W') => fshown_any W' (hL.below hb));clear hbd hL;go_enter Tryz.func3, Tryz.ntmps3;go_wp2_with (first
  | (go_at_call 5; refine (HBD.out W).mono ?_; rintro e w1 ⟨rfl, rfl⟩)
  | (go_at_call 6; refine (HSH.out _ HB0.out).mono ?_; rintro e w2 ⟨rfl, hb⟩; have HB1 := Lib.hid (HB0.out.trans (hb.mono HB0.out.size)); clear hb))
 go_ret;exact ⟨rfl, HB1.out⟩
theorem first_core (W : World) (hL : Lay W) (hTo : ToldOk) (ao : Option Addr) (c : Nat) (l : List Nd) (hl : l.length ≤ 1000) (B : Ns W (.slice ao l.length c) l) (F : ∀ n ∈ l, Wf n.s) (T : List UInt8) (hT : T.length ≤ 100) (x : Int) (hx : x ≤ 9223372036854775807)
  (hbd : ∀ W' : World, Calls Tryz.prog 5 #[.slice ao l.length c, S T] W fun e w' => e = .returned (.bool true) ∧ W = w') :
  Calls Tryz.prog 3 #[.slice ao l.length c, S T, E x] W fun e W' => e = .returned (.bool true) ∧ Below W.heap.size W W' := by
 obtain ⟨R, hR⟩ : ∃ R, R = firstF (FL l T) T.length x.toNat := ⟨_, rfl⟩;obtain ⟨h, hh⟩ : ∃ h, h = (firstF (FL l T) T.length 0).isSome := ⟨_, rfl⟩;have hok : CapsOk T.length (R.getD nones) := by
  cases R with
  | none => exact caps_none _
  | some a => exact (first_at (fl_ok l T) hR.symm).2.2.2.1
 have HB0 := Lib.hid (Below.refl W.heap.size W);have HBD := Lib.hid hbd;have HSH := Lib.hid (fun (W' : World) (hb : Below W.heap.size W W') => fshown_any W' (hL.below hb));have HFI := Lib.hid (fun (W' : World) (hb : Below W.heap.size W W') => first_any none_ok (.slice ao l.length c) T (by omega) (FL l T) W' ((fl_long B F (by omega)).below hb) x hx R hR);have HHA := Lib.hid (fun (W' : World) (hb : Below W.heap.size W W') => has_any none_ok (.slice ao l.length c) T (by omega) (FL l T) W' ((fl_long B F (by omega)).below hb) h hh);have HIT := Lib.hid (fun (W' : World) (hb : Below W.heap.size W W') => (its7_any ao c l W' (B.below hb) (by omega)).mono (R' := fun e w' => ∃ a2 c2, e = .returned (.slice a2 l.length c2) ∧ Ns w' (.slice a2 l.length c2) l ∧ Below W'.heap.size W' w') (by
  rintro e w' ⟨v, rfl, ho, hb'⟩;have hn := own_nsR ho;obtain ⟨a2, c2, rfl, _⟩ := id hn;exact ⟨a2, c2, rfl, hn, hb'⟩))
 have HRF := Lib.hid (fun (a2 : Option Addr) (c2 : Nat) (W' : World) (hN : Ns W' (.slice a2 l.length c2) l) => rFirst_any l F hTo T hT a2 c2 W' hN x hx R hR);have HRH := Lib.hid (fun (a2 : Option Addr) (c2 : Nat) (W' : World) (hN : Ns W' (.slice a2 l.length c2) l) => rHas_any l F hTo T hT a2 c2 W' hN h hh);have HOK := Lib.hid hok;have HTL := Lib.hid hT;(have heq := fun W' => caps_same2 Tryz.underlying27 (by omega : T.length ≤ 999999999) hok W');clear hbd hL hTo hl B F hT hx hR hh hok;generalize l.length = n at *;go_enter Tryz.func3, Tryz.ntmps3;go_wp2_with (first
  | (go_at_call 5; refine (HBD.out W).mono ?_; rintro e w1 ⟨rfl, rfl⟩; clear HBD)
  | (go_at_call 6; refine (HSH.out _ HB0.out).mono ?_; rintro e w2 ⟨rfl, hb⟩; have HB1 := Lib.hid (HB0.out.trans (hb.mono HB0.out.size)); clear hb HB0)
  | (go_at_call 7; refine (HFI.out _ HB1.out).mono ?_; rintro e w3 ⟨he, hb⟩; obtain rfl : e = .returned (.tuple #[CV (R.getD nones), .bool R.isSome]) := he; have HB3 := Lib.hid (HB1.out.trans (hb.mono HB1.out.size)); clear hb HB1)
  | (refine wpList_store_row rfl 27 (.tmp 7) (.tmp 25) rfl _ (CC (R.getD nones)) rfl rfl _ CZ (heap_alloc_new _ _) (by kernel_rfl) rfl (cc_one _) ?_; simp only [Act.put, List.setIfInBounds_toArray, List.set_cons_zero, List.set_cons_succ]; rw [box_laid]; have HX4 := Lib.hid (heap_alloc_new w3 (.cells (CC (R.getD nones)) 27)); have HB4 := Lib.hid (HB3.out.alloc HB3.out.size (.cells (CC (R.getD nones)) 27)); clear HB3; generalize World.alloc _ _ = W4 at HB4 HX4 ⊢)
  | (go_at_call 9; refine (HIT.out _ HB4.out).mono ?_; rintro e w5 ⟨a2, c2, rfl, hn, hb⟩; have HN := Lib.hid hn; have HX5 := Lib.hid ((hb.block _ (lt_heap' HX4.out)).trans HX4.out); have HB5 := Lib.hid (HB4.out.trans (hb.mono HB4.out.size)); clear hb hn HX4 HB4)
  | (go_at_call 8; refine (HRF.out a2 c2 _ HN.out).mono ?_; rintro e w6 ⟨he, hb⟩; obtain rfl : e = .returned (.tuple #[CV (R.getD nones), .bool R.isSome]) := he; have HX6 := Lib.hid ((hb.block _ (lt_heap' HX5.out)).trans HX5.out); have HB6 := Lib.hid (HB5.out.trans (hb.mono HB5.out.size)); clear hb HX5 HB5 HN)
  | (refine wpList_store_row rfl 30 (.tmp 9) (.tmp 33) rfl _ (CC (R.getD nones)) rfl rfl _ CZ (heap_alloc_new _ _) (by kernel_rfl) rfl (cc_one _) ?_; simp only [Act.put, List.setIfInBounds_toArray, List.set_cons_zero, List.set_cons_succ]; rw [box_laid6]; have HX7 := Lib.hid ((Below.heap_alloc _ (.cells (CC (R.getD nones)) 30) _ (lt_heap' HX6.out)).trans HX6.out); have HY7 := Lib.hid (heap_alloc_new w6 (.cells (CC (R.getD nones)) 30)); have HB7 := Lib.hid (HB6.out.alloc HB6.out.size (.cells (CC (R.getD nones)) 30)); clear HB6 HX6; generalize World.alloc _ _ = W7 at HB7 HX7 HY7 ⊢)
  | (refine wpList_load_row rfl 27 (.tmp 7) rfl w3.heap.size rfl _ (CC (R.getD nones)) (0, 0) _ HX7.out Tryz.underlying27 rfl (by kernel_rfl) ?_; simp only [Act.put, List.setIfInBounds_toArray, List.set_cons_zero, List.set_cons_succ])
  | (refine wpList_load_row rfl 30 (.tmp 9) rfl w6.heap.size rfl _ (CC (R.getD nones)) (0, 0) _ HY7.out Tryz.underlying30 rfl (by kernel_rfl) ?_; simp only [Act.put, List.setIfInBounds_toArray, List.set_cons_zero, List.set_cons_succ])
  | (go_at_call 10; refine (HHA.out _ HB7.out).mono ?_; rintro e w8 ⟨rfl, hb⟩; have HB8 := Lib.hid (HB7.out.trans (hb.mono HB7.out.size)); clear hb HB7)
  | (go_at_call 9; refine (HIT.out _ HB8.out).mono ?_; rintro e w9 ⟨a3, c3, rfl, hn, hb⟩; have HN := Lib.hid hn; have HB9 := Lib.hid (HB8.out.trans (hb.mono HB8.out.size)); clear hb hn HB8)
  | (go_at_call 11; refine (HRH.out a3 c3 _ HN.out).mono ?_; rintro e w10 ⟨rfl, hb⟩; have HB10 := Lib.hid (HB9.out.trans (hb.mono HB9.out.size)); clear hb HB9 HN))
 go_ret;exact ⟨rfl, HB10.out⟩
theorem i64_le {a : Int} (h : (Lit.int .i64 a).wf = true) : a ≤ 9223372036854775807 := by
 (have h2 : -9223372036854775808 ≤ a ∧ a ≤ 9223372036854775807 := by simpa [Lit.wf, IntKind.min, IntKind.max, IntKind.signed, IntKind.bits] using h);exact h2.2
theorem findFirst_walk (W : World) (hL : Lay W) (ao : Option Addr) (c : Nat) (l : List Nd) (m : l.length ≤ maxLen) (B : Ns W (.slice ao l.length c) l) (F : ∀ n ∈ l, Wf n.s) (a1 : ByteArray) (w1 : a1.size ≤ maxLen) (a2 : Int) (w2 : (Lit.int .i64 a2).wf = true) :
  Calls Tryz.prog 3 #[.slice ao l.length c, .string a1, E a2] W fun e W' => e = .returned (.bool true) ∧ Below W.heap.size W W' := by
 obtain ⟨T, rfl⟩ : ∃ T : List UInt8, a1 = ⟨T.toArray⟩ := ⟨a1.data.toList, (Lib.mk_data a1).symm⟩;cases hb : boundedL 16 8 5 l T.length with
 | false => exact FindFirst_skip W hL ao c l.length T a2 fun W' => fbounded_any ao c l W B m T false hb.symm
 | true =>
  obtain ⟨hl, hT⟩ := bounded_len7 hb;exact first_core W hL told_ok ao c l (by omega) B F T (by omega) a2 (i64_le w2) (fun W' => fbounded_any ao c l W B m T true hb.symm)
end Go.Proofs.YtgaiknjmbingjaaGreatDoor.Mt