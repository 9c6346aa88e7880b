/- MatchWhole: the walk. -/
import Derived.Test.YtinallojhkaogaaGreatDoorGk06
import Derived.Test.YtinallojhkaogaaGreatDoorGk14
import Derived.Test.YtinallojhkaogaaGreatDoorGk21
import Derived.Test.YtinallojhkaogaaGreatDoorGk33
import Derived.Test.YtinallojhkaogaaGreatDoorGk34
import Derived.Test.YtinallojhkaogaaGreatDoorGk40
set_option maxHeartbeats 6400000
set_option maxRecDepth 100000
namespace Go.Proofs.YtinallojhkaogaaGreatDoor.Mt
open Go.RowKit Go.Shelf
open Go.Proofs.YtinallojhkaogaaGreatDoor.Rx
open Go.Proofs.YtinallojhkaogaaGreatDoor.Rx.Tr
open Go.Proofs.YtinallojhkaogaaGreatDoor.St (Wf word mem SV SV_eq ofL wf_ofL bytesL)
set_option linter.unusedVariables false
set_option linter.unusedSimpArgs false
theorem MatchWhole_skip (W : World) (hL : Lay W) (ao : Option Addr) (c n : Nat) (T : List UInt8) (i j x : Int)
    (hbd : ∀ W' : World, Calls Tryz.prog 14 #[.slice ao n c, S T] W fun e w' => e = .returned (.bool false) ∧ W = w') :
    Calls Tryz.prog 5 #[.slice ao n c, S T, E i, E j, E x] W fun e W' => e = .returned (.bool true) ∧ Below W.heap.size W W' := by
  have HB0 := Lib.hid (Below.refl W.heap.size W);have HBD := Lib.hid hbd;have HSH := Lib.hid (fun (W' : World) (hb : Below W.heap.size W W') => mshown_any W' (hL.below hb));clear hbd hL;go_enter Tryz.func5, Tryz.ntmps5;go_wp2_with (first
    | (go_at_call 14; refine (HBD.out W).mono ?_; rintro e w1 ⟨rfl, rfl⟩)
    | (go_at_call 15; refine (HSH.out _ HB0.out).mono ?_; rintro e w2 ⟨rfl, hb⟩; have HB1 := Lib.hid (HB0.out.trans (hb.mono HB0.out.size)); clear hb))
  go_ret;exact ⟨rfl, HB1.out⟩
theorem MatchWhole_core (W : World) (hL : Lay W) (hTo : ToldOk) (ao : Option Addr) (c : Nat) (l : List Nd) (hl : l.length ≤ 1000) (B : Ns W (.slice ao l.length c) l) (F : ∀ n ∈ l, Wf n.s) (T : List UInt8) (hT : T.length ≤ 100) (i j x : Int)
    (hbd : ∀ W' : World, Calls Tryz.prog 14 #[.slice ao l.length c, S T] W fun e w' => e = .returned (.bool true) ∧ W = w') :
    Calls Tryz.prog 5 #[.slice ao l.length c, S T, E i, E j, E x] W fun e W' => e = .returned (.bool true) ∧ Below W.heap.size W W' := by
  obtain ⟨R, hR⟩ : ∃ R, R = wholeL l T i j := ⟨_, rfl⟩;(have hok : CapsOk T.length (R.getD nones) := by rw [hR]; exact wholeL_ok l T i j);have HB0 := Lib.hid (Below.refl W.heap.size W);have HBD := Lib.hid hbd;have HSH := Lib.hid (fun (W' : World) (hb : Below W.heap.size W W') => mshown_any W' (hL.below hb));have HFI := Lib.hid (fun (W' : World) (hb : Below W.heap.size W W') => mWhole_any l F T (by omega) ao c W' (B.below hb) i j R hR);have HIT := Lib.hid (fun (W' : World) (hb : Below W.heap.size W W') => (its6_any ao c l W' (B.below hb) (by omega)).mono (R' := fun e w' => ∃ a2 c2, e = .returned (.slice a2 l.length c2) ∧ Ns w' (.slice a2 l.length c2) l ∧ Below W'.heap.size W' w') (by
    rintro e w' ⟨v, rfl, ho, hb'⟩;have hn := own_nsR ho;obtain ⟨a2, c2, rfl, _⟩ := id hn;exact ⟨a2, c2, rfl, hn, hb'⟩))
  have HRF := Lib.hid (fun (a2 : Option Addr) (c2 : Nat) (W' : World) (hN : Ns W' (.slice a2 l.length c2) l) => rWhole_any l F hTo T hT a2 c2 W' hN i j R hR);have HTL := Lib.hid hT;have HG := Lib.hid (fun W => group_any T (by omega) (R.getD nones) hok x W _ rfl);have HGR := Lib.hid (fun W => rgroup_any T (by omega) (R.getD nones) hok x W _ rfl);generalize groupP T (R.getD nones) x = gs at *;have HNONE := Lib.hid (fun W' => caps_same2 Tryz.underlying34 (by omega : T.length ≤ 999999999) (caps_none T.length) W');have HSAME := Lib.hid (fun W' => caps_same2 Tryz.underlying34 (by omega : T.length ≤ 999999999) hok W');clear hbd hL hTo hl B F hT hR;generalize l.length = n at *;obtain ⟨C, hC⟩ : ∃ C, R.getD nones = C := ⟨_, rfl⟩;obtain ⟨is, his⟩ : ∃ is, R.isSome = is := ⟨_, rfl⟩;rw [hC] at HSAME HG HGR;clear hok;have HCR := Lib.hid (And.intro hC his);clear hC his;go_enter Tryz.func5, Tryz.ntmps5;rw [show Code.region 5 = Fz 5 from rfl];go_wp2_with (first
    | (go_at_call 14; refine (HBD.out W).mono ?_; rintro e w1 ⟨rfl, rfl⟩; clear HBD)
    | (go_at_call 15; refine (HSH.out _ HB0.out).mono ?_; rintro e w2 ⟨rfl, hb⟩; have HB1 := Lib.hid (HB0.out.trans (hb.mono HB0.out.size)); clear hb)
    | (go_at_call 22; refine (HFI.out _ HB1.out).mono ?_; rintro e w3 ⟨he, hb⟩; obtain rfl : e = .returned (.tuple #[CV C, .bool is]) := by rw [he]; unfold ansC; rw [HCR.out.1, HCR.out.2]
       have HB3 := Lib.hid (HB1.out.trans (hb.mono HB1.out.size)); clear hb he)
    | (refine wpList_store_row rfl 34 (.tmp 11) (.tmp 30) rfl _ (CC C) rfl rfl _ CZ (heap_alloc_new _ _) (by kernel_rfl) rfl (cc_one _) ?_; simp only [Act.put, List.setIfInBounds_toArray, List.set_cons_zero, List.set_cons_succ]; rw [box_laid]; have HX4 := Lib.hid (heap_alloc_new w3 (.cells (CC C) 34)); have HB4 := Lib.hid (HB3.out.alloc HB3.out.size (.cells (CC C) 34)); clear HB3; generalize hgA : w3.heap.size = gA at HX4 ⊢; generalize World.alloc _ _ = W4 at HX4 HB4 ⊢)
    | (go_at_call 18; refine (HIT.out _ HB4.out).mono ?_; rintro e w5 ⟨a2, c2, rfl, hn, hb⟩; have HN := Lib.hid hn; have HX5 := Lib.hid ((hb.block _ (lt_heap' HX4.out)).trans HX4.out); have HB5 := Lib.hid (HB4.out.trans (hb.mono HB4.out.size)); clear hb hn HX4 HB4)
    | (go_at_call 23; refine (HRF.out a2 c2 _ HN.out).mono ?_; rintro e w6 ⟨he, hb⟩; obtain rfl : e = .returned (.tuple #[CV C, .bool is]) := by rw [he]; unfold ansC; rw [HCR.out.1, HCR.out.2]
       have HX6 := Lib.hid ((hb.block _ (lt_heap' HX5.out)).trans HX5.out); have HB6 := Lib.hid (HB5.out.trans (hb.mono HB5.out.size)); clear hb he HX5 HB5 HN)
    | (refine wpList_store_row rfl 33 (.tmp 13) (.tmp 39) rfl _ (CC C) rfl rfl _ CZ (heap_alloc_new _ _) (by kernel_rfl) rfl (cc_one _) ?_; simp only [Act.put, List.setIfInBounds_toArray, List.set_cons_zero, List.set_cons_succ]; rw [box_laid6]; have HY7 := Lib.hid (And.intro ((Below.heap_alloc _ (.cells (CC C) 33) _ (lt_heap' HX6.out)).trans HX6.out) (And.intro (heap_alloc_new w6 (.cells (CC C) 33)) (HB6.out.alloc HB6.out.size (.cells (CC C) 33)))); clear HX6 HB6; generalize hgB : w6.heap.size = gB at HY7 ⊢; generalize World.alloc _ _ = W7 at HY7 ⊢))
  rw [show Fz 5 = Code.region 5 from rfl];refine wp_region_noPanic ?_;refine wp_region_held_drew (S := fun w' => w'.heap[gA]? = some (.cells (CC C) 34 (0, 0)) ∧ w'.heap[gB]? = some (.cells (CC C) 33 (0, 0)) ∧ Below W.heap.size W w') (by kernel_rfl) ?_ (fun hHeld => ?_)
  · (try dsimp only); exact ⟨HY7.out.1, HY7.out.2.1, HY7.out.2.2.drew⟩
  clear HY7;generalize World.drew _ = W8 at hHeld ⊢;refine Tk.t 0 (hy := fun wv hSw => exec_load_row 34 (.tmp 11) rfl gA rfl _ (CC C) _ _ hSw.1 Tryz.underlying34 rfl (by kernel_rfl)) ?_;refine Tk.t 1 (hy := fun wv hSw => exec_load_row 33 (.tmp 13) rfl gB rfl _ (CC C) _ _ hSw.2.1 Tryz.underlying33 rfl (by kernel_rfl)) ?_;refine Tk.t 2 (hy := by (intro wv hSw; have hq := HSAME.out wv; go_simp) <;> with_reducible rfl) ?_;refine Tk.t 3 ?_;refine Tk.t 4 ?_;refine Tk.t 5 ?_;refine Tk.t 6 ?_;refine Tk.t 7 ?_;refine Tk.t 8 ?_;refine Tk.t 9 ?_;refine Tk.t 10 (hy := fun wv hSw => exec_load_row 34 (.tmp 11) rfl gA rfl _ (CC C) _ _ hSw.1 Tryz.underlying34 rfl (by kernel_rfl)) ?_;refine Tk.t 11 ?_;refine Tk.t 13 ?_;refine Tk.t 14 (hy := fun wv hSw => exec_load_row 33 (.tmp 13) rfl gB rfl _ (CC C) _ _ hSw.2.1 Tryz.underlying33 rfl (by kernel_rfl)) ?_;refine Tk.t 15 ?_;refine Tk.o 12 (fun K hK => ?_);go_simp
  (go_at_call 24; refine (HG.out _).mono ?_; rintro e w9 ⟨rfl, hb⟩)
  (refine hK.out _ _ (by (try dsimp only); exact ⟨(hb.block _ (lt_heap' hHeld.1)).trans hHeld.1, (hb.block _ (lt_heap' hHeld.2.1)).trans hHeld.2.1, hHeld.2.2.trans (hb.mono hHeld.2.2.size)⟩) fun hHeld => Tk.w ?_);clear hK K;refine Tk.o 16 (fun K hK => ?_);go_simp
  (go_at_call 25; refine (HGR.out _).mono ?_; rintro e w10 ⟨rfl, hb⟩)
  (refine hK.out _ _ (by (try dsimp only); exact ⟨(hb.block _ (lt_heap' hHeld.1)).trans hHeld.1, (hb.block _ (lt_heap' hHeld.2.1)).trans hHeld.2.1, hHeld.2.2.trans (hb.mono hHeld.2.2.size)⟩) fun hHeld => Tk.w ?_);clear hK K;refine Tk.t 17 ?_;refine Tk.t 18 ?_;refine Tk.t 19 ?_;refine Tk.o 20 (fun K hK => ?_);go_simp
  (go_at_call 26; refine (none_any _).mono ?_; rintro e w11 ⟨rfl, hb⟩)
  (refine hK.out _ _ (by (try dsimp only); exact ⟨(hb.block _ (lt_heap' hHeld.1)).trans hHeld.1, (hb.block _ (lt_heap' hHeld.2.1)).trans hHeld.2.1, hHeld.2.2.trans (hb.mono hHeld.2.2.size)⟩) fun hHeld => Tk.w ?_);clear hK K;refine Tk.o 21 (fun K hK => ?_);go_simp
  (go_at_call 27; refine (rnone_any _).mono ?_; rintro e w12 ⟨rfl, hb⟩)
  (refine hK.out _ _ (by (try dsimp only); exact ⟨(hb.block _ (lt_heap' hHeld.1)).trans hHeld.1, (hb.block _ (lt_heap' hHeld.2.1)).trans hHeld.2.1, hHeld.2.2.trans (hb.mono hHeld.2.2.size)⟩) fun hHeld => Tk.w ?_);clear hK K;refine Tk.t 22 (hy := by (intro wv hSw; have hq := HNONE.out wv; go_simp) <;> with_reducible rfl) ?_;refine Tk.t 23 ?_;refine Tk.t 24 ?_;refine Tk.d ?_;have HEND := Lib.hid hHeld.2.2;clear hHeld;go_wp2;go_ret;exact ⟨rfl, HEND.out⟩
theorem matchWhole_walk (W : World) (hL : Lay W) (ao : Option Addr) (c : Nat) (l : List Nd) (m : l.length ≤ maxLen) (B : Ns W (.slice ao l.length c) l) (F : ∀ n ∈ l, Wf n.s) (a1 : ByteArray) (w1 : a1.size ≤ maxLen) (a2 : Int) (w2 : (Lit.int .i64 a2).wf = true) (a3 : Int) (w3 : (Lit.int .i64 a3).wf = true) (a4 : Int) (w4 : (Lit.int .i64 a4).wf = true) :
    Calls Tryz.prog 5 #[.slice ao l.length c, .string a1, E a2, E a3, E a4] W fun e W' => e = .returned (.bool true) ∧ Below W.heap.size W W' := by
  obtain ⟨T, rfl⟩ : ∃ T : List UInt8, a1 = ⟨T.toArray⟩ := ⟨a1.data.toList, (Lib.mk_data a1).symm⟩;cases hb : boundedL 24 9 6 l T.length with
  | false => exact MatchWhole_skip W hL ao c l.length T a2 a3 a4 fun W' => bounded_any ao c l W B m T false hb.symm
  | true =>
    obtain ⟨hl, hT⟩ := bounded_len hb;exact MatchWhole_core W hL told_ok ao c l (by omega) B F T (by omega) a2 a3 a4 (fun W' => bounded_any ao c l W B m T true hb.symm)
end Go.Proofs.YtinallojhkaogaaGreatDoor.Mt
