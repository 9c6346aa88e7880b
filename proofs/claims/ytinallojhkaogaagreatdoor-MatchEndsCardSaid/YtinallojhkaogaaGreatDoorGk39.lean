/- The texts M6Q. -/
import Derived.Test.YtinallojhkaogaaGreatDoorGk19
import Derived.Test.YtinallojhkaogaaGreatDoorGk33
set_option linter.unusedVariables false
set_option linter.unusedSimpArgs false
set_option maxHeartbeats 6400000
set_option maxRecDepth 100000
namespace Go.Proofs.YtinallojhkaogaaGreatDoor.Mt
open Go.RowKit Go.Shelf
open Rx
open Rx.Tr
open St (Wf word mem SV SV_eq)
theorem rWhole_any (l : List Nd) (hw : ∀ n ∈ l, Wf n.s) (hTo : ToldOk) (T : List UInt8) (hT : T.length <= 100) (ao : Option Addr) (c : Nat) (w : World) (h : Ns w (.slice ao l.length c) l) (i j : Int) (R : Option Caps) (hR : R = wholeL l T i j) :
  Calls Tryz.prog 23 #[.slice ao l.length c, S T, E i, E j] w fun e w' => e = .returned (ansC R) /\ Below w.heap.size w w' := by
 have HZ := Hd (An (heap_alloc_new w (.cells CZ 33)) ((Below.refl w.heap.size w).alloc (Nat.le_refl _) (.cells CZ 33)));have HMK := Hd (fun (W : World) (hb : Below w.heap.size w W) => rmakeW_any l hw hTo T hT ao c W (h.below hb));have HRR := Hd (fun (W : World) (tv : Value) (hq : WholeT W tv (wholeL l T)) => show Calls Tryz.prog 51 #[tv, E i, E j] W fun e w' => e = .returned (ansC R) /\ Below W.heap.size W w' from by rw [hR]; exact hq W i j (Below.refl _ _));clear hTo hT hR;generalize wholeL l T = FQ at *;clear h hw;generalize l.length = n at *;go_enter Tryz.func23, Tryz.ntmps23;rw [show Code.region 1 = Fz 1 from rfl];go_wp2;refine at_world (p := fun V => V.heap[w.heap.size]? = some (.cells CZ 33 (0, 0)) /\ Below w.heap.size w V) HZ.out (fun V hV => ?_);have HV := Hd hV;clear hV HZ;rw [show Fz 1 = Code.region 1 from rfl];go_wp2_with (first
  | (go_at_call 42; refine (HMK.out _ HV.out.2).mono ?_; rintro e w1 ⟨ao2, n2, c2, y, go, gn, gc, rfl, -, hlo, hb⟩; have HLO := Hd hlo; have HV1 := Hd (An ((hb.block _ (lt_heap' HV.out.1)).trans HV.out.1) (HV.out.2.trans (hb.mono HV.out.2.size))); clear hb hlo HV)
  | (go_at_call 51; refine (HRR.out w1 _ HLO.out).mono ?_; rintro e w2 ⟨he, hb⟩; obtain rfl : e = .returned (.tuple #[CV (R.getD nones), .bool R.isSome]) := he; have HV2 := Hd (An ((hb.block _ (lt_heap' HV1.out.1)).trans HV1.out.1) (HV1.out.2.trans (hb.mono HV1.out.2.size))); clear hb HV1)
  | (refine st6 8 16 (R.getD nones) HV2.out.1 ?_; have HR := Hd (An (setRow_heap _ _ _ (CC (R.getD nones)) _ _ HV2.out.1) (below_setRow (B := w.heap.size) HV2.out.2 (g := w.heap.size) (Nat.le_refl _) (CC (R.getD nones)))); clear HV2; generalize World.setRow _ _ _ = W9 at HR ⊢))
 refine bodyPost_ret (res_caps6 rfl rfl HR.out.1 rfl) rfl ?_;exact ⟨rfl, HR.out.2⟩
theorem rLongest_any (l : List Nd) (hw : ∀ n ∈ l, Wf n.s) (hTo : ToldOk) (T : List UInt8) (hT : T.length <= 100) (ao : Option Addr) (c : Nat) (w : World) (h : Ns w (.slice ao l.length c) l) (i : Int) (R : Option Caps) (hR : R = longL l T i) :
  Calls Tryz.prog 17 #[.slice ao l.length c, S T, E i] w fun e w' => e = .returned (ansC R) /\ Below w.heap.size w w' := by
 have HZ := Hd (An (heap_alloc_new w (.cells CZ 33)) ((Below.refl w.heap.size w).alloc (Nat.le_refl _) (.cells CZ 33)));have HMK := Hd (fun (W : World) (hb : Below w.heap.size w W) => rmakeW_any l hw hTo T hT ao c W (h.below hb));have HRR := Hd (fun (W : World) (a2 : Option Addr) (n2 c2 : Nat) (y : List UInt8) (go : Option Addr) (gn gc : Nat) (hy : y = T \/ (y = [] /\ patOf l = none)) (hq : WholeT W (.agg #[.slice a2 n2 c2, S y, .slice go gn gc]) (wholeL l T)) => show Calls Tryz.prog 50 #[.agg #[.slice a2 n2 c2, S y, .slice go gn gc], E i] W fun e w' => e = .returned (ansC R) /\ Below W.heap.size W w' from by rw [hR]; exact rlongT l T hT a2 n2 c2 y go gn gc hy W hq i);clear hTo hT hR;generalize wholeL l T = FQ at *;generalize hpn : (patOf l = none) = PN at *;clear h hw hpn;generalize l.length = n at *;go_enter Tryz.func17, Tryz.ntmps17;rw [show Code.region 1 = Fz 1 from rfl];go_wp2;refine at_world (p := fun V => V.heap[w.heap.size]? = some (.cells CZ 33 (0, 0)) /\ Below w.heap.size w V) HZ.out (fun V hV => ?_);have HV := Hd hV;clear hV HZ;rw [show Fz 1 = Code.region 1 from rfl];go_wp2_with (first
  | (go_at_call 42; refine (HMK.out _ HV.out.2).mono ?_; rintro e w1 ⟨ao2, n2, c2, y, go, gn, gc, rfl, hy, hlo, hb⟩; have HLO := Hd (An hy hlo); have HV1 := Hd (An ((hb.block _ (lt_heap' HV.out.1)).trans HV.out.1) (HV.out.2.trans (hb.mono HV.out.2.size))); clear hb hlo hy HV)
  | (go_at_call 50; refine (HRR.out w1 ao2 n2 c2 y go gn gc HLO.out.1 HLO.out.2).mono ?_; rintro e w2 ⟨he, hb⟩; obtain rfl : e = .returned (.tuple #[CV (R.getD nones), .bool R.isSome]) := he; have HV2 := Hd (An ((hb.block _ (lt_heap' HV1.out.1)).trans HV1.out.1) (HV1.out.2.trans (hb.mono HV1.out.2.size))); clear hb HV1)
  | (refine st6 6 13 (R.getD nones) HV2.out.1 ?_; have HR := Hd (An (setRow_heap _ _ _ (CC (R.getD nones)) _ _ HV2.out.1) (below_setRow (B := w.heap.size) HV2.out.2 (g := w.heap.size) (Nat.le_refl _) (CC (R.getD nones)))); clear HV2; generalize World.setRow _ _ _ = W9 at HR ⊢))
 refine bodyPost_ret (res_caps6 rfl rfl HR.out.1 rfl) rfl ?_;exact ⟨rfl, HR.out.2⟩
theorem rgroup_any (T : List UInt8) (hT : T.length <= 100000) (c : Caps) (hc : CapsOk T.length c) (n : Int) (w : World) (R : List UInt8) (hR : R = groupP T c n) : Calls Tryz.prog 25 #[S T, CV c, E n] w fun e w' => e = .returned (S R) /\ Below w.heap.size w w' := by
 have HRR := Hd hR;have HB := Hd ((Below.refl w.heap.size w).alloc (Nat.le_refl _) (.cells (CC c) 33));clear hR;by_cases h0 : n < 0
 · have HN := Hd h0;go_enter Tryz.func25, Tryz.ntmps25;go_wp2;go_ret;refine ⟨?_, HB.out⟩;rw [HRR.out, groupP, if_neg (by have := HN.out; omega)];try rfl
 ·
  by_cases h1 : 9 < n
  · have HN := Hd h1;go_enter Tryz.func25, Tryz.ntmps25;go_wp2;go_ret;refine ⟨?_, HB.out⟩;rw [HRR.out, groupP, if_neg (by have := HN.out; omega)];try rfl
  · obtain ⟨m, rfl⟩ : ∃ m : Nat, n = (m : Int) := ⟨n.toNat, by omega⟩;(have hm : m < 10 := by omega);have HM := Hd hm;have hcl := cap_cell6 (heap_alloc_new w (.cells (CC c) 33)) hm;(have hm0 : (0 : Int) <= (m : Int) := by omega);(have hm1 : (m : Int) < 10 := by omega);have HCU := Hd (fun W => rcut_cap (T := T) (by omega) (hc.at m) W);generalize hcv : capV (gr c m) = cv at HCU hcl;clear hcv hc hm;go_enter Tryz.func25, Tryz.ntmps25;go_wp2_with (go_at_call 52; refine (HCU.out _).mono ?_; rintro e w2 ⟨rfl, rfl⟩);go_ret;refine ⟨?_, HB.out⟩;rw [HRR.out, groupP, if_pos (by have := HM.out; omega)];try rfl
theorem mWhole_any (l : List Nd) (hw : ∀ n ∈ l, Wf n.s) (T : List UInt8) (hT : T.length <= 100000) (ao : Option Addr) (c : Nat) (w : World) (h : Ns w (.slice ao l.length c) l) (i j : Int) (R : Option Caps) (hR : R = wholeL l T i j) :
  Calls Tryz.prog 22 #[.slice ao l.length c, S T, E i, E j] w fun e w' => e = .returned (ansC R) /\ Below w.heap.size w w' := by
 subst hR;cases hp : patOf l with
 | none =>
  rw [show wholeL l T i j = none from by unfold wholeL; rw [hp]];exact Whole_no l ao c w h hw T i j (Or.inl (by unfold mayL; rw [hp]; rfl))
 | some t =>
  rw [show wholeL l T i j = wholeZ T t i j from by unfold wholeL; rw [hp]];by_cases hr : i < 0 \/ j < i \/ (T.length : Int) < j
  · rw [wholeZ_off T t hr];exact Whole_no l ao c w h hw T i j (Or.inr hr)
  · obtain ⟨rfl, hg⟩ := patOf_some hp;obtain ⟨i, rfl⟩ : ∃ a : Nat, i = (a : Int) := ⟨i.toNat, by omega⟩;obtain ⟨j, rfl⟩ : ∃ a : Nat, j = (a : Int) := ⟨j.toNat, by omega⟩;rw [wholeZ_nat T t (by omega) (by omega)];exact Whole_yes t hg (sets_nodes t 0 hw) ao c w h T hT i j (by omega) (by omega) _ rfl
theorem mLongest_any (l : List Nd) (hw : ∀ n ∈ l, Wf n.s) (T : List UInt8) (hT : T.length <= 100000) (ao : Option Addr) (c : Nat) (w : World) (h : Ns w (.slice ao l.length c) l) (i : Int) (R : Option Caps) (hR : R = longL l T i) :
  Calls Tryz.prog 16 #[.slice ao l.length c, S T, E i] w fun e w' => e = .returned (ansC R) /\ Below w.heap.size w w' := by
 subst hR;cases hp : patOf l with
 | none =>
  rw [longL_none hp];exact Longest_no l ao c w h hw T i (Or.inl (by unfold mayL; rw [hp]; rfl))
 | some t =>
  by_cases hr : i < 0 \/ (T.length : Int) < i
  · rw [longL_off l T hr];exact Longest_no l ao c w h hw T i (Or.inr hr)
  · obtain ⟨rfl, hg⟩ := patOf_some hp;obtain ⟨i, rfl⟩ : ∃ a : Nat, i = (a : Int) := ⟨i.toNat, by omega⟩;rw [longL_some hg T (by omega)];exact Longest_yes t hg (sets_nodes t 0 hw) ao c w h T hT i (by omega) _ rfl
theorem wholeL_ok (l : List Nd) (T : List UInt8) (i j : Int) : CapsOk T.length ((wholeL l T i j).getD nones) := by
 unfold wholeL;cases hp : patOf l with
 | none => exact caps_none _
 | some t =>
  show CapsOk T.length ((wholeZ T t i j).getD nones);unfold wholeZ;split
  ·
   cases hq : wholeP T t i.toNat j.toNat with
   | none => exact caps_none _
   | some c => exact whole_ok (by omega) (by omega) hq
  · exact caps_none _
theorem longL_ok (l : List Nd) (T : List UInt8) (i : Int) : CapsOk T.length ((longL l T i).getD nones) := by
 cases hl : longL l T i with
 | none => exact caps_none _
 | some c =>
  show CapsOk T.length c;unfold longL at hl;obtain ⟨q, hq, hf, _⟩ := dn_some hl;have := wholeL_ok l T i ((0 + q : Nat) : Int);rw [hf] at this;exact this
end Go.Proofs.YtinallojhkaogaaGreatDoor.Mt
