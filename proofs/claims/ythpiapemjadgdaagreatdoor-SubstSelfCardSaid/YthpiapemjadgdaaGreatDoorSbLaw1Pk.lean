/- SubstSelf: of any nodes and any text. -/
import Derived.Test.YthpiapemjadgdaaGreatDoorSbLpPk
import Derived.Test.YthpiapemjadgdaaGreatDoorSbShPk
import Derived.Test.YthpiapemjadgdaaGreatDoorCk26
namespace Go.Proofs.YthpiapemjadgdaaGreatDoor.Mt
open Go.RowKit Go.Shelf
open Go.Proofs.YthpiapemjadgdaaGreatDoor.Rx
open Go.Proofs.YthpiapemjadgdaaGreatDoor.Rx.Tr
open Go.Proofs.YthpiapemjadgdaaGreatDoor.Fn
open Go.Proofs.YthpiapemjadgdaaGreatDoor.St (Wf word mem SV SV_eq ofL wf_ofL bytesL)
set_option linter.unusedVariables false
set_option linter.unusedSimpArgs false
theorem bounded_len9 {a b c : Nat} {l : List Nd} {m : Nat} (h : boundedL a b c l m = true) : l.length ≤ a ∧ m ≤ b := by
  unfold boundedL at h
  simp only [Bool.and_eq_true, decide_eq_true_eq] at h
  exact ⟨h.1, h.2.1⟩
theorem pin_one (w : World) (t : List UInt8) (g : Int) : PIn (w.alloc (.cells #[S t, E g] 56)) (some ⟨w.heap.size, 0, none⟩) [⟨t, g⟩] := fun i hi => by
  obtain rfl : i = 0 := by simp at hi; omega
  exact ⟨_, rfl, (Lib.cell_of_heap (heap_alloc_new _ _) 0).trans rfl, (Lib.cell_of_heap (heap_alloc_new _ _) 1).trans rfl⟩
theorem pin_nil (w : World) (ao : Option Addr) : PIn w ao [] := fun i hi => by simp at hi
set_option maxRecDepth 100000 in
set_option maxHeartbeats 6400000 in
theorem SubstSelf_skip (W : World) (hL : Lay W) (ao : Option Addr) (c n : Nat) (T : List UInt8) (x : Nat) (all : Bool)
    (hbd : ∀ W' : World, Calls Tryz.prog 29 #[.slice ao n c, S T] W fun e w' => e = .returned (.bool false) ∧ W = w') :
    Calls Tryz.prog 9 #[.slice ao n c, S T, .int .u8 (x : Nat), .bool all] W fun e W' => e = .returned (.bool true) ∧ Below W.heap.size W W' := by
  have HB0 := Lib.hid (Below.refl W.heap.size W)
  have HBD := Lib.hid hbd
  have HSH := Lib.hid (fun (W' : World) (hb : Below W.heap.size W W') => sshown_any W' (hL.below hb))
  clear hbd hL
  go_enter Tryz.func9, Tryz.ntmps9
  go_wp2_with (first
    | (go_at_call 29; refine (HBD.out W).mono ?_; rintro e w1 ⟨rfl, rfl⟩)
    | (go_at_call 30; refine (HSH.out _ HB0.out).mono ?_; rintro e w2 ⟨rfl, hb⟩; have HB1 := Lib.hid (HB0.out.trans (hb.mono HB0.out.size)); clear hb))
  go_ret
  exact ⟨rfl, HB1.out⟩
set_option maxRecDepth 100000 in
set_option maxHeartbeats 6400000 in
theorem self_core (W : World) (hL : Lay W) (ao : Option Addr) (c : Nat) (l : List Nd) (hl : l.length ≤ 1000) (B : Ns W (.slice ao l.length c) l) (F : ∀ n ∈ l, Wf n.s) (T : List UInt8) (hT : T.length ≤ 100) (x : Nat) (hx : x < 256) (all : Bool)
    (hbd : ∀ W' : World, Calls Tryz.prog 29 #[.slice ao l.length c, S T] W fun e w' => e = .returned (.bool true) ∧ W = w') :
    Calls Tryz.prog 9 #[.slice ao l.length c, S T, .int .u8 (x : Nat), .bool all] W fun e W' => e = .returned (.bool true) ∧ Below W.heap.size W W' := by
  obtain ⟨k, hk⟩ : ∃ k, x % 5 = k := ⟨_, rfl⟩
  have hmd : ((x : Nat) : Int).tmod 5 = (k : Int) := by rw [Int.tmod_eq_emod_of_nonneg (by omega), ← hk]; omega
  have hx0 : (0 : Int) ≤ (x : Int) := by omega
  have hwx : wrap64 (x : Int) = (x : Int) := by unfold wrap64; omega
  have HX := Lib.hid hx
  have hrow : Row T.length (allF (FL l T) T.length) := row_all (fl_ok l T)
  obtain ⟨R, hR⟩ : ∃ R, R = subP T (fun c => fillP T c [⟨[], 0⟩]) (k : Int) all (allF (FL l T) T.length) := ⟨_, rfl⟩
  have HR1 := Lib.hid (show R.1 = T from by rw [hR]; exact sub_self hrow _ _)
  have HB0 := Lib.hid (Below.refl W.heap.size W)
  have HBD := Lib.hid hbd
  have HSH := Lib.hid (fun (W' : World) (hb : Below W.heap.size W W') => sshown_any W' (hL.below hb))
  have HSU := Lib.hid (fun (W' : World) (hb : Below W.heap.size W W') (g : Nat) (hp : PIn W' (some ⟨g, 0, none⟩) [⟨[], 0⟩]) =>
    sub_any (.slice ao l.length c) (some ⟨g, 0, none⟩) 1 [⟨[], 0⟩] T (by omega) (k : Int) all (by simp) (by simp) _ hrow W' hp (fun W2 hb2 => all_any none_ok ao l.length c T (by omega) (FL l T) (fl_ok l T) W2 ((fl_long B F (by omega)).below (hb.trans (hb2.mono hb.size)))) R hR)
  clear hbd hL hl B F hT hR hrow hx hk
  generalize l.length = n at *
  go_enter Tryz.func9, Tryz.ntmps9
  go_wp2_with (first
    | (go_at_call 29; refine (HBD.out W).mono ?_; rintro e w1 ⟨rfl, rfl⟩; clear HBD)
    | (go_at_call 30; refine (HSH.out _ HB0.out).mono ?_; rintro e w2 ⟨rfl, hb⟩; have HB1 := Lib.hid (HB0.out.trans (hb.mono HB0.out.size)); have HP := Lib.hid (pin_one w2 [] 0); have HB2 := Lib.hid (HB1.out.alloc HB1.out.size (.cells #[S [], E 0] 56)); clear hb HB0 HB1)
    | (go_at_call 31; refine (HSU.out _ HB2.out _ HP.out).mono ?_; rintro e w3 ⟨he, hb⟩; rw [HR1.out] at he; subst he; have HB3 := Lib.hid (HB2.out.trans (hb.mono HB2.out.size)); clear hb HB2 HP))
  go_ret
  exact ⟨rfl, HB3.out⟩
theorem substSelf_walk (W : World) (hL : Lay W) (ao : Option Addr) (c : Nat) (l : List Nd) (m : l.length ≤ maxLen) (B : Ns W (.slice ao l.length c) l) (F : ∀ n ∈ l, Wf n.s) (a1 : ByteArray) (w1 : a1.size ≤ maxLen) (a2 : Int) (w2 : (Lit.int .u8 a2).wf = true) (a3 : Bool) :
    Calls Tryz.prog 9 #[.slice ao l.length c, .string a1, .int .u8 a2, .bool a3] W fun e W' => e = .returned (.bool true) ∧ Below W.heap.size W W' := by
  obtain ⟨x, rfl, hx⟩ := u8_nat w2
  obtain ⟨T, rfl⟩ : ∃ T : List UInt8, a1 = ⟨T.toArray⟩ := ⟨a1.data.toList, (Lib.mk_data a1).symm⟩
  cases hb : boundedL 16 8 5 l T.length with
  | false => exact SubstSelf_skip W hL ao c l.length T x a3 fun W' => sbounded_any ao c l W B m T false hb.symm
  | true =>
    obtain ⟨hl, hT⟩ := bounded_len9 hb
    exact self_core W hL ao c l (by omega) B F T (by omega) x hx a3 (fun W' => sbounded_any ao c l W B m T true hb.symm)
end Go.Proofs.YthpiapemjadgdaaGreatDoor.Mt
