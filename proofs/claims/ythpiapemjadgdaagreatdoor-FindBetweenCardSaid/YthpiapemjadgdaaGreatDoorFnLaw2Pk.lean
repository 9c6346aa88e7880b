/- FindBetween: of any nodes and any text. -/
import Derived.Test.YthpiapemjadgdaaGreatDoorFnUPk
import Derived.Test.YthpiapemjadgdaaGreatDoorFnGPk
namespace Go.Proofs.YthpiapemjadgdaaGreatDoor.Mt
open Go.RowKit Go.Shelf
open Go.Proofs.YthpiapemjadgdaaGreatDoor.Rx
open Go.Proofs.YthpiapemjadgdaaGreatDoor.Rx.Tr
open Go.Proofs.YthpiapemjadgdaaGreatDoor.Fn
open Go.Proofs.YthpiapemjadgdaaGreatDoor.St (Wf word mem SV SV_eq ofL wf_ofL bytesL)
set_option linter.unusedVariables false
set_option linter.unusedSimpArgs false
set_option maxRecDepth 100000 in
set_option maxHeartbeats 3200000 in
theorem FindBetween_skip (W : World) (hL : Lay W) (ao : Option Addr) (c n : Nat) (T : List UInt8)
    (hbd : ∀ W' : World, Calls Tryz.prog 12 #[.slice ao n c, S T] W fun e w' => e = .returned (.bool false) ∧ W = w') :
    Calls Tryz.prog 5 #[.slice ao n c, S T] W fun e W' => e = .returned (.bool true) ∧ Below W.heap.size W W' := by
  have HB0 := Lib.hid (Below.refl W.heap.size W)
  have HBD := Lib.hid hbd
  have HSH := Lib.hid (fun (W' : World) (hb : Below W.heap.size W W') => fshown_any W' (hL.below hb))
  clear hbd hL
  go_enter Tryz.func5, Tryz.ntmps5
  go_wp2_with (first
    | (go_at_call 12; refine (HBD.out W).mono ?_; rintro e w1 ⟨rfl, rfl⟩)
    | (go_at_call 13; refine (HSH.out _ HB0.out).mono ?_; rintro e w2 ⟨rfl, hb⟩; have HB1 := Lib.hid (HB0.out.trans (hb.mono HB0.out.size)); clear hb))
  go_ret
  exact ⟨rfl, HB1.out⟩
theorem findBetween_walk (W : World) (hL : Lay W) (ao : Option Addr) (c : Nat) (l : List Nd) (m : l.length ≤ maxLen) (B : Ns W (.slice ao l.length c) l) (F : ∀ n ∈ l, Wf n.s) (a1 : ByteArray) (w1 : a1.size ≤ maxLen) :
    Calls Tryz.prog 5 #[.slice ao l.length c, .string a1] W fun e W' => e = .returned (.bool true) ∧ Below W.heap.size W W' := by
  obtain ⟨T, rfl⟩ : ∃ T : List UInt8, a1 = ⟨T.toArray⟩ := ⟨a1.data.toList, (Lib.mk_data a1).symm⟩
  cases hb : boundedL 16 8 5 l T.length with
  | false => exact FindBetween_skip W hL ao c l.length T fun W' => fbounded_any ao c l W B m T false hb.symm
  | true =>
    obtain ⟨hl, hT⟩ := bounded_len hb
    exact between_core none_ok W ao l.length c T (by omega) (FL l T) (fl_ok l T) (fun W' => fbounded_any ao c l W B m T true hb.symm) (fun W' h => fshown_any W' (hL.below h)) (fl_long B F (by omega))
end Go.Proofs.YthpiapemjadgdaaGreatDoor.Mt
