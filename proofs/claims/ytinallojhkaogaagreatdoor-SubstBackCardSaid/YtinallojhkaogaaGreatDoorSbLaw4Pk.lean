/- SubstBack: of any text and any parts. -/
import Derived.Test.YtinallojhkaogaaGreatDoorSbLaw3Pk
import Derived.Test.YtinallojhkaogaaGreatDoorSbWPk
import Derived.Test.YtinallojhkaogaaGreatDoorGk37
namespace Go.Proofs.YtinallojhkaogaaGreatDoor.Mt
open Go.RowKit Go.Shelf
open Go.Proofs.YtinallojhkaogaaGreatDoor.Rx
set_option linter.unusedVariables false
set_option linter.unusedSimpArgs false
theorem substBack_walk (W : World) (hL : Lay W) (a0 : ByteArray) (w0 : a0.size ≤ maxLen) (ao : Option Addr) (c : Nat) (l : List Pt) (m : l.length ≤ maxLen) (B : PI2 W ao l) (F : ∀ n ∈ l, n.t.length ≤ maxLen) :
    Calls Tryz.prog 7 #[.string a0, .slice ao l.length c] W fun e W' => e = .returned (.bool true) ∧ Below W.heap.size W W' := by
  obtain ⟨s, rfl⟩ : ∃ s : List UInt8, a0 = ⟨s.toArray⟩ := ⟨a0.data.toList, (Lib.mk_data a0).symm⟩
  exact back_walk W (fun W' hb => sshown_any W' (hL.below hb)) s ao c l hL B m F
end Go.Proofs.YtinallojhkaogaaGreatDoor.Mt
