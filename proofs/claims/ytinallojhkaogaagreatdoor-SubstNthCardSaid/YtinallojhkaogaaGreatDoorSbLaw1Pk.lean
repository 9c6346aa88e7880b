/- SubstSelf: of any nodes and any text. -/
import Derived.Test.YtinallojhkaogaaGreatDoorHk20
import Derived.Test.YtinallojhkaogaaGreatDoorHk21
import Derived.Test.YtinallojhkaogaaGreatDoorHk32
import Derived.Test.YtinallojhkaogaaGreatDoorHk34
namespace Go.Proofs.YtinallojhkaogaaGreatDoor.Mt
open Go.RowKit Go.Shelf
open Go.Proofs.YtinallojhkaogaaGreatDoor.Rx
open Go.Proofs.YtinallojhkaogaaGreatDoor.Rx.Tr
open Go.Proofs.YtinallojhkaogaaGreatDoor.Fn
open Go.Proofs.YtinallojhkaogaaGreatDoor.St (Wf word mem SV SV_eq ofL wf_ofL bytesL)
set_option linter.unusedVariables false
set_option linter.unusedSimpArgs false
theorem bounded_len9 {a b c:Nat} {l:List Nd} {m:Nat} (h:boundedL a b c l m = true):l.length ≤ a ∧ m ≤ b:=by
 unfold boundedL at h;simp only [Bool.and_eq_true,decide_eq_true_eq] at h;exact ⟨h.1,h.2.1⟩
theorem pin_one (w:World) (t:List UInt8) (g:Int):PIn (w.alloc (.cells #[S t,E g] 55)) (some ⟨w.heap.size,0,none⟩) [⟨t,g⟩]:=fun i hi=>by
 (obtain rfl:i = 0:=by simp at hi;omega);exact ⟨_,rfl,(Lib.cell_of_heap (heap_alloc_new _ _) 0).trans rfl,(Lib.cell_of_heap (heap_alloc_new _ _) 1).trans rfl⟩
theorem pin_nil (w:World) (ao:Option Addr):PIn w ao []:=fun i hi=>by simp at hi
end Go.Proofs.YtinallojhkaogaaGreatDoor.Mt