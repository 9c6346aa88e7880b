/- Finds: of any nodes, what is the longest one at each place; what the laws share. -/
import Derived.Test.YthpiapemjadgdaaGreatDoorFnSPk
import Derived.Test.YthpiapemjadgdaaGreatDoorFnBPk
import Derived.Test.YthpiapemjadgdaaGreatDoorBk28
namespace Go.Proofs.YthpiapemjadgdaaGreatDoor.Mt
open Go.RowKit Go.Shelf
open Go.Proofs.YthpiapemjadgdaaGreatDoor.Rx
open Go.Proofs.YthpiapemjadgdaaGreatDoor.Rx.Tr
open Go.Proofs.YthpiapemjadgdaaGreatDoor.Fn
open Go.Proofs.YthpiapemjadgdaaGreatDoor.St (Wf word mem SV SV_eq ofL wf_ofL bytesL)
set_option linter.unusedVariables false
set_option linter.unusedSimpArgs false
theorem none_ok : NoneOk := fun W => none_any W
def FL (l : List Nd) (T : List UInt8) : Nat → Option Caps := match patOf l with
  | none => fun _ => none
  | some t => longP T t
theorem fl_ok (l : List Nd) (T : List UInt8) : FOk T.length (FL l T) := by
  unfold FL
  cases patOf l with
  | none => exact ⟨fun i c h => absurd h (by simp), fun i c h => absurd h (by simp), fun i c h => absurd h (by simp), fun i c h => absurd h (by simp)⟩
  | some t => exact fok_long T t
theorem fl_long {l : List Nd} {ao : Option Addr} {c : Nat} {w : World} (h : Ns w (.slice ao l.length c) l) (hw : ∀ n ∈ l, Wf n.s) {T : List UInt8} (hT : T.length ≤ 100000) : LongOk w (.slice ao l.length c) T (FL l T) := fun W i hW hi => by
  cases hp : patOf l with
  | none =>
    have e : FL l T i = none := by unfold FL; rw [hp]
    rw [e]
    refine (Longest_no l ao c W (h.below hW) hw T i (Or.inl (by unfold mayL; rw [hp]; rfl))).mono ?_
    rintro e w' ⟨rfl, hb⟩
    exact ⟨rfl, hb⟩
  | some t =>
    have e : FL l T i = longP T t i := by unfold FL; rw [hp]
    rw [e]
    obtain ⟨rfl, hg⟩ := patOf_some hp
    exact Longest_yes t hg (sets_nodes t 0 hw) ao c W (h.below hW) T hT i hi _ rfl
theorem fshown_any (w : World) (hL : Lay w) : Calls Tryz.prog 13 #[] w fun e w' => e = .returned (.bool true) ∧ Below w.heap.size w w' :=
  fshown_core none_ok (fun ao c w h T hT W i hW hi => Longest_yes T7 t7_good t7_sets ao c W (h.below hW) T hT i hi _ rfl) w hL
end Go.Proofs.YthpiapemjadgdaaGreatDoor.Mt
