/-
  No cell of these rows narrows 'for every input' (looked for: loops, veiled, ifaces, maps, wideKeys, modest, calm, conditions, laid).
  DERIVED. THE GIVEN ROWS OF THIS SEAT. 7 by the template 'for every input the law returns true; each argument reads behind the call as it read before'; 0 by the template 'total and deterministic' (their statements: YtppllblnbmipbaaTotals.lean).
  GIVEN WITH THE SEED: the statements are not yours to turn. If you find one false, say at which input.
  Laid BY PROGRAM, IN A SANDBOX (cutbox-rows.mjs): the forced cells as the released guide's own fill.sh prints them over the translation 5c67f25a0ce16841… (all of the seat's roots in one cut). By AI agents, Wed Nov 11 2026. No macro, syntax, notation, axiom, sorry.
-/
import Derived.Test.YtppllblnbmipbaaChecked
import GoSem.Claim
import GoSem.ClaimJoined
import GoSem.ClaimMapViews
import Derived.JoinedTies
import Derived.KernelRfl
namespace Go.Proofs.Ytppllblnbmipbaa
/- THE CELL 'sum', in the pinned program and in every row, IS THE sha256 OF THE DUMP (.gsa) THAT YtppllblnbmipbaaProg.lean LOADS. Nothing in Lean hashes anything: it is a label: what it is worth is what the hold of that sum in a sandbox is worth. -/
noncomputable def Try.pinned : Pinned := { name := "ytppllblnbmipbaa", sum := "5c67f25a0ce16841e0cccc893b6d73d1465fa87c12e51abf0c37d1e74b02d983", checked := Try.checked }
namespace Rows
def none {H : Type} : Left H := { results := [], args := [] }

/-- 'calenderlaw01.SpanOf': WHATEVER THE INPUT: true; the input reads as it did. -/
def spanOfSpec : ChangeSpec := { name := "spanOf", fn := fun _ => fun
  | [d1, d2] => { results := [.lit (.bool true)], args := [d1, d2] }
  | _ => none }
def spanOfRow : OpenClaim := { program := "ytppllblnbmipbaa", sum := "5c67f25a0ce16841e0cccc893b6d73d1465fa87c12e51abf0c37d1e74b02d983", func := "calender/calenderlaw01.SpanOf", spec := "spanOf", apart := false }
def SpanOfSaid : Prop := spanOfRow.holds Try.pinned (OpenSpec.ofChange spanOfSpec)

/-- ITS FALSE NEIGHBOUR: 'it returns false'. Refute it at one input. -/
def spanOfWrong : ChangeSpec := { name := "spanOf", fn := fun _ => fun
  | [d1, d2] => { results := [.lit (.bool false)], args := [d1, d2] }
  | _ => none }
def SpanOfWrongFalsely : Prop := spanOfRow.holds Try.pinned (OpenSpec.ofChange spanOfWrong)

/-- 'calenderlaw01.SpanCuts': WHATEVER THE INPUT: true; the input reads as it did. -/
def spanCutsSpec : ChangeSpec := { name := "spanCuts", fn := fun _ => fun
  | [d1, d2, d3] => { results := [.lit (.bool true)], args := [d1, d2, d3] }
  | _ => none }
def spanCutsRow : OpenClaim := { program := "ytppllblnbmipbaa", sum := "5c67f25a0ce16841e0cccc893b6d73d1465fa87c12e51abf0c37d1e74b02d983", func := "calender/calenderlaw01.SpanCuts", spec := "spanCuts", apart := false }
def SpanCutsSaid : Prop := spanCutsRow.holds Try.pinned (OpenSpec.ofChange spanCutsSpec)

/-- ITS FALSE NEIGHBOUR: 'it returns false'. Refute it at one input. -/
def spanCutsWrong : ChangeSpec := { name := "spanCuts", fn := fun _ => fun
  | [d1, d2, d3] => { results := [.lit (.bool false)], args := [d1, d2, d3] }
  | _ => none }
def SpanCutsWrongFalsely : Prop := spanCutsRow.holds Try.pinned (OpenSpec.ofChange spanCutsWrong)

/-- 'calenderlaw01.SpanParts': WHATEVER THE INPUT: true; the input reads as it did. -/
def spanPartsSpec : ChangeSpec := { name := "spanParts", fn := fun _ => fun
  | [d1, d2, d3] => { results := [.lit (.bool true)], args := [d1, d2, d3] }
  | _ => none }
def spanPartsRow : OpenClaim := { program := "ytppllblnbmipbaa", sum := "5c67f25a0ce16841e0cccc893b6d73d1465fa87c12e51abf0c37d1e74b02d983", func := "calender/calenderlaw01.SpanParts", spec := "spanParts", apart := false }
def SpanPartsSaid : Prop := spanPartsRow.holds Try.pinned (OpenSpec.ofChange spanPartsSpec)

/-- ITS FALSE NEIGHBOUR: 'it returns false'. Refute it at one input. -/
def spanPartsWrong : ChangeSpec := { name := "spanParts", fn := fun _ => fun
  | [d1, d2, d3] => { results := [.lit (.bool false)], args := [d1, d2, d3] }
  | _ => none }
def SpanPartsWrongFalsely : Prop := spanPartsRow.holds Try.pinned (OpenSpec.ofChange spanPartsWrong)

/-- 'calenderlaw01.SpanTells': WHATEVER THE INPUT: true; the input reads as it did. -/
def spanTellsSpec : ChangeSpec := { name := "spanTells", fn := fun _ => fun
  | [d1, d2, d3] => { results := [.lit (.bool true)], args := [d1, d2, d3] }
  | _ => none }
def spanTellsRow : OpenClaim := { program := "ytppllblnbmipbaa", sum := "5c67f25a0ce16841e0cccc893b6d73d1465fa87c12e51abf0c37d1e74b02d983", func := "calender/calenderlaw01.SpanTells", spec := "spanTells", apart := false }
def SpanTellsSaid : Prop := spanTellsRow.holds Try.pinned (OpenSpec.ofChange spanTellsSpec)

/-- ITS FALSE NEIGHBOUR: 'it returns false'. Refute it at one input. -/
def spanTellsWrong : ChangeSpec := { name := "spanTells", fn := fun _ => fun
  | [d1, d2, d3] => { results := [.lit (.bool false)], args := [d1, d2, d3] }
  | _ => none }
def SpanTellsWrongFalsely : Prop := spanTellsRow.holds Try.pinned (OpenSpec.ofChange spanTellsWrong)

/-- 'calenderlaw01.SpanShifts': WHATEVER THE INPUT: true; the input reads as it did. -/
def spanShiftsSpec : ChangeSpec := { name := "spanShifts", fn := fun _ => fun
  | [d1, d2, d3] => { results := [.lit (.bool true)], args := [d1, d2, d3] }
  | _ => none }
def spanShiftsRow : OpenClaim := { program := "ytppllblnbmipbaa", sum := "5c67f25a0ce16841e0cccc893b6d73d1465fa87c12e51abf0c37d1e74b02d983", func := "calender/calenderlaw01.SpanShifts", spec := "spanShifts", apart := false }
def SpanShiftsSaid : Prop := spanShiftsRow.holds Try.pinned (OpenSpec.ofChange spanShiftsSpec)

/-- ITS FALSE NEIGHBOUR: 'it returns false'. Refute it at one input. -/
def spanShiftsWrong : ChangeSpec := { name := "spanShifts", fn := fun _ => fun
  | [d1, d2, d3] => { results := [.lit (.bool false)], args := [d1, d2, d3] }
  | _ => none }
def SpanShiftsWrongFalsely : Prop := spanShiftsRow.holds Try.pinned (OpenSpec.ofChange spanShiftsWrong)

/-- 'calenderlaw01.SpanHulls': WHATEVER THE INPUT: true; the input reads as it did. -/
def spanHullsSpec : ChangeSpec := { name := "spanHulls", fn := fun _ => fun
  | [d1, d2, d3, d4] => { results := [.lit (.bool true)], args := [d1, d2, d3, d4] }
  | _ => none }
def spanHullsRow : OpenClaim := { program := "ytppllblnbmipbaa", sum := "5c67f25a0ce16841e0cccc893b6d73d1465fa87c12e51abf0c37d1e74b02d983", func := "calender/calenderlaw01.SpanHulls", spec := "spanHulls", apart := false }
def SpanHullsSaid : Prop := spanHullsRow.holds Try.pinned (OpenSpec.ofChange spanHullsSpec)

/-- ITS FALSE NEIGHBOUR: 'it returns false'. Refute it at one input. -/
def spanHullsWrong : ChangeSpec := { name := "spanHulls", fn := fun _ => fun
  | [d1, d2, d3, d4] => { results := [.lit (.bool false)], args := [d1, d2, d3, d4] }
  | _ => none }
def SpanHullsWrongFalsely : Prop := spanHullsRow.holds Try.pinned (OpenSpec.ofChange spanHullsWrong)

/-- 'calenderlaw01.SpanInside': WHATEVER THE INPUT: true; the input reads as it did. -/
def spanInsideSpec : ChangeSpec := { name := "spanInside", fn := fun _ => fun
  | [d1, d2, d3, d4, d5] => { results := [.lit (.bool true)], args := [d1, d2, d3, d4, d5] }
  | _ => none }
def spanInsideRow : OpenClaim := { program := "ytppllblnbmipbaa", sum := "5c67f25a0ce16841e0cccc893b6d73d1465fa87c12e51abf0c37d1e74b02d983", func := "calender/calenderlaw01.SpanInside", spec := "spanInside", apart := false }
def SpanInsideSaid : Prop := spanInsideRow.holds Try.pinned (OpenSpec.ofChange spanInsideSpec)

/-- ITS FALSE NEIGHBOUR: 'it returns false'. Refute it at one input. -/
def spanInsideWrong : ChangeSpec := { name := "spanInside", fn := fun _ => fun
  | [d1, d2, d3, d4, d5] => { results := [.lit (.bool false)], args := [d1, d2, d3, d4, d5] }
  | _ => none }
def SpanInsideWrongFalsely : Prop := spanInsideRow.holds Try.pinned (OpenSpec.ofChange spanInsideWrong)

/- THE SECOND FORM. 'bulk': how many values and letters a reading holds, each counted each time it is reached (what is shared counts as often as it is met; a slice's spare places count too). A statement '..UptoSaid' is the law's where the arguments, and the package variables that the reading takes, are together of bulk at most 1048576: NARROWER than '..Said'. Prove '..Said' where nothing that the law and all that it calls make is longer than what came in: it says more and counts as full. Else prove '..UptoSaid'. A law counts once. -/
mutual
def uptoBulk {H : Type} : DataW H → Nat
  | .lit (.string bytes) => bytes.length + 1
  | .lit _ => 1
  | .nil => 1
  | .ptr d => uptoBulk d + 1
  | .slice elems spare => uptoBulkAll elems + uptoBulkAll spare + 1
  | .agg parts => uptoBulkAll parts + 1
  | .iface _ d => uptoBulk d + 1
  | .map entries => uptoBulkEntries entries + 1
  | .held _ => 1
def uptoBulkAll {H : Type} : List (DataW H) → Nat
  | [] => 0
  | d :: r => uptoBulk d + uptoBulkAll r
def uptoBulkEntries {H : Type} : List (Lit × DataW H) → Nat
  | [] => 0
  | x :: r => uptoBulkEntry x + uptoBulkEntries r
def uptoBulkEntry {H : Type} : Lit × DataW H → Nat
  | (.string bytes, d) => bytes.length + uptoBulk d + 1
  | (_, d) => uptoBulk d + 1
 end
def uptoSmall : (H : Type) → List (DataW H) → Bool := fun _ ds => decide (uptoBulkAll ds ≤ 1048576)
def OpenSpec.upto (s : _root_.Go.ChangeSpec) : _root_.Go.OpenSpec := { _root_.Go.OpenSpec.ofChange s with cond := some uptoSmall }

/-- 'calenderlaw01.SpanOf', WHERE WHAT IT READS IS OF BULK AT MOST 1048576: true; the input reads as it did. -/
def spanOfUptoRow : OpenClaim := { program := "ytppllblnbmipbaa", sum := "5c67f25a0ce16841e0cccc893b6d73d1465fa87c12e51abf0c37d1e74b02d983", func := "calender/calenderlaw01.SpanOf", spec := "spanOf", apart := false, narrowed := true }
def SpanOfUptoSaid : Prop := spanOfUptoRow.holds Try.pinned (OpenSpec.upto spanOfSpec)

/-- 'calenderlaw01.SpanCuts', WHERE WHAT IT READS IS OF BULK AT MOST 1048576: true; the input reads as it did. -/
def spanCutsUptoRow : OpenClaim := { program := "ytppllblnbmipbaa", sum := "5c67f25a0ce16841e0cccc893b6d73d1465fa87c12e51abf0c37d1e74b02d983", func := "calender/calenderlaw01.SpanCuts", spec := "spanCuts", apart := false, narrowed := true }
def SpanCutsUptoSaid : Prop := spanCutsUptoRow.holds Try.pinned (OpenSpec.upto spanCutsSpec)

/-- 'calenderlaw01.SpanParts', WHERE WHAT IT READS IS OF BULK AT MOST 1048576: true; the input reads as it did. -/
def spanPartsUptoRow : OpenClaim := { program := "ytppllblnbmipbaa", sum := "5c67f25a0ce16841e0cccc893b6d73d1465fa87c12e51abf0c37d1e74b02d983", func := "calender/calenderlaw01.SpanParts", spec := "spanParts", apart := false, narrowed := true }
def SpanPartsUptoSaid : Prop := spanPartsUptoRow.holds Try.pinned (OpenSpec.upto spanPartsSpec)

/-- 'calenderlaw01.SpanTells', WHERE WHAT IT READS IS OF BULK AT MOST 1048576: true; the input reads as it did. -/
def spanTellsUptoRow : OpenClaim := { program := "ytppllblnbmipbaa", sum := "5c67f25a0ce16841e0cccc893b6d73d1465fa87c12e51abf0c37d1e74b02d983", func := "calender/calenderlaw01.SpanTells", spec := "spanTells", apart := false, narrowed := true }
def SpanTellsUptoSaid : Prop := spanTellsUptoRow.holds Try.pinned (OpenSpec.upto spanTellsSpec)

/-- 'calenderlaw01.SpanShifts', WHERE WHAT IT READS IS OF BULK AT MOST 1048576: true; the input reads as it did. -/
def spanShiftsUptoRow : OpenClaim := { program := "ytppllblnbmipbaa", sum := "5c67f25a0ce16841e0cccc893b6d73d1465fa87c12e51abf0c37d1e74b02d983", func := "calender/calenderlaw01.SpanShifts", spec := "spanShifts", apart := false, narrowed := true }
def SpanShiftsUptoSaid : Prop := spanShiftsUptoRow.holds Try.pinned (OpenSpec.upto spanShiftsSpec)

/-- 'calenderlaw01.SpanHulls', WHERE WHAT IT READS IS OF BULK AT MOST 1048576: true; the input reads as it did. -/
def spanHullsUptoRow : OpenClaim := { program := "ytppllblnbmipbaa", sum := "5c67f25a0ce16841e0cccc893b6d73d1465fa87c12e51abf0c37d1e74b02d983", func := "calender/calenderlaw01.SpanHulls", spec := "spanHulls", apart := false, narrowed := true }
def SpanHullsUptoSaid : Prop := spanHullsUptoRow.holds Try.pinned (OpenSpec.upto spanHullsSpec)

/-- 'calenderlaw01.SpanInside', WHERE WHAT IT READS IS OF BULK AT MOST 1048576: true; the input reads as it did. -/
def spanInsideUptoRow : OpenClaim := { program := "ytppllblnbmipbaa", sum := "5c67f25a0ce16841e0cccc893b6d73d1465fa87c12e51abf0c37d1e74b02d983", func := "calender/calenderlaw01.SpanInside", spec := "spanInside", apart := false, narrowed := true }
def SpanInsideUptoSaid : Prop := spanInsideUptoRow.holds Try.pinned (OpenSpec.upto spanInsideSpec)

end Rows
end Go.Proofs.Ytppllblnbmipbaa
