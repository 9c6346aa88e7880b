/-
  NARROWER THAN 'FOR EVERY INPUT', by the rows' own cells (each row's printed sentence says how): SetClasses: laid · SetFolds: laid · SetWords: laid · SetRanges: laid · SetTells: laid · SetBack: laid · SetOrs: laid.
  DERIVED. THE GIVEN ROWS OF THIS SEAT. 7 by the template 'for every input the law returns true; each argument reads behind the call as it read before'; 0 by the template 'total and deterministic' (their statements: YtmlgbjdohijlnaaDoorTotals.lean).
  GIVEN WITH THE SEED: the statements are not yours to turn. If you find one false, say at which input.
  Laid BY PROGRAM, IN A SANDBOX (cutbox-rows.mjs): the forced cells as the released guide's own fill.sh prints them over the translation ef04a996dd373322… (all of the seat's roots in one cut). By AI agents, Wed Nov 11 2026. No macro, syntax, notation, axiom, sorry.
-/
import Derived.Test.YtmlgbjdohijlnaaDoorChecked
import GoSem.Claim
import GoSem.ClaimJoined
import GoSem.ClaimMapViews
import Derived.JoinedTies
import Derived.KernelRfl
namespace Go.Proofs.YtmlgbjdohijlnaaDoor
/- THE CELL 'sum', in the pinned program and in every row, IS THE sha256 OF THE DUMP (.gsa) THAT YtmlgbjdohijlnaaDoorProg.lean LOADS. Nothing in Lean hashes anything: it is a label: what it is worth is what the hold of that sum in a sandbox is worth. -/
noncomputable def Tryd.pinned : Pinned := { name := "ytmlgbjdohijlnaadoor", sum := "ef04a996dd373322e9d7cee1cce5309431e348d5722e739003d59e60ea97a77c", checked := Tryd.checked }
namespace Rows
def none {H : Type} : Left H := { results := [], args := [] }

/- WHAT THE LISTED PACKAGE-LEVEL VARIABLES READ AS WHEN THE CALL BEGINS. Each datum BY PROGRAM (the guide's laid-datum.mjs) off the statement by which the dump's own 'gosem.cut.vars' lays the variable. In a bare row this is a premise. The card (YtmlgbjdohijlnaaDoorCards.lean) ties it to the program's text. -/
def laid_math_bits_deBruijn64tab {H : Type} : DataW H := .agg [.lit (.int .u8 0), .lit (.int .u8 1), .lit (.int .u8 56), .lit (.int .u8 2), .lit (.int .u8 57), .lit (.int .u8 49), .lit (.int .u8 28), .lit (.int .u8 3), .lit (.int .u8 61), .lit (.int .u8 58), .lit (.int .u8 42), .lit (.int .u8 50), .lit (.int .u8 38), .lit (.int .u8 29), .lit (.int .u8 17), .lit (.int .u8 4), .lit (.int .u8 62), .lit (.int .u8 47), .lit (.int .u8 59), .lit (.int .u8 36), .lit (.int .u8 45), .lit (.int .u8 43), .lit (.int .u8 51), .lit (.int .u8 22), .lit (.int .u8 53), .lit (.int .u8 39), .lit (.int .u8 33), .lit (.int .u8 30), .lit (.int .u8 24), .lit (.int .u8 18), .lit (.int .u8 12), .lit (.int .u8 5), .lit (.int .u8 63), .lit (.int .u8 55), .lit (.int .u8 48), .lit (.int .u8 27), .lit (.int .u8 60), .lit (.int .u8 41), .lit (.int .u8 37), .lit (.int .u8 16), .lit (.int .u8 46), .lit (.int .u8 35), .lit (.int .u8 44), .lit (.int .u8 21), .lit (.int .u8 52), .lit (.int .u8 32), .lit (.int .u8 23), .lit (.int .u8 11), .lit (.int .u8 54), .lit (.int .u8 26), .lit (.int .u8 40), .lit (.int .u8 15), .lit (.int .u8 34), .lit (.int .u8 20), .lit (.int .u8 31), .lit (.int .u8 10), .lit (.int .u8 25), .lit (.int .u8 14), .lit (.int .u8 19), .lit (.int .u8 9), .lit (.int .u8 13), .lit (.int .u8 8), .lit (.int .u8 7), .lit (.int .u8 6)]

/-- 'calenderlaw02.SetClasses': WHATEVER THE INPUT: true; the input reads as it did. -/
def setClassesSpec : ChangeSpec := { name := "setClasses", fn := fun _ => fun
  | [d] => { results := [.lit (.bool true)], args := [d] }
  | _ => none }
def setClassesRow : OpenClaim := { program := "ytmlgbjdohijlnaadoor", sum := "ef04a996dd373322e9d7cee1cce5309431e348d5722e739003d59e60ea97a77c", func := "calender/calenderlaw02.SetClasses", spec := "setClasses", unfollowed := true, recurses := true, named := ["math/bits.deBruijn64tab"], apart := false, laid := [("math/bits.deBruijn64tab", laid_math_bits_deBruijn64tab)] }
def SetClassesSaid : Prop := setClassesRow.holds Tryd.pinned (OpenSpec.ofChange setClassesSpec)

/-- ITS FALSE NEIGHBOUR: 'it returns false'. Refute it at one input. -/
def setClassesWrong : ChangeSpec := { name := "setClasses", fn := fun _ => fun
  | [d] => { results := [.lit (.bool false)], args := [d] }
  | _ => none }
def SetClassesWrongFalsely : Prop := setClassesRow.holds Tryd.pinned (OpenSpec.ofChange setClassesWrong)

/-- 'calenderlaw02.SetFolds': WHATEVER THE INPUT: true; the input reads as it did. -/
def setFoldsSpec : ChangeSpec := { name := "setFolds", fn := fun _ => fun
  | [d1, d2] => { results := [.lit (.bool true)], args := [d1, d2] }
  | _ => none }
def setFoldsRow : OpenClaim := { program := "ytmlgbjdohijlnaadoor", sum := "ef04a996dd373322e9d7cee1cce5309431e348d5722e739003d59e60ea97a77c", func := "calender/calenderlaw02.SetFolds", spec := "setFolds", unfollowed := true, recurses := true, named := ["math/bits.deBruijn64tab"], apart := false, laid := [("math/bits.deBruijn64tab", laid_math_bits_deBruijn64tab)] }
def SetFoldsSaid : Prop := setFoldsRow.holds Tryd.pinned (OpenSpec.ofChange setFoldsSpec)

/-- ITS FALSE NEIGHBOUR: 'it returns false'. Refute it at one input. -/
def setFoldsWrong : ChangeSpec := { name := "setFolds", fn := fun _ => fun
  | [d1, d2] => { results := [.lit (.bool false)], args := [d1, d2] }
  | _ => none }
def SetFoldsWrongFalsely : Prop := setFoldsRow.holds Tryd.pinned (OpenSpec.ofChange setFoldsWrong)

/-- 'calenderlaw02.SetWords': WHATEVER THE INPUT: true; the input reads as it did. -/
def setWordsSpec : ChangeSpec := { name := "setWords", fn := fun _ => fun
  | [d] => { results := [.lit (.bool true)], args := [d] }
  | _ => none }
def setWordsRow : OpenClaim := { program := "ytmlgbjdohijlnaadoor", sum := "ef04a996dd373322e9d7cee1cce5309431e348d5722e739003d59e60ea97a77c", func := "calender/calenderlaw02.SetWords", spec := "setWords", unfollowed := true, recurses := true, named := ["math/bits.deBruijn64tab"], apart := false, laid := [("math/bits.deBruijn64tab", laid_math_bits_deBruijn64tab)] }
def SetWordsSaid : Prop := setWordsRow.holds Tryd.pinned (OpenSpec.ofChange setWordsSpec)

/-- ITS FALSE NEIGHBOUR: 'it returns false'. Refute it at one input. -/
def setWordsWrong : ChangeSpec := { name := "setWords", fn := fun _ => fun
  | [d] => { results := [.lit (.bool false)], args := [d] }
  | _ => none }
def SetWordsWrongFalsely : Prop := setWordsRow.holds Tryd.pinned (OpenSpec.ofChange setWordsWrong)

/-- 'calenderlaw02.SetRanges': WHATEVER THE INPUT: true; the input reads as it did. -/
def setRangesSpec : ChangeSpec := { name := "setRanges", fn := fun _ => fun
  | [d1, d2, d3] => { results := [.lit (.bool true)], args := [d1, d2, d3] }
  | _ => none }
def setRangesRow : OpenClaim := { program := "ytmlgbjdohijlnaadoor", sum := "ef04a996dd373322e9d7cee1cce5309431e348d5722e739003d59e60ea97a77c", func := "calender/calenderlaw02.SetRanges", spec := "setRanges", unfollowed := true, recurses := true, named := ["math/bits.deBruijn64tab"], apart := false, laid := [("math/bits.deBruijn64tab", laid_math_bits_deBruijn64tab)] }
def SetRangesSaid : Prop := setRangesRow.holds Tryd.pinned (OpenSpec.ofChange setRangesSpec)

/-- ITS FALSE NEIGHBOUR: 'it returns false'. Refute it at one input. -/
def setRangesWrong : ChangeSpec := { name := "setRanges", fn := fun _ => fun
  | [d1, d2, d3] => { results := [.lit (.bool false)], args := [d1, d2, d3] }
  | _ => none }
def SetRangesWrongFalsely : Prop := setRangesRow.holds Tryd.pinned (OpenSpec.ofChange setRangesWrong)

/-- 'calenderlaw02.SetTells': WHATEVER THE INPUT: true; the input reads as it did. -/
def setTellsSpec : ChangeSpec := { name := "setTells", fn := fun _ => fun
  | [d1, d2, d3, d4, d5] => { results := [.lit (.bool true)], args := [d1, d2, d3, d4, d5] }
  | _ => none }
def setTellsRow : OpenClaim := { program := "ytmlgbjdohijlnaadoor", sum := "ef04a996dd373322e9d7cee1cce5309431e348d5722e739003d59e60ea97a77c", func := "calender/calenderlaw02.SetTells", spec := "setTells", unfollowed := true, recurses := true, named := ["math/bits.deBruijn64tab"], apart := false, laid := [("math/bits.deBruijn64tab", laid_math_bits_deBruijn64tab)] }
def SetTellsSaid : Prop := setTellsRow.holds Tryd.pinned (OpenSpec.ofChange setTellsSpec)

/-- ITS FALSE NEIGHBOUR: 'it returns false'. Refute it at one input. -/
def setTellsWrong : ChangeSpec := { name := "setTells", fn := fun _ => fun
  | [d1, d2, d3, d4, d5] => { results := [.lit (.bool false)], args := [d1, d2, d3, d4, d5] }
  | _ => none }
def SetTellsWrongFalsely : Prop := setTellsRow.holds Tryd.pinned (OpenSpec.ofChange setTellsWrong)

/-- 'calenderlaw02.SetBack': WHATEVER THE INPUT: true; the input reads as it did. -/
def setBackSpec : ChangeSpec := { name := "setBack", fn := fun _ => fun
  | [d1, d2] => { results := [.lit (.bool true)], args := [d1, d2] }
  | _ => none }
def setBackRow : OpenClaim := { program := "ytmlgbjdohijlnaadoor", sum := "ef04a996dd373322e9d7cee1cce5309431e348d5722e739003d59e60ea97a77c", func := "calender/calenderlaw02.SetBack", spec := "setBack", unfollowed := true, recurses := true, named := ["math/bits.deBruijn64tab"], apart := false, laid := [("math/bits.deBruijn64tab", laid_math_bits_deBruijn64tab)] }
def SetBackSaid : Prop := setBackRow.holds Tryd.pinned (OpenSpec.ofChange setBackSpec)

/-- ITS FALSE NEIGHBOUR: 'it returns false'. Refute it at one input. -/
def setBackWrong : ChangeSpec := { name := "setBack", fn := fun _ => fun
  | [d1, d2] => { results := [.lit (.bool false)], args := [d1, d2] }
  | _ => none }
def SetBackWrongFalsely : Prop := setBackRow.holds Tryd.pinned (OpenSpec.ofChange setBackWrong)

/-- 'calenderlaw02.SetOrs': WHATEVER THE INPUT: true; the input reads as it did. -/
def setOrsSpec : ChangeSpec := { name := "setOrs", fn := fun _ => fun
  | [d1, d2, d3] => { results := [.lit (.bool true)], args := [d1, d2, d3] }
  | _ => none }
def setOrsRow : OpenClaim := { program := "ytmlgbjdohijlnaadoor", sum := "ef04a996dd373322e9d7cee1cce5309431e348d5722e739003d59e60ea97a77c", func := "calender/calenderlaw02.SetOrs", spec := "setOrs", unfollowed := true, recurses := true, named := ["math/bits.deBruijn64tab"], apart := false, laid := [("math/bits.deBruijn64tab", laid_math_bits_deBruijn64tab)] }
def SetOrsSaid : Prop := setOrsRow.holds Tryd.pinned (OpenSpec.ofChange setOrsSpec)

/-- ITS FALSE NEIGHBOUR: 'it returns false'. Refute it at one input. -/
def setOrsWrong : ChangeSpec := { name := "setOrs", fn := fun _ => fun
  | [d1, d2, d3] => { results := [.lit (.bool false)], args := [d1, d2, d3] }
  | _ => none }
def SetOrsWrongFalsely : Prop := setOrsRow.holds Tryd.pinned (OpenSpec.ofChange setOrsWrong)

/- THE SECOND FORM. 'bulk': how many values and letters a reading holds, each counted each time it is reached (what is shared counts as often as it is met; a slice's spare places count too). A statement '..UptoSaid' is the law's where the arguments, and the package variables that the reading takes, are together of bulk at most 1048576: NARROWER than '..Said'. Prove '..Said' where nothing that the law and all that it calls make is longer than what came in: it says more and counts as full. Else prove '..UptoSaid'. A law counts once. -/
mutual
def uptoBulk {H : Type} : DataW H → Nat
  | .lit (.string bytes) => bytes.length + 1
  | .lit _ => 1
  | .nil => 1
  | .ptr d => uptoBulk d + 1
  | .slice elems spare => uptoBulkAll elems + uptoBulkAll spare + 1
  | .agg parts => uptoBulkAll parts + 1
  | .iface _ d => uptoBulk d + 1
  | .map entries => uptoBulkEntries entries + 1
  | .held _ => 1
def uptoBulkAll {H : Type} : List (DataW H) → Nat
  | [] => 0
  | d :: r => uptoBulk d + uptoBulkAll r
def uptoBulkEntries {H : Type} : List (Lit × DataW H) → Nat
  | [] => 0
  | x :: r => uptoBulkEntry x + uptoBulkEntries r
def uptoBulkEntry {H : Type} : Lit × DataW H → Nat
  | (.string bytes, d) => bytes.length + uptoBulk d + 1
  | (_, d) => uptoBulk d + 1
 end
def uptoSmall : (H : Type) → List (DataW H) → Bool := fun _ ds => decide (uptoBulkAll ds ≤ 1048576)
def OpenSpec.upto (s : _root_.Go.ChangeSpec) : _root_.Go.OpenSpec := { _root_.Go.OpenSpec.ofChange s with cond := some uptoSmall }

/-- 'calenderlaw02.SetClasses', WHERE WHAT IT READS IS OF BULK AT MOST 1048576: true; the input reads as it did. -/
def setClassesUptoRow : OpenClaim := { program := "ytmlgbjdohijlnaadoor", sum := "ef04a996dd373322e9d7cee1cce5309431e348d5722e739003d59e60ea97a77c", func := "calender/calenderlaw02.SetClasses", spec := "setClasses", unfollowed := true, recurses := true, named := ["math/bits.deBruijn64tab"], apart := false, laid := [("math/bits.deBruijn64tab", laid_math_bits_deBruijn64tab)], narrowed := true }
def SetClassesUptoSaid : Prop := setClassesUptoRow.holds Tryd.pinned (OpenSpec.upto setClassesSpec)

/-- 'calenderlaw02.SetFolds', WHERE WHAT IT READS IS OF BULK AT MOST 1048576: true; the input reads as it did. -/
def setFoldsUptoRow : OpenClaim := { program := "ytmlgbjdohijlnaadoor", sum := "ef04a996dd373322e9d7cee1cce5309431e348d5722e739003d59e60ea97a77c", func := "calender/calenderlaw02.SetFolds", spec := "setFolds", unfollowed := true, recurses := true, named := ["math/bits.deBruijn64tab"], apart := false, laid := [("math/bits.deBruijn64tab", laid_math_bits_deBruijn64tab)], narrowed := true }
def SetFoldsUptoSaid : Prop := setFoldsUptoRow.holds Tryd.pinned (OpenSpec.upto setFoldsSpec)

/-- 'calenderlaw02.SetWords', WHERE WHAT IT READS IS OF BULK AT MOST 1048576: true; the input reads as it did. -/
def setWordsUptoRow : OpenClaim := { program := "ytmlgbjdohijlnaadoor", sum := "ef04a996dd373322e9d7cee1cce5309431e348d5722e739003d59e60ea97a77c", func := "calender/calenderlaw02.SetWords", spec := "setWords", unfollowed := true, recurses := true, named := ["math/bits.deBruijn64tab"], apart := false, laid := [("math/bits.deBruijn64tab", laid_math_bits_deBruijn64tab)], narrowed := true }
def SetWordsUptoSaid : Prop := setWordsUptoRow.holds Tryd.pinned (OpenSpec.upto setWordsSpec)

/-- 'calenderlaw02.SetRanges', WHERE WHAT IT READS IS OF BULK AT MOST 1048576: true; the input reads as it did. -/
def setRangesUptoRow : OpenClaim := { program := "ytmlgbjdohijlnaadoor", sum := "ef04a996dd373322e9d7cee1cce5309431e348d5722e739003d59e60ea97a77c", func := "calender/calenderlaw02.SetRanges", spec := "setRanges", unfollowed := true, recurses := true, named := ["math/bits.deBruijn64tab"], apart := false, laid := [("math/bits.deBruijn64tab", laid_math_bits_deBruijn64tab)], narrowed := true }
def SetRangesUptoSaid : Prop := setRangesUptoRow.holds Tryd.pinned (OpenSpec.upto setRangesSpec)

/-- 'calenderlaw02.SetTells', WHERE WHAT IT READS IS OF BULK AT MOST 1048576: true; the input reads as it did. -/
def setTellsUptoRow : OpenClaim := { program := "ytmlgbjdohijlnaadoor", sum := "ef04a996dd373322e9d7cee1cce5309431e348d5722e739003d59e60ea97a77c", func := "calender/calenderlaw02.SetTells", spec := "setTells", unfollowed := true, recurses := true, named := ["math/bits.deBruijn64tab"], apart := false, laid := [("math/bits.deBruijn64tab", laid_math_bits_deBruijn64tab)], narrowed := true }
def SetTellsUptoSaid : Prop := setTellsUptoRow.holds Tryd.pinned (OpenSpec.upto setTellsSpec)

/-- 'calenderlaw02.SetBack', WHERE WHAT IT READS IS OF BULK AT MOST 1048576: true; the input reads as it did. -/
def setBackUptoRow : OpenClaim := { program := "ytmlgbjdohijlnaadoor", sum := "ef04a996dd373322e9d7cee1cce5309431e348d5722e739003d59e60ea97a77c", func := "calender/calenderlaw02.SetBack", spec := "setBack", unfollowed := true, recurses := true, named := ["math/bits.deBruijn64tab"], apart := false, laid := [("math/bits.deBruijn64tab", laid_math_bits_deBruijn64tab)], narrowed := true }
def SetBackUptoSaid : Prop := setBackUptoRow.holds Tryd.pinned (OpenSpec.upto setBackSpec)

/-- 'calenderlaw02.SetOrs', WHERE WHAT IT READS IS OF BULK AT MOST 1048576: true; the input reads as it did. -/
def setOrsUptoRow : OpenClaim := { program := "ytmlgbjdohijlnaadoor", sum := "ef04a996dd373322e9d7cee1cce5309431e348d5722e739003d59e60ea97a77c", func := "calender/calenderlaw02.SetOrs", spec := "setOrs", unfollowed := true, recurses := true, named := ["math/bits.deBruijn64tab"], apart := false, laid := [("math/bits.deBruijn64tab", laid_math_bits_deBruijn64tab)], narrowed := true }
def SetOrsUptoSaid : Prop := setOrsUptoRow.holds Tryd.pinned (OpenSpec.upto setOrsSpec)

end Rows
end Go.Proofs.YtmlgbjdohijlnaaDoor
