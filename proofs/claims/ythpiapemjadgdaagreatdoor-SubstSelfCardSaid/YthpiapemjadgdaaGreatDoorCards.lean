/-
  DERIVED. GIVEN WITH THE SEED: THE CARDS: each row of YthpiapemjadgdaaGreatDoorRows.lean that lists a variable, with what it lists TIED to the program's text (the seventh form; the later family's looks); each row that meets fmt, with fmt's text TOLD by the authors' own Lean function (tested against real Go, not proved from fmt's source: count such statements apart). THE CARD IS WHAT COUNTS. Prove the row's statement (the work); the ties are given (YthpiapemjadgdaaGreatDoorTie.lean); close each card by the builder's one call (the guide's Derived/Test/ToyasCard.lean, 'card_holds'). Laid BY PROGRAM, IN A SANDBOX (cutbox-door.mjs). By AI agents, Wed Nov 11 2026. No macro, syntax, notation, axiom, sorry.
-/
import Derived.Test.YthpiapemjadgdaaGreatDoorRows
import GoSem.ClaimSeven
namespace Go.Proofs.YthpiapemjadgdaaGreatDoor
namespace Rows

/-- THE TIED CARD OF 'calenderlaw07.FindFirst'. -/
def findFirstCard : Claim7 := { stood := { row := findFirstRow, standIns := [], harness := (true, "31174d0847e5522569ad955f0ef202df160b677de1883f25063c6727c1ecb677"), looks := true }, kinds := [], alts := [], laidByText := true, laidKinds := [.data, .data, .data, .sentinel, .sentinel], laidTests := true, laidLooks := .later }
def FindFirstCardSaid : Prop := Claim7.holds Tryz.pinned (.plain (OpenSpec.ofChange findFirstSpec)) findFirstCard

/-- THE TIED CARD OF 'calenderlaw07.FindAll'. -/
def findAllCard : Claim7 := { stood := { row := findAllRow, standIns := [], harness := (true, "31174d0847e5522569ad955f0ef202df160b677de1883f25063c6727c1ecb677"), looks := true }, kinds := [], alts := [], laidByText := true, laidKinds := [.data, .data, .data, .sentinel, .sentinel], laidTests := true, laidLooks := .later }
def FindAllCardSaid : Prop := Claim7.holds Tryz.pinned (.plain (OpenSpec.ofChange findAllSpec)) findAllCard

/-- THE TIED CARD OF 'calenderlaw07.FindBetween'. -/
def findBetweenCard : Claim7 := { stood := { row := findBetweenRow, standIns := [], harness := (true, "31174d0847e5522569ad955f0ef202df160b677de1883f25063c6727c1ecb677"), looks := true }, kinds := [], alts := [], laidByText := true, laidKinds := [.data, .data, .data, .sentinel, .sentinel], laidTests := true, laidLooks := .later }
def FindBetweenCardSaid : Prop := Claim7.holds Tryz.pinned (.plain (OpenSpec.ofChange findBetweenSpec)) findBetweenCard

/-- THE TIED CARD OF 'calenderlaw07.FindLetters'. -/
def findLettersCard : Claim7 := { stood := { row := findLettersRow, standIns := [], harness := (true, "31174d0847e5522569ad955f0ef202df160b677de1883f25063c6727c1ecb677"), looks := true }, kinds := [], alts := [], laidByText := true, laidKinds := [.data, .data, .data, .sentinel, .sentinel], laidTests := true, laidLooks := .later }
def FindLettersCardSaid : Prop := Claim7.holds Tryz.pinned (.plain (OpenSpec.ofChange findLettersSpec)) findLettersCard

/-- THE TIED CARD OF 'calenderlaw07.FindLater'. -/
def findLaterCard : Claim7 := { stood := { row := findLaterRow, standIns := [], harness := (true, "31174d0847e5522569ad955f0ef202df160b677de1883f25063c6727c1ecb677"), looks := true }, kinds := [], alts := [], laidByText := true, laidKinds := [.data, .data, .data, .sentinel, .sentinel], laidTests := true, laidLooks := .later }
def FindLaterCardSaid : Prop := Claim7.holds Tryz.pinned (.plain (OpenSpec.ofChange findLaterSpec)) findLaterCard

/-- THE TIED CARD OF 'calenderlaw07.FindRises'. -/
def findRisesCard : Claim7 := { stood := { row := findRisesRow, standIns := [], harness := (true, "31174d0847e5522569ad955f0ef202df160b677de1883f25063c6727c1ecb677"), looks := true }, kinds := [], alts := [], laidByText := true, laidKinds := [.data, .data, .data, .sentinel, .sentinel], laidTests := true, laidLooks := .later }
def FindRisesCardSaid : Prop := Claim7.holds Tryz.pinned (.plain (OpenSpec.ofChange findRisesSpec)) findRisesCard

/-- THE TIED CARD OF 'calenderlaw09.SubstSelf'. -/
def substSelfCard : Claim7 := { stood := { row := substSelfRow, standIns := [], harness := (true, "31174d0847e5522569ad955f0ef202df160b677de1883f25063c6727c1ecb677"), looks := true }, kinds := [], alts := [], laidByText := true, laidKinds := [.data, .data, .data, .sentinel, .sentinel], laidTests := true, laidLooks := .later }
def SubstSelfCardSaid : Prop := Claim7.holds Tryz.pinned (.plain (OpenSpec.ofChange substSelfSpec)) substSelfCard

/-- THE TIED CARD OF 'calenderlaw09.SubstNth'. -/
def substNthCard : Claim7 := { stood := { row := substNthRow, standIns := [], harness := (true, "31174d0847e5522569ad955f0ef202df160b677de1883f25063c6727c1ecb677"), looks := true }, kinds := [], alts := [], laidByText := true, laidKinds := [.data, .data, .data, .sentinel, .sentinel], laidTests := true, laidLooks := .later }
def SubstNthCardSaid : Prop := Claim7.holds Tryz.pinned (.plain (OpenSpec.ofChange substNthSpec)) substNthCard

/-- THE TIED CARD OF 'calenderlaw09.SubstBack'. -/
def substBackCard : Claim7 := { stood := { row := substBackRow, standIns := [], harness := (true, "31174d0847e5522569ad955f0ef202df160b677de1883f25063c6727c1ecb677"), looks := true }, kinds := [], alts := [], laidByText := true, laidKinds := [.data, .data, .data, .sentinel, .sentinel], laidTests := true, laidLooks := .later }
def SubstBackCardSaid : Prop := Claim7.holds Tryz.pinned (.plain (OpenSpec.ofChange substBackSpec)) substBackCard

/-- THE SECOND FORM's CARD OF 'calenderlaw07.FindFirst'. -/
def findFirstUptoCard : Claim7 := { stood := { row := findFirstUptoRow, standIns := [], harness := (true, "31174d0847e5522569ad955f0ef202df160b677de1883f25063c6727c1ecb677"), looks := true }, kinds := [], alts := [], laidByText := true, laidKinds := [.data, .data, .data, .sentinel, .sentinel], laidTests := true, laidLooks := .later }
def FindFirstUptoCardSaid : Prop := Claim7.holds Tryz.pinned (.plain (OpenSpec.upto findFirstSpec)) findFirstUptoCard

/-- THE SECOND FORM's CARD OF 'calenderlaw07.FindAll'. -/
def findAllUptoCard : Claim7 := { stood := { row := findAllUptoRow, standIns := [], harness := (true, "31174d0847e5522569ad955f0ef202df160b677de1883f25063c6727c1ecb677"), looks := true }, kinds := [], alts := [], laidByText := true, laidKinds := [.data, .data, .data, .sentinel, .sentinel], laidTests := true, laidLooks := .later }
def FindAllUptoCardSaid : Prop := Claim7.holds Tryz.pinned (.plain (OpenSpec.upto findAllSpec)) findAllUptoCard

/-- THE SECOND FORM's CARD OF 'calenderlaw07.FindBetween'. -/
def findBetweenUptoCard : Claim7 := { stood := { row := findBetweenUptoRow, standIns := [], harness := (true, "31174d0847e5522569ad955f0ef202df160b677de1883f25063c6727c1ecb677"), looks := true }, kinds := [], alts := [], laidByText := true, laidKinds := [.data, .data, .data, .sentinel, .sentinel], laidTests := true, laidLooks := .later }
def FindBetweenUptoCardSaid : Prop := Claim7.holds Tryz.pinned (.plain (OpenSpec.upto findBetweenSpec)) findBetweenUptoCard

/-- THE SECOND FORM's CARD OF 'calenderlaw07.FindLetters'. -/
def findLettersUptoCard : Claim7 := { stood := { row := findLettersUptoRow, standIns := [], harness := (true, "31174d0847e5522569ad955f0ef202df160b677de1883f25063c6727c1ecb677"), looks := true }, kinds := [], alts := [], laidByText := true, laidKinds := [.data, .data, .data, .sentinel, .sentinel], laidTests := true, laidLooks := .later }
def FindLettersUptoCardSaid : Prop := Claim7.holds Tryz.pinned (.plain (OpenSpec.upto findLettersSpec)) findLettersUptoCard

/-- THE SECOND FORM's CARD OF 'calenderlaw07.FindLater'. -/
def findLaterUptoCard : Claim7 := { stood := { row := findLaterUptoRow, standIns := [], harness := (true, "31174d0847e5522569ad955f0ef202df160b677de1883f25063c6727c1ecb677"), looks := true }, kinds := [], alts := [], laidByText := true, laidKinds := [.data, .data, .data, .sentinel, .sentinel], laidTests := true, laidLooks := .later }
def FindLaterUptoCardSaid : Prop := Claim7.holds Tryz.pinned (.plain (OpenSpec.upto findLaterSpec)) findLaterUptoCard

/-- THE SECOND FORM's CARD OF 'calenderlaw07.FindRises'. -/
def findRisesUptoCard : Claim7 := { stood := { row := findRisesUptoRow, standIns := [], harness := (true, "31174d0847e5522569ad955f0ef202df160b677de1883f25063c6727c1ecb677"), looks := true }, kinds := [], alts := [], laidByText := true, laidKinds := [.data, .data, .data, .sentinel, .sentinel], laidTests := true, laidLooks := .later }
def FindRisesUptoCardSaid : Prop := Claim7.holds Tryz.pinned (.plain (OpenSpec.upto findRisesSpec)) findRisesUptoCard

/-- THE SECOND FORM's CARD OF 'calenderlaw09.SubstSelf'. -/
def substSelfUptoCard : Claim7 := { stood := { row := substSelfUptoRow, standIns := [], harness := (true, "31174d0847e5522569ad955f0ef202df160b677de1883f25063c6727c1ecb677"), looks := true }, kinds := [], alts := [], laidByText := true, laidKinds := [.data, .data, .data, .sentinel, .sentinel], laidTests := true, laidLooks := .later }
def SubstSelfUptoCardSaid : Prop := Claim7.holds Tryz.pinned (.plain (OpenSpec.upto substSelfSpec)) substSelfUptoCard

/-- THE SECOND FORM's CARD OF 'calenderlaw09.SubstNth'. -/
def substNthUptoCard : Claim7 := { stood := { row := substNthUptoRow, standIns := [], harness := (true, "31174d0847e5522569ad955f0ef202df160b677de1883f25063c6727c1ecb677"), looks := true }, kinds := [], alts := [], laidByText := true, laidKinds := [.data, .data, .data, .sentinel, .sentinel], laidTests := true, laidLooks := .later }
def SubstNthUptoCardSaid : Prop := Claim7.holds Tryz.pinned (.plain (OpenSpec.upto substNthSpec)) substNthUptoCard

/-- THE SECOND FORM's CARD OF 'calenderlaw09.SubstBack'. -/
def substBackUptoCard : Claim7 := { stood := { row := substBackUptoRow, standIns := [], harness := (true, "31174d0847e5522569ad955f0ef202df160b677de1883f25063c6727c1ecb677"), looks := true }, kinds := [], alts := [], laidByText := true, laidKinds := [.data, .data, .data, .sentinel, .sentinel], laidTests := true, laidLooks := .later }
def SubstBackUptoCardSaid : Prop := Claim7.holds Tryz.pinned (.plain (OpenSpec.upto substBackSpec)) substBackUptoCard
end Rows
end Go.Proofs.YthpiapemjadgdaaGreatDoor
