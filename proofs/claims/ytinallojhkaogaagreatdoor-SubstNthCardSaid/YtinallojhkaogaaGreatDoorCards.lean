/-
  DERIVED. GIVEN WITH THE SEED: THE CARDS: each row of YtinallojhkaogaaGreatDoorRows.lean that lists a variable, with what it lists TIED to the program's text (the seventh form; the later family's looks); each row that meets fmt, with fmt's text TOLD by the authors' own Lean function (tested against real Go, not proved from fmt's source: count such statements apart). THE CARD IS WHAT COUNTS. Prove the row's statement (the work); the ties are given (YtinallojhkaogaaGreatDoorTie.lean); close each card by the builder's one call (the guide's Derived/Test/ToyasCard.lean, 'card_holds'). Laid BY PROGRAM, IN A SANDBOX (cutbox-door.mjs). By AI agents, Wed Nov 11 2026. No macro, syntax, notation, axiom, sorry.
-/
import Derived.Test.YtinallojhkaogaaGreatDoorRows
import GoSem.ClaimSeven
namespace Go.Proofs.YtinallojhkaogaaGreatDoor
namespace Rows

/-- THE TIED CARD OF 'calenderlaw07.FindAll'. -/
def findAllCard : Claim7 := { stood := { row := findAllRow, standIns := [], harness := (true, "62c8e617a163e7b2320244610d324f8c97293e959e792e1f74db4e2b48618c88"), looks := true }, kinds := [], alts := [], laidByText := true, laidKinds := [.data, .data, .data, .sentinel, .sentinel], laidTests := true, laidLooks := .later }
def FindAllCardSaid : Prop := Claim7.holds Tryz.pinned (.plain (OpenSpec.ofChange findAllSpec)) findAllCard

/-- THE TIED CARD OF 'calenderlaw06.MatchEnds'. -/
def matchEndsCard : Claim7 := { stood := { row := matchEndsRow, standIns := [], harness := (true, "62c8e617a163e7b2320244610d324f8c97293e959e792e1f74db4e2b48618c88"), looks := true }, kinds := [], alts := [], laidByText := true, laidKinds := [.data, .data, .data, .sentinel, .sentinel], laidTests := true, laidLooks := .later }
def MatchEndsCardSaid : Prop := Claim7.holds Tryz.pinned (.plain (OpenSpec.ofChange matchEndsSpec)) matchEndsCard

/-- THE TIED CARD OF 'calenderlaw06.MatchWhole'. -/
def matchWholeCard : Claim7 := { stood := { row := matchWholeRow, standIns := [], harness := (true, "62c8e617a163e7b2320244610d324f8c97293e959e792e1f74db4e2b48618c88"), looks := true }, kinds := [], alts := [], laidByText := true, laidKinds := [.data, .data, .data, .sentinel, .sentinel], laidTests := true, laidLooks := .later }
def MatchWholeCardSaid : Prop := Claim7.holds Tryz.pinned (.plain (OpenSpec.ofChange matchWholeSpec)) matchWholeCard

/-- THE TIED CARD OF 'calenderlaw09.SubstNth'. -/
def substNthCard : Claim7 := { stood := { row := substNthRow, standIns := [], harness := (true, "62c8e617a163e7b2320244610d324f8c97293e959e792e1f74db4e2b48618c88"), looks := true }, kinds := [], alts := [], laidByText := true, laidKinds := [.data, .data, .data, .sentinel, .sentinel], laidTests := true, laidLooks := .later }
def SubstNthCardSaid : Prop := Claim7.holds Tryz.pinned (.plain (OpenSpec.ofChange substNthSpec)) substNthCard

/-- THE TIED CARD OF 'calenderlaw09.SubstBack'. -/
def substBackCard : Claim7 := { stood := { row := substBackRow, standIns := [], harness := (true, "62c8e617a163e7b2320244610d324f8c97293e959e792e1f74db4e2b48618c88"), looks := true }, kinds := [], alts := [], laidByText := true, laidKinds := [.data, .data, .data, .sentinel, .sentinel], laidTests := true, laidLooks := .later }
def SubstBackCardSaid : Prop := Claim7.holds Tryz.pinned (.plain (OpenSpec.ofChange substBackSpec)) substBackCard

/-- THE SECOND FORM's CARD OF 'calenderlaw07.FindAll'. -/
def findAllUptoCard : Claim7 := { stood := { row := findAllUptoRow, standIns := [], harness := (true, "62c8e617a163e7b2320244610d324f8c97293e959e792e1f74db4e2b48618c88"), looks := true }, kinds := [], alts := [], laidByText := true, laidKinds := [.data, .data, .data, .sentinel, .sentinel], laidTests := true, laidLooks := .later }
def FindAllUptoCardSaid : Prop := Claim7.holds Tryz.pinned (.plain (OpenSpec.upto findAllSpec)) findAllUptoCard

/-- THE SECOND FORM's CARD OF 'calenderlaw06.MatchEnds'. -/
def matchEndsUptoCard : Claim7 := { stood := { row := matchEndsUptoRow, standIns := [], harness := (true, "62c8e617a163e7b2320244610d324f8c97293e959e792e1f74db4e2b48618c88"), looks := true }, kinds := [], alts := [], laidByText := true, laidKinds := [.data, .data, .data, .sentinel, .sentinel], laidTests := true, laidLooks := .later }
def MatchEndsUptoCardSaid : Prop := Claim7.holds Tryz.pinned (.plain (OpenSpec.upto matchEndsSpec)) matchEndsUptoCard

/-- THE SECOND FORM's CARD OF 'calenderlaw06.MatchWhole'. -/
def matchWholeUptoCard : Claim7 := { stood := { row := matchWholeUptoRow, standIns := [], harness := (true, "62c8e617a163e7b2320244610d324f8c97293e959e792e1f74db4e2b48618c88"), looks := true }, kinds := [], alts := [], laidByText := true, laidKinds := [.data, .data, .data, .sentinel, .sentinel], laidTests := true, laidLooks := .later }
def MatchWholeUptoCardSaid : Prop := Claim7.holds Tryz.pinned (.plain (OpenSpec.upto matchWholeSpec)) matchWholeUptoCard

/-- THE SECOND FORM's CARD OF 'calenderlaw09.SubstNth'. -/
def substNthUptoCard : Claim7 := { stood := { row := substNthUptoRow, standIns := [], harness := (true, "62c8e617a163e7b2320244610d324f8c97293e959e792e1f74db4e2b48618c88"), looks := true }, kinds := [], alts := [], laidByText := true, laidKinds := [.data, .data, .data, .sentinel, .sentinel], laidTests := true, laidLooks := .later }
def SubstNthUptoCardSaid : Prop := Claim7.holds Tryz.pinned (.plain (OpenSpec.upto substNthSpec)) substNthUptoCard

/-- THE SECOND FORM's CARD OF 'calenderlaw09.SubstBack'. -/
def substBackUptoCard : Claim7 := { stood := { row := substBackUptoRow, standIns := [], harness := (true, "62c8e617a163e7b2320244610d324f8c97293e959e792e1f74db4e2b48618c88"), looks := true }, kinds := [], alts := [], laidByText := true, laidKinds := [.data, .data, .data, .sentinel, .sentinel], laidTests := true, laidLooks := .later }
def SubstBackUptoCardSaid : Prop := Claim7.holds Tryz.pinned (.plain (OpenSpec.upto substBackSpec)) substBackUptoCard
end Rows
end Go.Proofs.YtinallojhkaogaaGreatDoor
