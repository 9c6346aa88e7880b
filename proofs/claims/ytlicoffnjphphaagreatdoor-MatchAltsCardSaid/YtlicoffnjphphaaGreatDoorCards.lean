/-
  DERIVED. GIVEN WITH THE SEED: THE CARDS: each row of YtlicoffnjphphaaGreatDoorRows.lean that lists a variable, with what it lists TIED to the program's text (the seventh form; the later family's looks); each row that meets fmt, with fmt's text TOLD by the authors' own Lean function (tested against real Go, not proved from fmt's source: count such statements apart). THE CARD IS WHAT COUNTS. Prove the row's statement (the work); the ties are given (YtlicoffnjphphaaGreatDoorTie.lean); close each card by the builder's one call (the guide's Derived/Test/ToyasCard.lean, 'card_holds'). Laid BY PROGRAM, IN A SANDBOX (cutbox-door.mjs). By AI agents, Wed Nov 11 2026. No macro, syntax, notation, axiom, sorry.
-/
import Derived.Test.YtlicoffnjphphaaGreatDoorRows
import GoSem.ClaimSeven
namespace Go.Proofs.YtlicoffnjphphaaGreatDoor
namespace Rows

/-- THE TIED CARD OF 'calenderlaw06.MatchEnds'. -/
def matchEndsCard : Claim7 := { stood := { row := matchEndsRow, standIns := [], harness := (true, "63e59ffc2c52fa83b1ba88b297f625ceeae60b6fd4e6db9f5ae32b0b0c257a4e"), looks := true }, kinds := [], alts := [], laidByText := true, laidKinds := [.data, .data, .data, .sentinel, .sentinel], laidTests := true, laidLooks := .later }
def MatchEndsCardSaid : Prop := Claim7.holds Tryz.pinned (.plain (OpenSpec.ofChange matchEndsSpec)) matchEndsCard

/-- THE TIED CARD OF 'calenderlaw06.MatchWhole'. -/
def matchWholeCard : Claim7 := { stood := { row := matchWholeRow, standIns := [], harness := (true, "63e59ffc2c52fa83b1ba88b297f625ceeae60b6fd4e6db9f5ae32b0b0c257a4e"), looks := true }, kinds := [], alts := [], laidByText := true, laidKinds := [.data, .data, .data, .sentinel, .sentinel], laidTests := true, laidLooks := .later }
def MatchWholeCardSaid : Prop := Claim7.holds Tryz.pinned (.plain (OpenSpec.ofChange matchWholeSpec)) matchWholeCard

/-- THE TIED CARD OF 'calenderlaw06.MatchEach'. -/
def matchEachCard : Claim7 := { stood := { row := matchEachRow, standIns := [], harness := (true, "63e59ffc2c52fa83b1ba88b297f625ceeae60b6fd4e6db9f5ae32b0b0c257a4e"), looks := true }, kinds := [], alts := [], laidByText := true, laidKinds := [.data, .data, .data, .sentinel, .sentinel], laidTests := true, laidLooks := .later }
def MatchEachCardSaid : Prop := Claim7.holds Tryz.pinned (.plain (OpenSpec.ofChange matchEachSpec)) matchEachCard

/-- THE TIED CARD OF 'calenderlaw06.MatchAlts'. -/
def matchAltsCard : Claim7 := { stood := { row := matchAltsRow, standIns := [], harness := (true, "63e59ffc2c52fa83b1ba88b297f625ceeae60b6fd4e6db9f5ae32b0b0c257a4e"), looks := true }, kinds := [], alts := [], laidByText := true, laidKinds := [.data, .data, .data, .sentinel, .sentinel], laidTests := true, laidLooks := .later }
def MatchAltsCardSaid : Prop := Claim7.holds Tryz.pinned (.plain (OpenSpec.ofChange matchAltsSpec)) matchAltsCard

/-- THE TIED CARD OF 'calenderlaw06.MatchInside'. -/
def matchInsideCard : Claim7 := { stood := { row := matchInsideRow, standIns := [], harness := (true, "63e59ffc2c52fa83b1ba88b297f625ceeae60b6fd4e6db9f5ae32b0b0c257a4e"), looks := true }, kinds := [], alts := [], laidByText := true, laidKinds := [.data, .data, .data, .sentinel, .sentinel], laidTests := true, laidLooks := .later }
def MatchInsideCardSaid : Prop := Claim7.holds Tryz.pinned (.plain (OpenSpec.ofChange matchInsideSpec)) matchInsideCard

/-- THE TIED CARD OF 'calenderlaw06.MatchOne'. -/
def matchOneCard : Claim7 := { stood := { row := matchOneRow, standIns := [], harness := (true, "63e59ffc2c52fa83b1ba88b297f625ceeae60b6fd4e6db9f5ae32b0b0c257a4e"), looks := true }, kinds := [], alts := [], laidByText := true, laidKinds := [.data, .data, .data, .sentinel, .sentinel], laidTests := true, laidLooks := .later }
def MatchOneCardSaid : Prop := Claim7.holds Tryz.pinned (.plain (OpenSpec.ofChange matchOneSpec)) matchOneCard

/-- THE SECOND FORM's CARD OF 'calenderlaw06.MatchEnds'. -/
def matchEndsUptoCard : Claim7 := { stood := { row := matchEndsUptoRow, standIns := [], harness := (true, "63e59ffc2c52fa83b1ba88b297f625ceeae60b6fd4e6db9f5ae32b0b0c257a4e"), looks := true }, kinds := [], alts := [], laidByText := true, laidKinds := [.data, .data, .data, .sentinel, .sentinel], laidTests := true, laidLooks := .later }
def MatchEndsUptoCardSaid : Prop := Claim7.holds Tryz.pinned (.plain (OpenSpec.upto matchEndsSpec)) matchEndsUptoCard

/-- THE SECOND FORM's CARD OF 'calenderlaw06.MatchWhole'. -/
def matchWholeUptoCard : Claim7 := { stood := { row := matchWholeUptoRow, standIns := [], harness := (true, "63e59ffc2c52fa83b1ba88b297f625ceeae60b6fd4e6db9f5ae32b0b0c257a4e"), looks := true }, kinds := [], alts := [], laidByText := true, laidKinds := [.data, .data, .data, .sentinel, .sentinel], laidTests := true, laidLooks := .later }
def MatchWholeUptoCardSaid : Prop := Claim7.holds Tryz.pinned (.plain (OpenSpec.upto matchWholeSpec)) matchWholeUptoCard

/-- THE SECOND FORM's CARD OF 'calenderlaw06.MatchEach'. -/
def matchEachUptoCard : Claim7 := { stood := { row := matchEachUptoRow, standIns := [], harness := (true, "63e59ffc2c52fa83b1ba88b297f625ceeae60b6fd4e6db9f5ae32b0b0c257a4e"), looks := true }, kinds := [], alts := [], laidByText := true, laidKinds := [.data, .data, .data, .sentinel, .sentinel], laidTests := true, laidLooks := .later }
def MatchEachUptoCardSaid : Prop := Claim7.holds Tryz.pinned (.plain (OpenSpec.upto matchEachSpec)) matchEachUptoCard

/-- THE SECOND FORM's CARD OF 'calenderlaw06.MatchAlts'. -/
def matchAltsUptoCard : Claim7 := { stood := { row := matchAltsUptoRow, standIns := [], harness := (true, "63e59ffc2c52fa83b1ba88b297f625ceeae60b6fd4e6db9f5ae32b0b0c257a4e"), looks := true }, kinds := [], alts := [], laidByText := true, laidKinds := [.data, .data, .data, .sentinel, .sentinel], laidTests := true, laidLooks := .later }
def MatchAltsUptoCardSaid : Prop := Claim7.holds Tryz.pinned (.plain (OpenSpec.upto matchAltsSpec)) matchAltsUptoCard

/-- THE SECOND FORM's CARD OF 'calenderlaw06.MatchInside'. -/
def matchInsideUptoCard : Claim7 := { stood := { row := matchInsideUptoRow, standIns := [], harness := (true, "63e59ffc2c52fa83b1ba88b297f625ceeae60b6fd4e6db9f5ae32b0b0c257a4e"), looks := true }, kinds := [], alts := [], laidByText := true, laidKinds := [.data, .data, .data, .sentinel, .sentinel], laidTests := true, laidLooks := .later }
def MatchInsideUptoCardSaid : Prop := Claim7.holds Tryz.pinned (.plain (OpenSpec.upto matchInsideSpec)) matchInsideUptoCard

/-- THE SECOND FORM's CARD OF 'calenderlaw06.MatchOne'. -/
def matchOneUptoCard : Claim7 := { stood := { row := matchOneUptoRow, standIns := [], harness := (true, "63e59ffc2c52fa83b1ba88b297f625ceeae60b6fd4e6db9f5ae32b0b0c257a4e"), looks := true }, kinds := [], alts := [], laidByText := true, laidKinds := [.data, .data, .data, .sentinel, .sentinel], laidTests := true, laidLooks := .later }
def MatchOneUptoCardSaid : Prop := Claim7.holds Tryz.pinned (.plain (OpenSpec.upto matchOneSpec)) matchOneUptoCard
end Rows
end Go.Proofs.YtlicoffnjphphaaGreatDoor
