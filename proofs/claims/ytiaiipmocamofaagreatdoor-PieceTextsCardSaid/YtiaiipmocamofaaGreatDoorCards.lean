/-
  DERIVED. GIVEN WITH THE SEED: THE CARDS: each row of YtiaiipmocamofaaGreatDoorRows.lean that lists a variable, with what it lists TIED to the program's text (the seventh form; the later family's looks); each row that meets fmt, with fmt's text TOLD by the authors' own Lean function (tested against real Go, not proved from fmt's source: count such statements apart). THE CARD IS WHAT COUNTS. Prove the row's statement (the work); the ties are given (YtiaiipmocamofaaGreatDoorTie.lean); close each card by the builder's one call (the guide's Derived/Test/ToyasCard.lean, 'card_holds'). Laid BY PROGRAM, IN A SANDBOX (cutbox-door.mjs). By AI agents, Wed Nov 11 2026. No macro, syntax, notation, axiom, sorry.
-/
import Derived.Test.YtiaiipmocamofaaGreatDoorRows
import GoSem.ClaimSeven
namespace Go.Proofs.YtiaiipmocamofaaGreatDoor
namespace Rows

/-- THE TIED CARD OF 'calenderlaw12.PieceTexts'. -/
def pieceTextsCard : Claim7 := { stood := { row := pieceTextsRow, standIns := [], harness := (true, "fd5cfbc0b13a6e1c10f606b437875cff03eb687d5f0da3462782c73143082230"), looks := true }, kinds := [], alts := [], laidByText := true, laidKinds := [.data, .pinned], laidTests := true, laidLooks := .later }
def PieceTextsCardSaid : Prop := Claim7.holds Tryz.pinned (.plain (OpenSpec.ofChange pieceTextsSpec)) pieceTextsCard

/-- THE SECOND FORM's CARD OF 'calenderlaw12.PieceTexts'. -/
def pieceTextsUptoCard : Claim7 := { stood := { row := pieceTextsUptoRow, standIns := [], harness := (true, "fd5cfbc0b13a6e1c10f606b437875cff03eb687d5f0da3462782c73143082230"), looks := true }, kinds := [], alts := [], laidByText := true, laidKinds := [.data, .pinned], laidTests := true, laidLooks := .later }
def PieceTextsUptoCardSaid : Prop := Claim7.holds Tryz.pinned (.plain (OpenSpec.upto pieceTextsSpec)) pieceTextsUptoCard
end Rows
end Go.Proofs.YtiaiipmocamofaaGreatDoor
