/-
  DERIVED. GIVEN WITH THE SEED: THE CARDS: each row of YtiaiipmocamofaaDoorRows.lean that lists a variable, with what it lists TIED to the program's text (the seventh form; the later family's looks); each row that meets fmt, with fmt's text TOLD by the authors' own Lean function (tested against real Go, not proved from fmt's source: count such statements apart). THE CARD IS WHAT COUNTS. Prove the row's statement (the work); the ties are given (YtiaiipmocamofaaDoorTie.lean); close each card by the builder's one call (the guide's Derived/Test/ToyasCard.lean, 'card_holds'). Laid BY PROGRAM, IN A SANDBOX (cutbox-door.mjs). By AI agents, Wed Nov 11 2026. No macro, syntax, notation, axiom, sorry.
-/
import Derived.Test.YtiaiipmocamofaaDoorRows
import GoSem.ClaimSeven
namespace Go.Proofs.YtiaiipmocamofaaDoor
namespace Rows

/-- THE TIED CARD OF 'calenderlaw12.PieceBack'. -/
def pieceBackCard : Claim7 := { stood := { row := pieceBackRow, standIns := [], harness := (true, "7962142fa02f47ef158685f595511f65822424b6805875b5ca000a30366f1c3d"), looks := true }, kinds := [], alts := [], laidByText := true, laidKinds := [.data, .pinned], laidTests := true, laidLooks := .later }
def PieceBackCardSaid : Prop := Claim7.holds Tryd.pinned (.plain (OpenSpec.ofChange pieceBackSpec)) pieceBackCard

/-- THE TIED CARD OF 'calenderlaw12.PieceWords'. -/
def pieceWordsCard : Claim7 := { stood := { row := pieceWordsRow, standIns := [], harness := (true, "7962142fa02f47ef158685f595511f65822424b6805875b5ca000a30366f1c3d"), looks := true }, kinds := [], alts := [], laidByText := true, laidKinds := [.data, .data, .data, .data, .sentinel, .sentinel, .pinned], laidTests := true, laidLooks := .later }
def PieceWordsCardSaid : Prop := Claim7.holds Tryd.pinned (.plain (OpenSpec.ofChange pieceWordsSpec)) pieceWordsCard

/-- THE SECOND FORM's CARD OF 'calenderlaw12.PieceBack'. -/
def pieceBackUptoCard : Claim7 := { stood := { row := pieceBackUptoRow, standIns := [], harness := (true, "7962142fa02f47ef158685f595511f65822424b6805875b5ca000a30366f1c3d"), looks := true }, kinds := [], alts := [], laidByText := true, laidKinds := [.data, .pinned], laidTests := true, laidLooks := .later }
def PieceBackUptoCardSaid : Prop := Claim7.holds Tryd.pinned (.plain (OpenSpec.upto pieceBackSpec)) pieceBackUptoCard

/-- THE SECOND FORM's CARD OF 'calenderlaw12.PieceWords'. -/
def pieceWordsUptoCard : Claim7 := { stood := { row := pieceWordsUptoRow, standIns := [], harness := (true, "7962142fa02f47ef158685f595511f65822424b6805875b5ca000a30366f1c3d"), looks := true }, kinds := [], alts := [], laidByText := true, laidKinds := [.data, .data, .data, .data, .sentinel, .sentinel, .pinned], laidTests := true, laidLooks := .later }
def PieceWordsUptoCardSaid : Prop := Claim7.holds Tryd.pinned (.plain (OpenSpec.upto pieceWordsSpec)) pieceWordsUptoCard
end Rows
end Go.Proofs.YtiaiipmocamofaaDoor
