/-
  DERIVED. GIVEN WITH THE SEED: THE CARDS: each row of YtpgglnibfojdgaaDoorRows.lean that lists a variable, with what it lists TIED to the program's text (the seventh form; the later family's looks); each row that meets fmt, with fmt's text TOLD by the authors' own Lean function (tested against real Go, not proved from fmt's source: count such statements apart). THE CARD IS WHAT COUNTS. Prove the row's statement (the work); the ties are given (YtpgglnibfojdgaaDoorTie.lean); close each card by the builder's one call (the guide's Derived/Test/ToyasCard.lean, 'card_holds'). Laid BY PROGRAM, IN A SANDBOX (cutbox-door.mjs). By AI agents, Wed Nov 11 2026. No macro, syntax, notation, axiom, sorry.
-/
import Derived.Test.YtpgglnibfojdgaaDoorRows
import GoSem.ClaimSeven
namespace Go.Proofs.YtpgglnibfojdgaaDoor
namespace Rows

/-- THE TIED CARD OF 'calenderlaw10.TransMakes'. -/
def transMakesCard : Claim7 := { stood := { row := transMakesRow, standIns := [], harness := (true, "d1142aea51159725ebdf46d6e39ec1baae90dc2c94711c88bfc142f5e8f41c10"), looks := true }, kinds := [], alts := [], laidByText := true, laidKinds := [.data, .data, .data, .sentinel, .sentinel], laidTests := true, laidLooks := .later }
def TransMakesCardSaid : Prop := Claim7.holds Tryd.pinned (.plain (OpenSpec.ofChange transMakesSpec)) transMakesCard

/-- THE TIED CARD OF 'calenderlaw10.TransLists'. -/
def transListsCard : Claim7 := { stood := { row := transListsRow, standIns := [], harness := (true, "d1142aea51159725ebdf46d6e39ec1baae90dc2c94711c88bfc142f5e8f41c10"), looks := true }, kinds := [], alts := [], laidByText := true, laidKinds := [.data, .data, .data, .sentinel, .sentinel], laidTests := true, laidLooks := .later }
def TransListsCardSaid : Prop := Claim7.holds Tryd.pinned (.plain (OpenSpec.ofChange transListsSpec)) transListsCard

/-- THE TIED CARD OF 'calenderlaw10.TransLines'. -/
def transLinesCard : Claim7 := { stood := { row := transLinesRow, standIns := [], harness := (true, "d1142aea51159725ebdf46d6e39ec1baae90dc2c94711c88bfc142f5e8f41c10"), looks := true }, kinds := [], alts := [], laidByText := true, laidKinds := [.data, .data, .data, .sentinel, .sentinel], laidTests := true, laidLooks := .later }
def TransLinesCardSaid : Prop := Claim7.holds Tryd.pinned (.plain (OpenSpec.ofChange transLinesSpec)) transLinesCard

/-- THE TIED CARD OF 'calenderlaw10.TransInverse'. -/
def transInverseCard : Claim7 := { stood := { row := transInverseRow, standIns := [], harness := (true, "d1142aea51159725ebdf46d6e39ec1baae90dc2c94711c88bfc142f5e8f41c10"), looks := true }, kinds := [], alts := [], laidByText := true, laidKinds := [.data, .data, .data, .sentinel, .sentinel], laidTests := true, laidLooks := .later }
def TransInverseCardSaid : Prop := Claim7.holds Tryd.pinned (.plain (OpenSpec.ofChange transInverseSpec)) transInverseCard

/-- THE TIED CARD OF 'calenderlaw10.TransPiece'. -/
def transPieceCard : Claim7 := { stood := { row := transPieceRow, standIns := [], harness := (true, "d1142aea51159725ebdf46d6e39ec1baae90dc2c94711c88bfc142f5e8f41c10"), looks := true }, kinds := [], alts := [], laidByText := true, laidKinds := [.data, .data, .data, .sentinel, .sentinel], laidTests := true, laidLooks := .later }
def TransPieceCardSaid : Prop := Claim7.holds Tryd.pinned (.plain (OpenSpec.ofChange transPieceSpec)) transPieceCard

/-- THE TIED CARD OF 'calenderlaw10.TransApart'. -/
def transApartCard : Claim7 := { stood := { row := transApartRow, standIns := [], harness := (true, "d1142aea51159725ebdf46d6e39ec1baae90dc2c94711c88bfc142f5e8f41c10"), looks := true }, kinds := [], alts := [], laidByText := true, laidKinds := [.data, .data, .data, .sentinel, .sentinel], laidTests := true, laidLooks := .later }
def TransApartCardSaid : Prop := Claim7.holds Tryd.pinned (.plain (OpenSpec.ofChange transApartSpec)) transApartCard

/-- THE SECOND FORM's CARD OF 'calenderlaw10.TransMakes'. -/
def transMakesUptoCard : Claim7 := { stood := { row := transMakesUptoRow, standIns := [], harness := (true, "d1142aea51159725ebdf46d6e39ec1baae90dc2c94711c88bfc142f5e8f41c10"), looks := true }, kinds := [], alts := [], laidByText := true, laidKinds := [.data, .data, .data, .sentinel, .sentinel], laidTests := true, laidLooks := .later }
def TransMakesUptoCardSaid : Prop := Claim7.holds Tryd.pinned (.plain (OpenSpec.upto transMakesSpec)) transMakesUptoCard

/-- THE SECOND FORM's CARD OF 'calenderlaw10.TransLists'. -/
def transListsUptoCard : Claim7 := { stood := { row := transListsUptoRow, standIns := [], harness := (true, "d1142aea51159725ebdf46d6e39ec1baae90dc2c94711c88bfc142f5e8f41c10"), looks := true }, kinds := [], alts := [], laidByText := true, laidKinds := [.data, .data, .data, .sentinel, .sentinel], laidTests := true, laidLooks := .later }
def TransListsUptoCardSaid : Prop := Claim7.holds Tryd.pinned (.plain (OpenSpec.upto transListsSpec)) transListsUptoCard

/-- THE SECOND FORM's CARD OF 'calenderlaw10.TransLines'. -/
def transLinesUptoCard : Claim7 := { stood := { row := transLinesUptoRow, standIns := [], harness := (true, "d1142aea51159725ebdf46d6e39ec1baae90dc2c94711c88bfc142f5e8f41c10"), looks := true }, kinds := [], alts := [], laidByText := true, laidKinds := [.data, .data, .data, .sentinel, .sentinel], laidTests := true, laidLooks := .later }
def TransLinesUptoCardSaid : Prop := Claim7.holds Tryd.pinned (.plain (OpenSpec.upto transLinesSpec)) transLinesUptoCard

/-- THE SECOND FORM's CARD OF 'calenderlaw10.TransInverse'. -/
def transInverseUptoCard : Claim7 := { stood := { row := transInverseUptoRow, standIns := [], harness := (true, "d1142aea51159725ebdf46d6e39ec1baae90dc2c94711c88bfc142f5e8f41c10"), looks := true }, kinds := [], alts := [], laidByText := true, laidKinds := [.data, .data, .data, .sentinel, .sentinel], laidTests := true, laidLooks := .later }
def TransInverseUptoCardSaid : Prop := Claim7.holds Tryd.pinned (.plain (OpenSpec.upto transInverseSpec)) transInverseUptoCard

/-- THE SECOND FORM's CARD OF 'calenderlaw10.TransPiece'. -/
def transPieceUptoCard : Claim7 := { stood := { row := transPieceUptoRow, standIns := [], harness := (true, "d1142aea51159725ebdf46d6e39ec1baae90dc2c94711c88bfc142f5e8f41c10"), looks := true }, kinds := [], alts := [], laidByText := true, laidKinds := [.data, .data, .data, .sentinel, .sentinel], laidTests := true, laidLooks := .later }
def TransPieceUptoCardSaid : Prop := Claim7.holds Tryd.pinned (.plain (OpenSpec.upto transPieceSpec)) transPieceUptoCard

/-- THE SECOND FORM's CARD OF 'calenderlaw10.TransApart'. -/
def transApartUptoCard : Claim7 := { stood := { row := transApartUptoRow, standIns := [], harness := (true, "d1142aea51159725ebdf46d6e39ec1baae90dc2c94711c88bfc142f5e8f41c10"), looks := true }, kinds := [], alts := [], laidByText := true, laidKinds := [.data, .data, .data, .sentinel, .sentinel], laidTests := true, laidLooks := .later }
def TransApartUptoCardSaid : Prop := Claim7.holds Tryd.pinned (.plain (OpenSpec.upto transApartSpec)) transApartUptoCard
end Rows
end Go.Proofs.YtpgglnibfojdgaaDoor
