/-
  DERIVED. GIVEN WITH THE SEED: THE CARDS: each row of YtdjedjfanfbbcaaGreatDoorRows.lean that lists a variable, with what it lists TIED to the program's text (the seventh form; the later family's looks); each row that meets fmt, with fmt's text TOLD by the authors' own Lean function (tested against real Go, not proved from fmt's source: count such statements apart). THE CARD IS WHAT COUNTS. Prove the row's statement (the work); the ties are given (YtdjedjfanfbbcaaGreatDoorTie.lean); close each card by the builder's one call (the guide's Derived/Test/ToyasCard.lean, 'card_holds'). Laid BY PROGRAM, IN A SANDBOX (cutbox-door.mjs). By AI agents, Wed Nov 11 2026. No macro, syntax, notation, axiom, sorry.
-/
import Derived.Test.YtdjedjfanfbbcaaGreatDoorRows
import GoSem.ClaimSeven
namespace Go.Proofs.YtdjedjfanfbbcaaGreatDoor
namespace Rows

/-- THE TIED CARD OF 'calenderlaw03.RxParses'. -/
def rxParsesCard : Claim7 := { stood := { row := rxParsesRow, standIns := [], harness := (true, "0d81d2d9538ff03ffc391da0f17ad0f60061fc0681ffa70c290fd38ea0b60b5d"), looks := true }, kinds := [], alts := [], laidByText := true, laidKinds := [.data, .data, .data, .sentinel, .sentinel], laidTests := true, laidLooks := .later }
def RxParsesCardSaid : Prop := Claim7.holds Tryz.pinned (.plain (OpenSpec.ofChange rxParsesSpec)) rxParsesCard

/-- THE TIED CARD OF 'calenderlaw03.RxTells'. -/
def rxTellsCard : Claim7 := { stood := { row := rxTellsRow, standIns := [], harness := (true, "0d81d2d9538ff03ffc391da0f17ad0f60061fc0681ffa70c290fd38ea0b60b5d"), looks := true }, kinds := [], alts := [], laidByText := true, laidKinds := [.data, .data, .data, .sentinel, .sentinel], laidTests := true, laidLooks := .later }
def RxTellsCardSaid : Prop := Claim7.holds Tryz.pinned (.plain (OpenSpec.ofChange rxTellsSpec)) rxTellsCard

/-- THE SECOND FORM's CARD OF 'calenderlaw03.RxParses'. -/
def rxParsesUptoCard : Claim7 := { stood := { row := rxParsesUptoRow, standIns := [], harness := (true, "0d81d2d9538ff03ffc391da0f17ad0f60061fc0681ffa70c290fd38ea0b60b5d"), looks := true }, kinds := [], alts := [], laidByText := true, laidKinds := [.data, .data, .data, .sentinel, .sentinel], laidTests := true, laidLooks := .later }
def RxParsesUptoCardSaid : Prop := Claim7.holds Tryz.pinned (.plain (OpenSpec.upto rxParsesSpec)) rxParsesUptoCard

/-- THE SECOND FORM's CARD OF 'calenderlaw03.RxTells'. -/
def rxTellsUptoCard : Claim7 := { stood := { row := rxTellsUptoRow, standIns := [], harness := (true, "0d81d2d9538ff03ffc391da0f17ad0f60061fc0681ffa70c290fd38ea0b60b5d"), looks := true }, kinds := [], alts := [], laidByText := true, laidKinds := [.data, .data, .data, .sentinel, .sentinel], laidTests := true, laidLooks := .later }
def RxTellsUptoCardSaid : Prop := Claim7.holds Tryz.pinned (.plain (OpenSpec.upto rxTellsSpec)) rxTellsUptoCard
end Rows
end Go.Proofs.YtdjedjfanfbbcaaGreatDoor
