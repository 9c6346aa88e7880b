/-
  DERIVED. GIVEN WITH THE SEED: THE CARDS: each row of YtdjedjfanfbbcaaDoorRows.lean that lists a variable, with what it lists TIED to the program's text (the seventh form; the later family's looks); each row that meets fmt, with fmt's text TOLD by the authors' own Lean function (tested against real Go, not proved from fmt's source: count such statements apart). THE CARD IS WHAT COUNTS. Prove the row's statement (the work); the ties are given (YtdjedjfanfbbcaaDoorTie.lean); close each card by the builder's one call (the guide's Derived/Test/ToyasCard.lean, 'card_holds'). Laid BY PROGRAM, IN A SANDBOX (cutbox-door.mjs). By AI agents, Wed Nov 11 2026. No macro, syntax, notation, axiom, sorry.
-/
import Derived.Test.YtdjedjfanfbbcaaDoorRows
import GoSem.ClaimSeven
namespace Go.Proofs.YtdjedjfanfbbcaaDoor
namespace Rows

/-- THE TIED CARD OF 'calenderlaw03.RxBack'. -/
def rxBackCard : Claim7 := { stood := { row := rxBackRow, standIns := [], harness := (true, "13671be371f11f6164d075d1c11001f5a6469f591c61299669199a6352ba5afa"), looks := true }, kinds := [], alts := [], laidByText := true, laidKinds := [.data, .data, .data, .sentinel, .sentinel], laidTests := true, laidLooks := .later }
def RxBackCardSaid : Prop := Claim7.holds Tryd.pinned (.plain (OpenSpec.ofChange rxBackSpec)) rxBackCard

/-- THE TIED CARD OF 'calenderlaw03.RxApart'. -/
def rxApartCard : Claim7 := { stood := { row := rxApartRow, standIns := [], harness := (true, "13671be371f11f6164d075d1c11001f5a6469f591c61299669199a6352ba5afa"), looks := true }, kinds := [], alts := [], laidByText := true, laidKinds := [.data, .data, .data, .sentinel, .sentinel], laidTests := true, laidLooks := .later }
def RxApartCardSaid : Prop := Claim7.holds Tryd.pinned (.plain (OpenSpec.ofChange rxApartSpec)) rxApartCard

/-- THE TIED CARD OF 'calenderlaw03.RxGroups'. -/
def rxGroupsCard : Claim7 := { stood := { row := rxGroupsRow, standIns := [], harness := (true, "13671be371f11f6164d075d1c11001f5a6469f591c61299669199a6352ba5afa"), looks := true }, kinds := [], alts := [], laidByText := true, laidKinds := [.data, .data, .data, .sentinel, .sentinel], laidTests := true, laidLooks := .later }
def RxGroupsCardSaid : Prop := Claim7.holds Tryd.pinned (.plain (OpenSpec.ofChange rxGroupsSpec)) rxGroupsCard

/-- THE TIED CARD OF 'calenderlaw03.RxFolds'. -/
def rxFoldsCard : Claim7 := { stood := { row := rxFoldsRow, standIns := [], harness := (true, "13671be371f11f6164d075d1c11001f5a6469f591c61299669199a6352ba5afa"), looks := true }, kinds := [], alts := [], laidByText := true, laidKinds := [.data, .data, .data, .sentinel, .sentinel], laidTests := true, laidLooks := .later }
def RxFoldsCardSaid : Prop := Claim7.holds Tryd.pinned (.plain (OpenSpec.ofChange rxFoldsSpec)) rxFoldsCard

/-- THE SECOND FORM's CARD OF 'calenderlaw03.RxBack'. -/
def rxBackUptoCard : Claim7 := { stood := { row := rxBackUptoRow, standIns := [], harness := (true, "13671be371f11f6164d075d1c11001f5a6469f591c61299669199a6352ba5afa"), looks := true }, kinds := [], alts := [], laidByText := true, laidKinds := [.data, .data, .data, .sentinel, .sentinel], laidTests := true, laidLooks := .later }
def RxBackUptoCardSaid : Prop := Claim7.holds Tryd.pinned (.plain (OpenSpec.upto rxBackSpec)) rxBackUptoCard

/-- THE SECOND FORM's CARD OF 'calenderlaw03.RxApart'. -/
def rxApartUptoCard : Claim7 := { stood := { row := rxApartUptoRow, standIns := [], harness := (true, "13671be371f11f6164d075d1c11001f5a6469f591c61299669199a6352ba5afa"), looks := true }, kinds := [], alts := [], laidByText := true, laidKinds := [.data, .data, .data, .sentinel, .sentinel], laidTests := true, laidLooks := .later }
def RxApartUptoCardSaid : Prop := Claim7.holds Tryd.pinned (.plain (OpenSpec.upto rxApartSpec)) rxApartUptoCard

/-- THE SECOND FORM's CARD OF 'calenderlaw03.RxGroups'. -/
def rxGroupsUptoCard : Claim7 := { stood := { row := rxGroupsUptoRow, standIns := [], harness := (true, "13671be371f11f6164d075d1c11001f5a6469f591c61299669199a6352ba5afa"), looks := true }, kinds := [], alts := [], laidByText := true, laidKinds := [.data, .data, .data, .sentinel, .sentinel], laidTests := true, laidLooks := .later }
def RxGroupsUptoCardSaid : Prop := Claim7.holds Tryd.pinned (.plain (OpenSpec.upto rxGroupsSpec)) rxGroupsUptoCard

/-- THE SECOND FORM's CARD OF 'calenderlaw03.RxFolds'. -/
def rxFoldsUptoCard : Claim7 := { stood := { row := rxFoldsUptoRow, standIns := [], harness := (true, "13671be371f11f6164d075d1c11001f5a6469f591c61299669199a6352ba5afa"), looks := true }, kinds := [], alts := [], laidByText := true, laidKinds := [.data, .data, .data, .sentinel, .sentinel], laidTests := true, laidLooks := .later }
def RxFoldsUptoCardSaid : Prop := Claim7.holds Tryd.pinned (.plain (OpenSpec.upto rxFoldsSpec)) rxFoldsUptoCard
end Rows
end Go.Proofs.YtdjedjfanfbbcaaDoor
