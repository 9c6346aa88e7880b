/-
  DERIVED. GIVEN WITH THE SEED: THE CARDS: each row of YtgaiknjmbingjaaGreatDoorRows.lean that lists a variable, with what it lists TIED to the program's text (the seventh form; the later family's looks); each row that meets fmt, with fmt's text TOLD by the authors' own Lean function (tested against real Go, not proved from fmt's source: count such statements apart). THE CARD IS WHAT COUNTS. Prove the row's statement (the work); the ties are given (YtgaiknjmbingjaaGreatDoorTie.lean); close each card by the builder's one call (the guide's Derived/Test/ToyasCard.lean, 'card_holds'). Laid BY PROGRAM, IN A SANDBOX (cutbox-door.mjs). By AI agents, Wed Nov 11 2026. No macro, syntax, notation, axiom, sorry.
-/
import Derived.Test.YtgaiknjmbingjaaGreatDoorRows
import GoSem.ClaimSeven
namespace Go.Proofs.YtgaiknjmbingjaaGreatDoor
namespace Rows

/-- THE TIED CARD OF 'calenderlaw07.FindFirst'. -/
def findFirstCard : Claim7 := { stood := { row := findFirstRow, standIns := [], harness := (true, "7c30068b1c841b5f62559e4a8469ca0efc548367937303ba94685d20a386831a"), looks := true }, kinds := [], alts := [], laidByText := true, laidKinds := [.data, .data, .data, .sentinel, .sentinel], laidTests := true, laidLooks := .later }
def FindFirstCardSaid : Prop := Claim7.holds Tryz.pinned (.plain (OpenSpec.ofChange findFirstSpec)) findFirstCard

/-- THE TIED CARD OF 'calenderlaw07.FindAll'. -/
def findAllCard : Claim7 := { stood := { row := findAllRow, standIns := [], harness := (true, "7c30068b1c841b5f62559e4a8469ca0efc548367937303ba94685d20a386831a"), looks := true }, kinds := [], alts := [], laidByText := true, laidKinds := [.data, .data, .data, .sentinel, .sentinel], laidTests := true, laidLooks := .later }
def FindAllCardSaid : Prop := Claim7.holds Tryz.pinned (.plain (OpenSpec.ofChange findAllSpec)) findAllCard

/-- THE SECOND FORM's CARD OF 'calenderlaw07.FindFirst'. -/
def findFirstUptoCard : Claim7 := { stood := { row := findFirstUptoRow, standIns := [], harness := (true, "7c30068b1c841b5f62559e4a8469ca0efc548367937303ba94685d20a386831a"), looks := true }, kinds := [], alts := [], laidByText := true, laidKinds := [.data, .data, .data, .sentinel, .sentinel], laidTests := true, laidLooks := .later }
def FindFirstUptoCardSaid : Prop := Claim7.holds Tryz.pinned (.plain (OpenSpec.upto findFirstSpec)) findFirstUptoCard

/-- THE SECOND FORM's CARD OF 'calenderlaw07.FindAll'. -/
def findAllUptoCard : Claim7 := { stood := { row := findAllUptoRow, standIns := [], harness := (true, "7c30068b1c841b5f62559e4a8469ca0efc548367937303ba94685d20a386831a"), looks := true }, kinds := [], alts := [], laidByText := true, laidKinds := [.data, .data, .data, .sentinel, .sentinel], laidTests := true, laidLooks := .later }
def FindAllUptoCardSaid : Prop := Claim7.holds Tryz.pinned (.plain (OpenSpec.upto findAllSpec)) findAllUptoCard
end Rows
end Go.Proofs.YtgaiknjmbingjaaGreatDoor
