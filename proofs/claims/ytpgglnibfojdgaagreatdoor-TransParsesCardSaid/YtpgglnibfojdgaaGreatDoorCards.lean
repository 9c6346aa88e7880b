/-
  DERIVED. GIVEN WITH THE SEED: THE CARDS: each row of YtpgglnibfojdgaaGreatDoorRows.lean that lists a variable, with what it lists TIED to the program's text (the seventh form; the later family's looks); each row that meets fmt, with fmt's text TOLD by the authors' own Lean function (tested against real Go, not proved from fmt's source: count such statements apart). THE CARD IS WHAT COUNTS. Prove the row's statement (the work); the ties are given (YtpgglnibfojdgaaGreatDoorTie.lean); close each card by the builder's one call (the guide's Derived/Test/ToyasCard.lean, 'card_holds'). Laid BY PROGRAM, IN A SANDBOX (cutbox-door.mjs). By AI agents, Wed Nov 11 2026. No macro, syntax, notation, axiom, sorry.
-/
import Derived.Test.YtpgglnibfojdgaaGreatDoorRows
import GoSem.ClaimSeven
namespace Go.Proofs.YtpgglnibfojdgaaGreatDoor
namespace Rows

/-- THE TIED CARD OF 'calenderlaw10.TransParses'. -/
def transParsesCard : Claim7 := { stood := { row := transParsesRow, standIns := [], harness := (true, "1972b75a3098eaf008b7e2db78758687941a52556d1138dff108deaca729ddb6"), looks := true }, kinds := [], alts := [], laidByText := true, laidKinds := [.data, .data, .data, .sentinel, .sentinel], laidTests := true, laidLooks := .later }
def TransParsesCardSaid : Prop := Claim7.holds Tryz.pinned (.plain (OpenSpec.ofChange transParsesSpec)) transParsesCard

/-- THE SECOND FORM's CARD OF 'calenderlaw10.TransParses'. -/
def transParsesUptoCard : Claim7 := { stood := { row := transParsesUptoRow, standIns := [], harness := (true, "1972b75a3098eaf008b7e2db78758687941a52556d1138dff108deaca729ddb6"), looks := true }, kinds := [], alts := [], laidByText := true, laidKinds := [.data, .data, .data, .sentinel, .sentinel], laidTests := true, laidLooks := .later }
def TransParsesUptoCardSaid : Prop := Claim7.holds Tryz.pinned (.plain (OpenSpec.upto transParsesSpec)) transParsesUptoCard
end Rows
end Go.Proofs.YtpgglnibfojdgaaGreatDoor
