/-
  DERIVED. GIVEN WITH THE SEED: THE CARDS: each row of YtcijhfdccbgcpaaDoorRows.lean that lists a variable, with what it lists TIED to the program's text (the seventh form; the later family's looks); each row that meets fmt, with fmt's text TOLD by the authors' own Lean function (tested against real Go, not proved from fmt's source: count such statements apart). THE CARD IS WHAT COUNTS. Prove the row's statement (the work); the ties are given (YtcijhfdccbgcpaaDoorTie.lean); close each card by the builder's one call (the guide's Derived/Test/ToyasCard.lean, 'card_holds'). Laid BY PROGRAM, IN A SANDBOX (cutbox-door.mjs). By AI agents, Wed Nov 11 2026. No macro, syntax, notation, axiom, sorry.
-/
import Derived.Test.YtcijhfdccbgcpaaDoorRows
import GoSem.ClaimSeven
namespace Go.Proofs.YtcijhfdccbgcpaaDoor
namespace Rows

/-- THE TIED CARD OF 'calenderlaw11.AddrTells'. -/
def addrTellsCard : Claim7 := { stood := { row := addrTellsRow, standIns := [], harness := (true, "5557e18b8a8be669ed7527e8b909f6ae0fe3170945a071a05e4a41aa92bc0a72"), looks := true }, kinds := [], alts := [], laidByText := true, laidKinds := [.data, .data, .data, .data, .sentinel, .sentinel, .pinned], laidTests := true, laidLooks := .later }
def AddrTellsCardSaid : Prop := Claim7.holds Tryd.pinned (.plain (OpenSpec.ofChange addrTellsSpec)) addrTellsCard

/-- THE TIED CARD OF 'calenderlaw11.AddrHits'. -/
def addrHitsCard : Claim7 := { stood := { row := addrHitsRow, standIns := [], harness := (true, "5557e18b8a8be669ed7527e8b909f6ae0fe3170945a071a05e4a41aa92bc0a72"), looks := true }, kinds := [], alts := [], laidByText := true, laidKinds := [.data, .data, .data, .data, .sentinel, .sentinel, .pinned], laidTests := true, laidLooks := .later }
def AddrHitsCardSaid : Prop := Claim7.holds Tryd.pinned (.plain (OpenSpec.ofChange addrHitsSpec)) addrHitsCard

/-- THE TIED CARD OF 'calenderlaw11.AddrAsks'. -/
def addrAsksCard : Claim7 := { stood := { row := addrAsksRow, standIns := [], harness := (true, "5557e18b8a8be669ed7527e8b909f6ae0fe3170945a071a05e4a41aa92bc0a72"), looks := true }, kinds := [], alts := [], laidByText := true, laidKinds := [.data, .data, .data, .data, .sentinel, .sentinel, .pinned], laidTests := true, laidLooks := .later }
def AddrAsksCardSaid : Prop := Claim7.holds Tryd.pinned (.plain (OpenSpec.ofChange addrAsksSpec)) addrAsksCard

/-- THE TIED CARD OF 'calenderlaw11.AddrBack'. -/
def addrBackCard : Claim7 := { stood := { row := addrBackRow, standIns := [], harness := (true, "5557e18b8a8be669ed7527e8b909f6ae0fe3170945a071a05e4a41aa92bc0a72"), looks := true }, kinds := [], alts := [], laidByText := true, laidKinds := [.data, .data, .data, .data, .sentinel, .sentinel, .pinned], laidTests := true, laidLooks := .later }
def AddrBackCardSaid : Prop := Claim7.holds Tryd.pinned (.plain (OpenSpec.ofChange addrBackSpec)) addrBackCard

/-- THE TIED CARD OF 'calenderlaw11.AddrNot'. -/
def addrNotCard : Claim7 := { stood := { row := addrNotRow, standIns := [], harness := (true, "5557e18b8a8be669ed7527e8b909f6ae0fe3170945a071a05e4a41aa92bc0a72"), looks := true }, kinds := [], alts := [], laidByText := true, laidKinds := [.data, .data, .data, .data, .sentinel, .sentinel, .pinned], laidTests := true, laidLooks := .later }
def AddrNotCardSaid : Prop := Claim7.holds Tryd.pinned (.plain (OpenSpec.ofChange addrNotSpec)) addrNotCard

/-- THE TIED CARD OF 'calenderlaw11.AddrSpans'. -/
def addrSpansCard : Claim7 := { stood := { row := addrSpansRow, standIns := [], harness := (true, "5557e18b8a8be669ed7527e8b909f6ae0fe3170945a071a05e4a41aa92bc0a72"), looks := true }, kinds := [], alts := [], laidByText := true, laidKinds := [.data, .data, .data, .data, .sentinel, .sentinel, .pinned], laidTests := true, laidLooks := .later }
def AddrSpansCardSaid : Prop := Claim7.holds Tryd.pinned (.plain (OpenSpec.ofChange addrSpansSpec)) addrSpansCard

/-- THE TIED CARD OF 'calenderlaw11.AddrLast'. -/
def addrLastCard : Claim7 := { stood := { row := addrLastRow, standIns := [], harness := (true, "5557e18b8a8be669ed7527e8b909f6ae0fe3170945a071a05e4a41aa92bc0a72"), looks := true }, kinds := [], alts := [], laidByText := true, laidKinds := [.data, .data, .data, .data, .sentinel, .sentinel, .pinned], laidTests := true, laidLooks := .later }
def AddrLastCardSaid : Prop := Claim7.holds Tryd.pinned (.plain (OpenSpec.ofChange addrLastSpec)) addrLastCard

/-- THE TIED CARD OF 'calenderlaw11.AddrPlus'. -/
def addrPlusCard : Claim7 := { stood := { row := addrPlusRow, standIns := [], harness := (true, "5557e18b8a8be669ed7527e8b909f6ae0fe3170945a071a05e4a41aa92bc0a72"), looks := true }, kinds := [], alts := [], laidByText := true, laidKinds := [.data, .data, .data, .data, .sentinel, .sentinel, .pinned], laidTests := true, laidLooks := .later }
def AddrPlusCardSaid : Prop := Claim7.holds Tryd.pinned (.plain (OpenSpec.ofChange addrPlusSpec)) addrPlusCard

/-- THE TIED CARD OF 'calenderlaw11.AddrZero'. -/
def addrZeroCard : Claim7 := { stood := { row := addrZeroRow, standIns := [], harness := (true, "5557e18b8a8be669ed7527e8b909f6ae0fe3170945a071a05e4a41aa92bc0a72"), looks := true }, kinds := [], alts := [], laidByText := true, laidKinds := [.data, .data, .data, .data, .sentinel, .sentinel, .pinned], laidTests := true, laidLooks := .later }
def AddrZeroCardSaid : Prop := Claim7.holds Tryd.pinned (.plain (OpenSpec.ofChange addrZeroSpec)) addrZeroCard

/-- THE SECOND FORM's CARD OF 'calenderlaw11.AddrTells'. -/
def addrTellsUptoCard : Claim7 := { stood := { row := addrTellsUptoRow, standIns := [], harness := (true, "5557e18b8a8be669ed7527e8b909f6ae0fe3170945a071a05e4a41aa92bc0a72"), looks := true }, kinds := [], alts := [], laidByText := true, laidKinds := [.data, .data, .data, .data, .sentinel, .sentinel, .pinned], laidTests := true, laidLooks := .later }
def AddrTellsUptoCardSaid : Prop := Claim7.holds Tryd.pinned (.plain (OpenSpec.upto addrTellsSpec)) addrTellsUptoCard

/-- THE SECOND FORM's CARD OF 'calenderlaw11.AddrHits'. -/
def addrHitsUptoCard : Claim7 := { stood := { row := addrHitsUptoRow, standIns := [], harness := (true, "5557e18b8a8be669ed7527e8b909f6ae0fe3170945a071a05e4a41aa92bc0a72"), looks := true }, kinds := [], alts := [], laidByText := true, laidKinds := [.data, .data, .data, .data, .sentinel, .sentinel, .pinned], laidTests := true, laidLooks := .later }
def AddrHitsUptoCardSaid : Prop := Claim7.holds Tryd.pinned (.plain (OpenSpec.upto addrHitsSpec)) addrHitsUptoCard

/-- THE SECOND FORM's CARD OF 'calenderlaw11.AddrAsks'. -/
def addrAsksUptoCard : Claim7 := { stood := { row := addrAsksUptoRow, standIns := [], harness := (true, "5557e18b8a8be669ed7527e8b909f6ae0fe3170945a071a05e4a41aa92bc0a72"), looks := true }, kinds := [], alts := [], laidByText := true, laidKinds := [.data, .data, .data, .data, .sentinel, .sentinel, .pinned], laidTests := true, laidLooks := .later }
def AddrAsksUptoCardSaid : Prop := Claim7.holds Tryd.pinned (.plain (OpenSpec.upto addrAsksSpec)) addrAsksUptoCard

/-- THE SECOND FORM's CARD OF 'calenderlaw11.AddrBack'. -/
def addrBackUptoCard : Claim7 := { stood := { row := addrBackUptoRow, standIns := [], harness := (true, "5557e18b8a8be669ed7527e8b909f6ae0fe3170945a071a05e4a41aa92bc0a72"), looks := true }, kinds := [], alts := [], laidByText := true, laidKinds := [.data, .data, .data, .data, .sentinel, .sentinel, .pinned], laidTests := true, laidLooks := .later }
def AddrBackUptoCardSaid : Prop := Claim7.holds Tryd.pinned (.plain (OpenSpec.upto addrBackSpec)) addrBackUptoCard

/-- THE SECOND FORM's CARD OF 'calenderlaw11.AddrNot'. -/
def addrNotUptoCard : Claim7 := { stood := { row := addrNotUptoRow, standIns := [], harness := (true, "5557e18b8a8be669ed7527e8b909f6ae0fe3170945a071a05e4a41aa92bc0a72"), looks := true }, kinds := [], alts := [], laidByText := true, laidKinds := [.data, .data, .data, .data, .sentinel, .sentinel, .pinned], laidTests := true, laidLooks := .later }
def AddrNotUptoCardSaid : Prop := Claim7.holds Tryd.pinned (.plain (OpenSpec.upto addrNotSpec)) addrNotUptoCard

/-- THE SECOND FORM's CARD OF 'calenderlaw11.AddrSpans'. -/
def addrSpansUptoCard : Claim7 := { stood := { row := addrSpansUptoRow, standIns := [], harness := (true, "5557e18b8a8be669ed7527e8b909f6ae0fe3170945a071a05e4a41aa92bc0a72"), looks := true }, kinds := [], alts := [], laidByText := true, laidKinds := [.data, .data, .data, .data, .sentinel, .sentinel, .pinned], laidTests := true, laidLooks := .later }
def AddrSpansUptoCardSaid : Prop := Claim7.holds Tryd.pinned (.plain (OpenSpec.upto addrSpansSpec)) addrSpansUptoCard

/-- THE SECOND FORM's CARD OF 'calenderlaw11.AddrLast'. -/
def addrLastUptoCard : Claim7 := { stood := { row := addrLastUptoRow, standIns := [], harness := (true, "5557e18b8a8be669ed7527e8b909f6ae0fe3170945a071a05e4a41aa92bc0a72"), looks := true }, kinds := [], alts := [], laidByText := true, laidKinds := [.data, .data, .data, .data, .sentinel, .sentinel, .pinned], laidTests := true, laidLooks := .later }
def AddrLastUptoCardSaid : Prop := Claim7.holds Tryd.pinned (.plain (OpenSpec.upto addrLastSpec)) addrLastUptoCard

/-- THE SECOND FORM's CARD OF 'calenderlaw11.AddrPlus'. -/
def addrPlusUptoCard : Claim7 := { stood := { row := addrPlusUptoRow, standIns := [], harness := (true, "5557e18b8a8be669ed7527e8b909f6ae0fe3170945a071a05e4a41aa92bc0a72"), looks := true }, kinds := [], alts := [], laidByText := true, laidKinds := [.data, .data, .data, .data, .sentinel, .sentinel, .pinned], laidTests := true, laidLooks := .later }
def AddrPlusUptoCardSaid : Prop := Claim7.holds Tryd.pinned (.plain (OpenSpec.upto addrPlusSpec)) addrPlusUptoCard

/-- THE SECOND FORM's CARD OF 'calenderlaw11.AddrZero'. -/
def addrZeroUptoCard : Claim7 := { stood := { row := addrZeroUptoRow, standIns := [], harness := (true, "5557e18b8a8be669ed7527e8b909f6ae0fe3170945a071a05e4a41aa92bc0a72"), looks := true }, kinds := [], alts := [], laidByText := true, laidKinds := [.data, .data, .data, .data, .sentinel, .sentinel, .pinned], laidTests := true, laidLooks := .later }
def AddrZeroUptoCardSaid : Prop := Claim7.holds Tryd.pinned (.plain (OpenSpec.upto addrZeroSpec)) addrZeroUptoCard
end Rows
end Go.Proofs.YtcijhfdccbgcpaaDoor
