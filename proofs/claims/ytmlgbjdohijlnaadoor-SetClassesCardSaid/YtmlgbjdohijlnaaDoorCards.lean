/-
  DERIVED. GIVEN WITH THE SEED: THE CARDS: each row of YtmlgbjdohijlnaaDoorRows.lean that lists a variable, with what it lists TIED to the program's text (the seventh form; the later family's looks); each row that meets fmt, with fmt's text TOLD by the authors' own Lean function (tested against real Go, not proved from fmt's source: count such statements apart). THE CARD IS WHAT COUNTS. Prove the row's statement (the work); the ties are given (YtmlgbjdohijlnaaDoorTie.lean); close each card by the builder's one call (the guide's Derived/Test/ToyasCard.lean, 'card_holds'). Laid BY PROGRAM, IN A SANDBOX (cutbox-door.mjs). By AI agents, Wed Nov 11 2026. No macro, syntax, notation, axiom, sorry.
-/
import Derived.Test.YtmlgbjdohijlnaaDoorRows
import GoSem.ClaimSeven
namespace Go.Proofs.YtmlgbjdohijlnaaDoor
namespace Rows

/-- THE TIED CARD OF 'calenderlaw02.SetClasses'. -/
def setClassesCard : Claim7 := { stood := { row := setClassesRow, standIns := [], harness := (true, "894154659d999f39560062ae570e5c144eddef3008376f67b4b08d0dd3af1b5b"), looks := false }, kinds := [], alts := [], laidByText := true, laidKinds := [.data], laidTests := true, laidLooks := .later }
def SetClassesCardSaid : Prop := Claim7.holds Tryd.pinned (.plain (OpenSpec.ofChange setClassesSpec)) setClassesCard

/-- THE TIED CARD OF 'calenderlaw02.SetFolds'. -/
def setFoldsCard : Claim7 := { stood := { row := setFoldsRow, standIns := [], harness := (true, "894154659d999f39560062ae570e5c144eddef3008376f67b4b08d0dd3af1b5b"), looks := false }, kinds := [], alts := [], laidByText := true, laidKinds := [.data], laidTests := true, laidLooks := .later }
def SetFoldsCardSaid : Prop := Claim7.holds Tryd.pinned (.plain (OpenSpec.ofChange setFoldsSpec)) setFoldsCard

/-- THE TIED CARD OF 'calenderlaw02.SetWords'. -/
def setWordsCard : Claim7 := { stood := { row := setWordsRow, standIns := [], harness := (true, "894154659d999f39560062ae570e5c144eddef3008376f67b4b08d0dd3af1b5b"), looks := false }, kinds := [], alts := [], laidByText := true, laidKinds := [.data], laidTests := true, laidLooks := .later }
def SetWordsCardSaid : Prop := Claim7.holds Tryd.pinned (.plain (OpenSpec.ofChange setWordsSpec)) setWordsCard

/-- THE TIED CARD OF 'calenderlaw02.SetRanges'. -/
def setRangesCard : Claim7 := { stood := { row := setRangesRow, standIns := [], harness := (true, "894154659d999f39560062ae570e5c144eddef3008376f67b4b08d0dd3af1b5b"), looks := false }, kinds := [], alts := [], laidByText := true, laidKinds := [.data], laidTests := true, laidLooks := .later }
def SetRangesCardSaid : Prop := Claim7.holds Tryd.pinned (.plain (OpenSpec.ofChange setRangesSpec)) setRangesCard

/-- THE TIED CARD OF 'calenderlaw02.SetTells'. -/
def setTellsCard : Claim7 := { stood := { row := setTellsRow, standIns := [], harness := (true, "894154659d999f39560062ae570e5c144eddef3008376f67b4b08d0dd3af1b5b"), looks := false }, kinds := [], alts := [], laidByText := true, laidKinds := [.data], laidTests := true, laidLooks := .later }
def SetTellsCardSaid : Prop := Claim7.holds Tryd.pinned (.plain (OpenSpec.ofChange setTellsSpec)) setTellsCard

/-- THE TIED CARD OF 'calenderlaw02.SetBack'. -/
def setBackCard : Claim7 := { stood := { row := setBackRow, standIns := [], harness := (true, "894154659d999f39560062ae570e5c144eddef3008376f67b4b08d0dd3af1b5b"), looks := false }, kinds := [], alts := [], laidByText := true, laidKinds := [.data], laidTests := true, laidLooks := .later }
def SetBackCardSaid : Prop := Claim7.holds Tryd.pinned (.plain (OpenSpec.ofChange setBackSpec)) setBackCard

/-- THE TIED CARD OF 'calenderlaw02.SetOrs'. -/
def setOrsCard : Claim7 := { stood := { row := setOrsRow, standIns := [], harness := (true, "894154659d999f39560062ae570e5c144eddef3008376f67b4b08d0dd3af1b5b"), looks := false }, kinds := [], alts := [], laidByText := true, laidKinds := [.data], laidTests := true, laidLooks := .later }
def SetOrsCardSaid : Prop := Claim7.holds Tryd.pinned (.plain (OpenSpec.ofChange setOrsSpec)) setOrsCard

/-- THE SECOND FORM's CARD OF 'calenderlaw02.SetClasses'. -/
def setClassesUptoCard : Claim7 := { stood := { row := setClassesUptoRow, standIns := [], harness := (true, "894154659d999f39560062ae570e5c144eddef3008376f67b4b08d0dd3af1b5b"), looks := false }, kinds := [], alts := [], laidByText := true, laidKinds := [.data], laidTests := true, laidLooks := .later }
def SetClassesUptoCardSaid : Prop := Claim7.holds Tryd.pinned (.plain (OpenSpec.upto setClassesSpec)) setClassesUptoCard

/-- THE SECOND FORM's CARD OF 'calenderlaw02.SetFolds'. -/
def setFoldsUptoCard : Claim7 := { stood := { row := setFoldsUptoRow, standIns := [], harness := (true, "894154659d999f39560062ae570e5c144eddef3008376f67b4b08d0dd3af1b5b"), looks := false }, kinds := [], alts := [], laidByText := true, laidKinds := [.data], laidTests := true, laidLooks := .later }
def SetFoldsUptoCardSaid : Prop := Claim7.holds Tryd.pinned (.plain (OpenSpec.upto setFoldsSpec)) setFoldsUptoCard

/-- THE SECOND FORM's CARD OF 'calenderlaw02.SetWords'. -/
def setWordsUptoCard : Claim7 := { stood := { row := setWordsUptoRow, standIns := [], harness := (true, "894154659d999f39560062ae570e5c144eddef3008376f67b4b08d0dd3af1b5b"), looks := false }, kinds := [], alts := [], laidByText := true, laidKinds := [.data], laidTests := true, laidLooks := .later }
def SetWordsUptoCardSaid : Prop := Claim7.holds Tryd.pinned (.plain (OpenSpec.upto setWordsSpec)) setWordsUptoCard

/-- THE SECOND FORM's CARD OF 'calenderlaw02.SetRanges'. -/
def setRangesUptoCard : Claim7 := { stood := { row := setRangesUptoRow, standIns := [], harness := (true, "894154659d999f39560062ae570e5c144eddef3008376f67b4b08d0dd3af1b5b"), looks := false }, kinds := [], alts := [], laidByText := true, laidKinds := [.data], laidTests := true, laidLooks := .later }
def SetRangesUptoCardSaid : Prop := Claim7.holds Tryd.pinned (.plain (OpenSpec.upto setRangesSpec)) setRangesUptoCard

/-- THE SECOND FORM's CARD OF 'calenderlaw02.SetTells'. -/
def setTellsUptoCard : Claim7 := { stood := { row := setTellsUptoRow, standIns := [], harness := (true, "894154659d999f39560062ae570e5c144eddef3008376f67b4b08d0dd3af1b5b"), looks := false }, kinds := [], alts := [], laidByText := true, laidKinds := [.data], laidTests := true, laidLooks := .later }
def SetTellsUptoCardSaid : Prop := Claim7.holds Tryd.pinned (.plain (OpenSpec.upto setTellsSpec)) setTellsUptoCard

/-- THE SECOND FORM's CARD OF 'calenderlaw02.SetBack'. -/
def setBackUptoCard : Claim7 := { stood := { row := setBackUptoRow, standIns := [], harness := (true, "894154659d999f39560062ae570e5c144eddef3008376f67b4b08d0dd3af1b5b"), looks := false }, kinds := [], alts := [], laidByText := true, laidKinds := [.data], laidTests := true, laidLooks := .later }
def SetBackUptoCardSaid : Prop := Claim7.holds Tryd.pinned (.plain (OpenSpec.upto setBackSpec)) setBackUptoCard

/-- THE SECOND FORM's CARD OF 'calenderlaw02.SetOrs'. -/
def setOrsUptoCard : Claim7 := { stood := { row := setOrsUptoRow, standIns := [], harness := (true, "894154659d999f39560062ae570e5c144eddef3008376f67b4b08d0dd3af1b5b"), looks := false }, kinds := [], alts := [], laidByText := true, laidKinds := [.data], laidTests := true, laidLooks := .later }
def SetOrsUptoCardSaid : Prop := Claim7.holds Tryd.pinned (.plain (OpenSpec.upto setOrsSpec)) setOrsUptoCard
end Rows
end Go.Proofs.YtmlgbjdohijlnaaDoor
