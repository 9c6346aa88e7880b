/-
  No cell of these rows narrows 'for every input' (looked for: loops, veiled, ifaces, maps, wideKeys, modest, calm, conditions, laid).
  DERIVED. THE GIVEN ROWS OF THIS SEAT. 3 by the template 'for every input the law returns true; each argument reads behind the call as it read before'; 0 by the template 'total and deterministic' (their statements: YtdpjloapggllpaaTotals.lean).
  GIVEN WITH THE SEED: the statements are not yours to turn. If you find one false, say at which input.
  Laid BY PROGRAM, IN A SANDBOX (cutbox-rows.mjs): the forced cells as the released guide's own fill.sh prints them over the translation cddfdc889572710e… (all of the seat's roots in one cut). By AI agents, Wed Nov 11 2026. No macro, syntax, notation, axiom, sorry.
-/
import Derived.Test.YtdpjloapggllpaaChecked
import GoSem.Claim
import GoSem.ClaimJoined
import GoSem.ClaimMapViews
import Derived.JoinedTies
import Derived.KernelRfl
namespace Go.Proofs.Ytdpjloapggllpaa
/- THE CELL 'sum', in the pinned program and in every row, IS THE sha256 OF THE DUMP (.gsa) THAT YtdpjloapggllpaaProg.lean LOADS. Nothing in Lean hashes anything: it is a label: what it is worth is what the hold of that sum in a sandbox is worth. -/
noncomputable def Try.pinned : Pinned := { name := "ytdpjloapggllpaa", sum := "cddfdc889572710e5ca54c39d36653c9df5b4286c3d538026621987b8d7a36cf", checked := Try.checked }
namespace Rows
def none {H : Type} : Left H := { results := [], args := [] }

/-- 'calenderlaw12.PieceTakes': WHATEVER THE INPUT: true; the input reads as it did. -/
def pieceTakesSpec : ChangeSpec := { name := "pieceTakes", fn := fun _ => fun
  | [d1, d2, d3] => { results := [.lit (.bool true)], args := [d1, d2, d3] }
  | _ => none }
def pieceTakesRow : OpenClaim := { program := "ytdpjloapggllpaa", sum := "cddfdc889572710e5ca54c39d36653c9df5b4286c3d538026621987b8d7a36cf", func := "calender/calenderlaw12.PieceTakes", spec := "pieceTakes", inPlace := ["internal/abi.NoEscape"], unfollowed := true, recurses := true, apart := false }
def PieceTakesSaid : Prop := pieceTakesRow.holds Try.pinned (OpenSpec.ofChange pieceTakesSpec)

/-- ITS FALSE NEIGHBOUR: 'it returns false'. Refute it at one input. -/
def pieceTakesWrong : ChangeSpec := { name := "pieceTakes", fn := fun _ => fun
  | [d1, d2, d3] => { results := [.lit (.bool false)], args := [d1, d2, d3] }
  | _ => none }
def PieceTakesWrongFalsely : Prop := pieceTakesRow.holds Try.pinned (OpenSpec.ofChange pieceTakesWrong)

/-- 'calenderlaw12.PieceAgain': WHATEVER THE INPUT: true; the input reads as it did. -/
def pieceAgainSpec : ChangeSpec := { name := "pieceAgain", fn := fun _ => fun
  | [d1, d2, d3] => { results := [.lit (.bool true)], args := [d1, d2, d3] }
  | _ => none }
def pieceAgainRow : OpenClaim := { program := "ytdpjloapggllpaa", sum := "cddfdc889572710e5ca54c39d36653c9df5b4286c3d538026621987b8d7a36cf", func := "calender/calenderlaw12.PieceAgain", spec := "pieceAgain", inPlace := ["internal/abi.NoEscape"], unfollowed := true, recurses := true, apart := false }
def PieceAgainSaid : Prop := pieceAgainRow.holds Try.pinned (OpenSpec.ofChange pieceAgainSpec)

/-- ITS FALSE NEIGHBOUR: 'it returns false'. Refute it at one input. -/
def pieceAgainWrong : ChangeSpec := { name := "pieceAgain", fn := fun _ => fun
  | [d1, d2, d3] => { results := [.lit (.bool false)], args := [d1, d2, d3] }
  | _ => none }
def PieceAgainWrongFalsely : Prop := pieceAgainRow.holds Try.pinned (OpenSpec.ofChange pieceAgainWrong)

/-- 'calenderlaw12.PieceEnds': WHATEVER THE INPUT: true; the input reads as it did. -/
def pieceEndsSpec : ChangeSpec := { name := "pieceEnds", fn := fun _ => fun
  | [d1, d2, d3] => { results := [.lit (.bool true)], args := [d1, d2, d3] }
  | _ => none }
def pieceEndsRow : OpenClaim := { program := "ytdpjloapggllpaa", sum := "cddfdc889572710e5ca54c39d36653c9df5b4286c3d538026621987b8d7a36cf", func := "calender/calenderlaw12.PieceEnds", spec := "pieceEnds", inPlace := ["internal/abi.NoEscape"], unfollowed := true, recurses := true, apart := false }
def PieceEndsSaid : Prop := pieceEndsRow.holds Try.pinned (OpenSpec.ofChange pieceEndsSpec)

/-- ITS FALSE NEIGHBOUR: 'it returns false'. Refute it at one input. -/
def pieceEndsWrong : ChangeSpec := { name := "pieceEnds", fn := fun _ => fun
  | [d1, d2, d3] => { results := [.lit (.bool false)], args := [d1, d2, d3] }
  | _ => none }
def PieceEndsWrongFalsely : Prop := pieceEndsRow.holds Try.pinned (OpenSpec.ofChange pieceEndsWrong)

/- THE SECOND FORM. 'bulk': how many values and letters a reading holds, each counted each time it is reached (what is shared counts as often as it is met; a slice's spare places count too). A statement '..UptoSaid' is the law's where the arguments, and the package variables that the reading takes, are together of bulk at most 1048576: NARROWER than '..Said'. Prove '..Said' where nothing that the law and all that it calls make is longer than what came in: it says more and counts as full. Else prove '..UptoSaid'. A law counts once. -/
mutual
def uptoBulk {H : Type} : DataW H → Nat
  | .lit (.string bytes) => bytes.length + 1
  | .lit _ => 1
  | .nil => 1
  | .ptr d => uptoBulk d + 1
  | .slice elems spare => uptoBulkAll elems + uptoBulkAll spare + 1
  | .agg parts => uptoBulkAll parts + 1
  | .iface _ d => uptoBulk d + 1
  | .map entries => uptoBulkEntries entries + 1
  | .held _ => 1
def uptoBulkAll {H : Type} : List (DataW H) → Nat
  | [] => 0
  | d :: r => uptoBulk d + uptoBulkAll r
def uptoBulkEntries {H : Type} : List (Lit × DataW H) → Nat
  | [] => 0
  | x :: r => uptoBulkEntry x + uptoBulkEntries r
def uptoBulkEntry {H : Type} : Lit × DataW H → Nat
  | (.string bytes, d) => bytes.length + uptoBulk d + 1
  | (_, d) => uptoBulk d + 1
 end
def uptoSmall : (H : Type) → List (DataW H) → Bool := fun _ ds => decide (uptoBulkAll ds ≤ 1048576)
def OpenSpec.upto (s : _root_.Go.ChangeSpec) : _root_.Go.OpenSpec := { _root_.Go.OpenSpec.ofChange s with cond := some uptoSmall }

/-- 'calenderlaw12.PieceTakes', WHERE WHAT IT READS IS OF BULK AT MOST 1048576: true; the input reads as it did. -/
def pieceTakesUptoRow : OpenClaim := { program := "ytdpjloapggllpaa", sum := "cddfdc889572710e5ca54c39d36653c9df5b4286c3d538026621987b8d7a36cf", func := "calender/calenderlaw12.PieceTakes", spec := "pieceTakes", inPlace := ["internal/abi.NoEscape"], unfollowed := true, recurses := true, apart := false, narrowed := true }
def PieceTakesUptoSaid : Prop := pieceTakesUptoRow.holds Try.pinned (OpenSpec.upto pieceTakesSpec)

/-- 'calenderlaw12.PieceAgain', WHERE WHAT IT READS IS OF BULK AT MOST 1048576: true; the input reads as it did. -/
def pieceAgainUptoRow : OpenClaim := { program := "ytdpjloapggllpaa", sum := "cddfdc889572710e5ca54c39d36653c9df5b4286c3d538026621987b8d7a36cf", func := "calender/calenderlaw12.PieceAgain", spec := "pieceAgain", inPlace := ["internal/abi.NoEscape"], unfollowed := true, recurses := true, apart := false, narrowed := true }
def PieceAgainUptoSaid : Prop := pieceAgainUptoRow.holds Try.pinned (OpenSpec.upto pieceAgainSpec)

/-- 'calenderlaw12.PieceEnds', WHERE WHAT IT READS IS OF BULK AT MOST 1048576: true; the input reads as it did. -/
def pieceEndsUptoRow : OpenClaim := { program := "ytdpjloapggllpaa", sum := "cddfdc889572710e5ca54c39d36653c9df5b4286c3d538026621987b8d7a36cf", func := "calender/calenderlaw12.PieceEnds", spec := "pieceEnds", inPlace := ["internal/abi.NoEscape"], unfollowed := true, recurses := true, apart := false, narrowed := true }
def PieceEndsUptoSaid : Prop := pieceEndsUptoRow.holds Try.pinned (OpenSpec.upto pieceEndsSpec)

end Rows
end Go.Proofs.Ytdpjloapggllpaa
