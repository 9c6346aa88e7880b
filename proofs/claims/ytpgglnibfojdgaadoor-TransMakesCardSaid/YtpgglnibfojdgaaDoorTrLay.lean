/- What the cards of trans give: the table and the errors; the laws over what is given. -/
import Derived.Test.YtpgglnibfojdgaaDoorTrLaws
import Derived.Lib.LaidTab
namespace Go.Proofs.YtpgglnibfojdgaaDoor.Tr
open Go.RowKit Go.Shelf Bld
set_option linter.unusedVariables false
theorem lt_of_cell {W : World} {g j : Nat} {v : Value} (h : W.cell? ⟨g, j, none⟩ = some v) : g < W.heap.size := by
  rcases Nat.lt_or_ge g W.heap.size with hl | hl
  · exact hl
  · exfalso
    have hn : W.heap[g]? = none := Array.getElem?_eq_none hl
    simp [World.cell?, hn] at h
theorem tab_of {W : World} (h : Go.Lib.TabIs Tryd.prog W "math/bits.deBruijn64tab" .u8 (Go.Lib.deBruijn64tab.map fun n : Nat => (n : Int))) (hg : Tryd.prog.globalNamed "math/bits.deBruijn64tab" = some 5) : Tab W := by
  have hc : ∀ j, j < Go.Lib.deBruijn64tab.length → W.cell? ⟨5, j, none⟩ = some (.int .u8 (Go.Lib.deBruijn64tab.getD j 0 : Nat)) := by
    intro j hj
    rw [h.cell hg j (by simpa using hj)]
    simp [List.getD, hj]
  exact ⟨hc, lt_of_cell (hc 0 (by decide))⟩
theorem errs_of {W : World} {a b : Value} (h1 : W.cell? ⟨1, 0, none⟩ = some a) (h2 : W.cell? ⟨2, 0, none⟩ = some b)
    (e1 : a = .nilIface ∨ ∃ te pe, a = .iface te pe) (e2 : b = .nilIface ∨ ∃ te pe, b = .iface te pe) : Errs W :=
  ⟨⟨a, h1, e1⟩, ⟨b, h2, e2⟩, lt_of_cell h1, lt_of_cell h2⟩
theorem S_mk (s : ByteArray) : S s.data.toList = .string s := congrArg Value.string (Lib.mk_data s)
theorem len_str {s : ByteArray} (h : s.size ≤ maxLen) : s.data.toList.length ≤ 9223372036854775807 := by
  have e : s.data.toList.length = s.size := Array.length_toList
  unfold maxLen at h
  omega
theorem transLines_walk (s : ByteArray) (d : Int) (ws : s.size ≤ maxLen) (wd : (Lit.int .u8 d).wf = true) (W : World) (hL : Lay W) :
    Calls Tryd.prog 5 #[.string s, .int .u8 d] W fun e w' => e = .returned (.bool true) ∧ Below W.heap.size W w' := by
  obtain ⟨n, rfl⟩ := as_byte wd
  have h := lines_walk s.data.toList n W hL (len_str ws)
  rwa [S_mk] at h
theorem transPiece_walk (s t : ByteArray) (ws : s.size ≤ maxLen) (wt : t.size ≤ maxLen) (W : World) (hL : Lay W) :
    Calls Tryd.prog 7 #[.string s, .string t] W fun e w' => e = .returned (.bool true) ∧ Below W.heap.size W w' := by
  have h := piece_walk s.data.toList t.data.toList W hL (len_str ws) (len_str wt)
  rwa [S_mk, S_mk] at h
end Go.Proofs.YtpgglnibfojdgaaDoor.Tr
