/- TransParses: the walk, and what its card gives. -/
import Derived.Test.YtpgglnibfojdgaaGreatDoorTrPr
import Derived.Lib.LaidTab
namespace Go.Proofs.YtpgglnibfojdgaaGreatDoor.Tr
open Go.RowKit Go.Shelf Bld
set_option linter.unusedVariables false
set_option linter.unusedSimpArgs false
theorem lt_of_cell {W : World} {g j : Nat} {v : Value} (h : W.cell? ⟨g, j, none⟩ = some v) : g < W.heap.size := by
  rcases Nat.lt_or_ge g W.heap.size with hl | hl
  · exact hl
  · exfalso
    have hn : W.heap[g]? = none := Array.getElem?_eq_none hl
    simp [World.cell?, hn] at h
theorem tab_of {W : World} (h : Go.Lib.TabIs Tryz.prog W "math/bits.deBruijn64tab" .u8 (Go.Lib.deBruijn64tab.map fun n : Nat => (n : Int))) (hg : Tryz.prog.globalNamed "math/bits.deBruijn64tab" = some 5) : Tab W := by
  have hc : ∀ j, j < Go.Lib.deBruijn64tab.length → W.cell? ⟨5, j, none⟩ = some (.int .u8 (Go.Lib.deBruijn64tab.getD j 0 : Nat)) := by
    intro j hj
    rw [h.cell hg j (by simpa using hj)]
    simp [List.getD, hj]
  exact ⟨hc, lt_of_cell (hc 0 (by decide))⟩
theorem errs_of {W : World} {a b : Value} (h1 : W.cell? ⟨1, 0, none⟩ = some a) (h2 : W.cell? ⟨2, 0, none⟩ = some b)
    (e1 : a = .nilIface ∨ ∃ te pe, a = .iface te pe) (e2 : b = .nilIface ∨ ∃ te pe, b = .iface te pe) : Errs W :=
  ⟨⟨a, h1, e1⟩, ⟨b, h2, e2⟩, lt_of_cell h1, lt_of_cell h2⟩
theorem S_mk (s : ByteArray) : S s.data.toList = .string s := congrArg Value.string (Lib.mk_data s)
theorem len_str {s : ByteArray} (h : s.size ≤ maxLen) : s.data.toList.length ≤ 9223372036854775807 := by
  have e : s.data.toList.length = s.size := Array.length_toList
  unfold maxLen at h
  omega
set_option maxRecDepth 100000 in
set_option maxHeartbeats 1600000 in
theorem parses_walk (s : List UInt8) (w : World) (hL : Lay w) (hm : s.length ≤ 9223372036854775807) :
    Calls Tryz.prog 3 #[S s] w fun e w' => e = .returned (.bool true) ∧ Below w.heap.size w w' := by
  have HL := Lib.hid hL
  clear hL
  by_cases h : (300 : Int) < s.length
  · go_enter Tryz.func3, Tryz.ntmps3
    go_wp2_with (go_at_call 4; refine (shown_any _ HL.out).mono ?_; rintro e w1 ⟨rfl, hb⟩)
    go_ret
    exact ⟨rfl, hb⟩
  have hpl := print_len s
  have hpb := prs_print s 0 []
  have HP := Lib.hid (fun (wq : World) => parse_any s wq (by omega))
  have HR := Lib.hid (fun (wq : World) => refParse_any s wq (by omega))
  have HT := Lib.hid (fun (wq : World) => print_any s wq (by omega))
  have HN := Lib.hid (fun (wq : World) => refPrint_any s wq (by omega))
  have HQ := Lib.hid (fun (wq : World) => parse_any (printL s) wq (by omega))
  rw [hpb] at HQ
  simp only [List.nil_append] at HQ
  clear hpb hpl
  generalize printL s = t at *
  generalize prs s 0 [] = p at *
  obtain ⟨a, k, x⟩ := p
  go_enter Tryz.func3, Tryz.ntmps3
  go_wp2_with (first
    | (go_at_call 4; refine (shown_any _ HL.out).mono ?_; rintro e w1 ⟨rfl, hb⟩; have HB1 := Lib.hid hb; clear hb)
    | (go_at_call 5; have hb0 := HB1.out; clear HB1; refine (HP.out _).mono ?_; rintro e w2 ⟨rfl, hb⟩; have HB2 := Lib.hid (hb0.trans (hb.mono hb0.size)); clear hb hb0)
    | (go_at_call 6; refine (HR.out _).mono ?_; rintro e w' ⟨rfl, rfl⟩)
    | (go_at_call 7; have hb0 := HB2.out; clear HB2; refine (HT.out _).mono ?_; rintro e w3 ⟨rfl, hb⟩; have HB3 := Lib.hid (hb0.trans (hb.mono hb0.size)); clear hb hb0)
    | (go_at_call 5; have hb0 := HB3.out; clear HB3; refine (HQ.out _).mono ?_; rintro e w4 ⟨rfl, hb⟩; have HB4 := Lib.hid (hb0.trans (hb.mono hb0.size)); clear hb hb0)
    | (go_at_call 8; refine (HN.out _).mono ?_; rintro e w' ⟨rfl, rfl⟩))
  go_ret
  exact ⟨ret1 (by simp), HB4.out⟩
theorem transParses_walk (s : ByteArray) (ws : s.size ≤ maxLen) (W : World) (hL : Lay W) :
    Calls Tryz.prog 3 #[.string s] W fun e w' => e = .returned (.bool true) ∧ Below W.heap.size W w' := by
  have h := parses_walk s.data.toList W hL (len_str ws)
  rwa [S_mk] at h
end Go.Proofs.YtpgglnibfojdgaaGreatDoor.Tr
