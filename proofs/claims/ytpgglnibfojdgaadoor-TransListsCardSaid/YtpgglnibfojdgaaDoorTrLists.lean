/- TransLists: the walk. -/
import Derived.Test.YtpgglnibfojdgaaDoorTrRefB
namespace Go.Proofs.YtpgglnibfojdgaaDoor.Tr
open Go.RowKit Go.Shelf Bld
set_option linter.unusedVariables false
set_option linter.unusedSimpArgs false
set_option maxRecDepth 100000 in
set_option maxHeartbeats 1600000 in
theorem lists_walk (s t : List UInt8) (width : Int) (w : World) (hL : Lay w) (hm : s.length ≤ 9223372036854775807) (hm2 : t.length ≤ 9223372036854775807) (hw : -9223372036854775808 ≤ width ∧ width ≤ 9223372036854775807) :
    Calls Tryd.prog 4 #[S s, S t, E width] w fun e w' => e = .returned (.bool true) ∧ Below w.heap.size w w' := by
  have HL := Lib.hid hL
  clear hL
  by_cases h : (200 : Int) < s.length
  · go_enter Tryd.func4, Tryd.ntmps4
    go_wp2_with (go_at_call 9; refine (shown_any _ HL.out).mono ?_; rintro e w1 ⟨rfl, hb⟩)
    go_ret
    exact ⟨rfl, hb⟩
  by_cases h' : (150 : Int) < t.length
  · go_enter Tryd.func4, Tryd.ntmps4
    go_wp2_with (go_at_call 9; refine (shown_any _ HL.out).mono ?_; rintro e w1 ⟨rfl, hb⟩)
    go_ret
    exact ⟨rfl, hb⟩
  have HL1 := Lib.hid (fun (wq : World) (hb : Below w.heap.size w wq) => list_any s width wq (HL.out.below hb).t (by omega))
  have HL2 := Lib.hid (fun (wq : World) => refList_any s width wq (by omega) hw)
  have HK1 := Lib.hid (fun (wq : World) (hb : Below w.heap.size w wq) => back_any t wq (HL.out.below hb).t (HL.out.below hb).e (by omega))
  have HK2 := Lib.hid (fun (wq : World) => refBack_any t wq (by omega))
  rw [back_same] at HK1
  generalize backR t = p at *
  obtain ⟨a, x⟩ := p
  dsimp only at HK1 HK2
  generalize listL s width = l at *
  clear hw hm hm2
  go_enter Tryd.func4, Tryd.ntmps4
  go_wp2_with (first
    | (go_at_call 9; refine (shown_any _ HL.out).mono ?_; rintro e w1 ⟨rfl, hb⟩; have HB1 := Lib.hid hb; clear hb)
    | (go_at_call 16; refine (HK1.out _ HB1.out).mono ?_; rintro e w2 ⟨rfl, hb⟩; have HB2 := Lib.hid (HB1.out.trans (hb.mono HB1.out.size)); clear hb)
    | (go_at_call 17; refine (HK2.out _).mono ?_; rintro e w3 ⟨rfl, hb⟩; have HB3 := Lib.hid (HB2.out.trans (hb.mono HB2.out.size)); clear hb)
    | (go_at_call 18; refine (HL1.out _ HB3.out).mono ?_; rintro e w4 ⟨rfl, hb⟩; have HB4 := Lib.hid (HB3.out.trans (hb.mono HB3.out.size)); clear hb)
    | (go_at_call 19; refine (HL2.out _).mono ?_; rintro e w5 ⟨rfl, hb⟩; have HB5 := Lib.hid (HB4.out.trans (hb.mono HB4.out.size)); clear hb))
  go_ret
  exact ⟨ret1 (by simp), HB5.out⟩
theorem transLists_walk (s t : ByteArray) (width : Int) (ws : s.size ≤ maxLen) (wt : t.size ≤ maxLen) (wd : (Lit.int .i64 width).wf = true) (W : World) (hL : Lay W) :
    Calls Tryd.prog 4 #[.string s, .string t, .int .i64 width] W fun e w' => e = .returned (.bool true) ∧ Below W.heap.size W w' := by
  have h := lists_walk s.data.toList t.data.toList width W hL (len_str ws) (len_str wt) (wf_i64 wd)
  rwa [S_mk, S_mk] at h
end Go.Proofs.YtpgglnibfojdgaaDoor.Tr
