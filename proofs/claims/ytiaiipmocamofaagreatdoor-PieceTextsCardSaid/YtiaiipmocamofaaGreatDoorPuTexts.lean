/- The walk of the law PieceTexts. -/
import Derived.Test.YtiaiipmocamofaaGreatDoorPuRef
namespace Go.Proofs.YtiaiipmocamofaaGreatDoor.Pc
open Go.RowKit Bld
set_option linter.unusedVariables false
set_option linter.unusedSimpArgs false
set_option maxRecDepth 100000 in
set_option maxHeartbeats 4000000 in
theorem texts_walk (l : List UInt8) (at_ : Int) (w : World) (hm : l.length ≤ 9223372036854775807) (ha : -9223372036854775808 ≤ at_) (ha' : at_ ≤ 9223372036854775807) :
    Calls Tryz.prog 3 #[S l, E at_] w fun e w' => e = .returned (.bool true) ∧ Below w.heap.size w w' := by
  have HB := Below.refl w.heap.size w
  by_cases h : (300 : Int) < l.length
  · go_enter Tryz.func3, Tryz.ntmps3
    go_wp2_with (first | (go_at_call 4; refine (shown_any _).mono ?_; rintro e w' ⟨rfl, hb⟩; (first | (replace HB := HB.trans (hb.mono HB.size)) | (replace HB := (HB.alloc HB.size _).trans (hb.mono (by have := HB.size; simp; omega)))); clear hb) | (go_at_call 5; refine (text_any _ _ _ (by omega) (by omega) (by omega)).mono ?_; rintro e w' ⟨rfl, hb⟩; (first | (replace HB := HB.trans (hb.mono HB.size)) | (replace HB := (HB.alloc HB.size _).trans (hb.mono (by have := HB.size; simp; omega)))); clear hb) | (go_at_call 7; refine (untext_any _ _ (by omega)).mono ?_; rintro e w' ⟨rfl, hb⟩; (first | (replace HB := HB.trans (hb.mono HB.size)) | (replace HB := (HB.alloc HB.size _).trans (hb.mono (by have := HB.size; simp; omega)))); clear hb) | (go_at_call 6; refine (rtext_any _ _ _ (by omega)).mono ?_; rintro e w' ⟨rfl, rfl⟩) | (go_at_call 8; refine (runtext_any _ _ (by omega)).mono ?_; rintro e w' ⟨rfl, rfl⟩))
    go_ret
    exact ⟨rfl, HB⟩
  have h1 := text_same l at_
  go_enter Tryz.func3, Tryz.ntmps3
  go_wp2_with (first | (go_at_call 4; refine (shown_any _).mono ?_; rintro e w' ⟨rfl, hb⟩; (first | (replace HB := HB.trans (hb.mono HB.size)) | (replace HB := (HB.alloc HB.size _).trans (hb.mono (by have := HB.size; simp; omega)))); clear hb) | (go_at_call 5; refine (text_any _ _ _ (by omega) (by omega) (by omega)).mono ?_; rintro e w' ⟨rfl, hb⟩; (first | (replace HB := HB.trans (hb.mono HB.size)) | (replace HB := (HB.alloc HB.size _).trans (hb.mono (by have := HB.size; simp; omega)))); clear hb) | (go_at_call 7; refine (untext_any _ _ (by omega)).mono ?_; rintro e w' ⟨rfl, hb⟩; (first | (replace HB := HB.trans (hb.mono HB.size)) | (replace HB := (HB.alloc HB.size _).trans (hb.mono (by have := HB.size; simp; omega)))); clear hb) | (go_at_call 6; refine (rtext_any _ _ _ (by omega)).mono ?_; rintro e w' ⟨rfl, rfl⟩) | (go_at_call 8; refine (runtext_any _ _ (by omega)).mono ?_; rintro e w' ⟨rfl, rfl⟩))
  go_ret
  exact ⟨ret1 (by simp [Array.getD]), HB⟩
theorem pieceTexts_walk (s : ByteArray) (a : Int) (ws : s.size ≤ maxLen) (wa : (Lit.int .i64 a).wf = true) (w : World) :
    Calls Tryz.prog 3 #[.string s, .int .i64 a] w fun e w' => e = .returned (.bool true) ∧ Below w.heap.size w w' := by
  obtain ⟨l, rfl, hl⟩ := as_list s
  obtain ⟨h1, h2⟩ := wf_i64 wa
  unfold maxLen at ws
  exact texts_walk l a w (by omega) h1 h2
end Go.Proofs.YtiaiipmocamofaaGreatDoor.Pc
