/- The walk of the law PieceBack. -/
import Derived.Test.YtiaiipmocamofaaDoorPuWalks
import Derived.Test.YtiaiipmocamofaaDoorPuPlain2
namespace Go.Proofs.YtiaiipmocamofaaDoor.Pc
open Go.RowKit Bld
set_option linter.unusedVariables false
set_option linter.unusedSimpArgs false
set_option maxRecDepth 100000 in
set_option maxHeartbeats 4000000 in
theorem back_walk (l rest : List UInt8) (d : UInt8) (w : World) (hm : l.length ≤ 9223372036854775807) (hm' : rest.length ≤ 9223372036854775807) :
    Calls Tryd.prog 3 #[S l, S rest, .int .u8 d.toNat] w fun e w' => e = .returned (.bool true) ∧ Below w.heap.size w w' := by
  have HB := Below.refl w.heap.size w
  by_cases h : (300 : Int) < l.length
  · go_enter Tryd.func3, Tryd.ntmps3
    go_wp2_with (first | (go_at_call 5; refine (shown_any _).mono ?_; rintro e w' ⟨rfl, hb⟩; (first | (replace HB := HB.trans (hb.mono HB.size)) | (replace HB := (HB.alloc HB.size _).trans (hb.mono (by have := HB.size; simp; omega)))); clear hb) | (go_at_call 7; refine (take_any _ _ _ _ (by first | omega | assumption | (simp; omega)) (by omega) (by omega)).mono ?_; rintro e w' ⟨rfl, hb⟩; (first | (replace HB := HB.trans (hb.mono HB.size)) | (replace HB := (HB.alloc HB.size _).trans (hb.mono (by have := HB.size; simp; omega)))); clear hb) | (go_at_call 6; refine (give_any _ _ _ (by omega)).mono ?_; rintro e w' ⟨rfl, hb⟩; (first | (replace HB := HB.trans (hb.mono HB.size)) | (replace HB := (HB.alloc HB.size _).trans (hb.mono (by have := HB.size; simp; omega)))); clear hb) | (go_at_call 9; refine (text_any _ _ _ (by first | omega | assumption | (simp; omega)) (by omega) (by omega)).mono ?_; rintro e w' ⟨rfl, hb⟩; (first | (replace HB := HB.trans (hb.mono HB.size)) | (replace HB := (HB.alloc HB.size _).trans (hb.mono (by have := HB.size; simp; omega)))); clear hb) | (go_at_call 8; refine (untext_any _ _ (by omega)).mono ?_; rintro e w' ⟨rfl, hb⟩; (first | (replace HB := HB.trans (hb.mono HB.size)) | (replace HB := (HB.alloc HB.size _).trans (hb.mono (by have := HB.size; simp; omega)))); clear hb))
    go_ret
    exact ⟨rfl, HB⟩
  by_cases h' : (300 : Int) < rest.length
  · go_enter Tryd.func3, Tryd.ntmps3
    go_wp2_with (first | (go_at_call 5; refine (shown_any _).mono ?_; rintro e w' ⟨rfl, hb⟩; (first | (replace HB := HB.trans (hb.mono HB.size)) | (replace HB := (HB.alloc HB.size _).trans (hb.mono (by have := HB.size; simp; omega)))); clear hb) | (go_at_call 7; refine (take_any _ _ _ _ (by first | omega | assumption | (simp; omega)) (by omega) (by omega)).mono ?_; rintro e w' ⟨rfl, hb⟩; (first | (replace HB := HB.trans (hb.mono HB.size)) | (replace HB := (HB.alloc HB.size _).trans (hb.mono (by have := HB.size; simp; omega)))); clear hb) | (go_at_call 6; refine (give_any _ _ _ (by omega)).mono ?_; rintro e w' ⟨rfl, hb⟩; (first | (replace HB := HB.trans (hb.mono HB.size)) | (replace HB := (HB.alloc HB.size _).trans (hb.mono (by have := HB.size; simp; omega)))); clear hb) | (go_at_call 9; refine (text_any _ _ _ (by first | omega | assumption | (simp; omega)) (by omega) (by omega)).mono ?_; rintro e w' ⟨rfl, hb⟩; (first | (replace HB := HB.trans (hb.mono HB.size)) | (replace HB := (HB.alloc HB.size _).trans (hb.mono (by have := HB.size; simp; omega)))); clear hb) | (go_at_call 8; refine (untext_any _ _ (by omega)).mono ?_; rintro e w' ⟨rfl, hb⟩; (first | (replace HB := HB.trans (hb.mono HB.size)) | (replace HB := (HB.alloc HB.size _).trans (hb.mono (by have := HB.size; simp; omega)))); clear hb))
    go_ret
    exact ⟨rfl, HB⟩
  have cv := conv1 d
  rcases give_back l rest d with hg | ⟨u, hg, hul, ht⟩
  · rcases untext_back l rest with hx | ⟨v, hx, hvl, hy, hz⟩
    · go_enter Tryd.func3, Tryd.ntmps3
      go_wp2_with (first | (go_at_call 5; refine (shown_any _).mono ?_; rintro e w' ⟨rfl, hb⟩; (first | (replace HB := HB.trans (hb.mono HB.size)) | (replace HB := (HB.alloc HB.size _).trans (hb.mono (by have := HB.size; simp; omega)))); clear hb) | (go_at_call 7; refine (take_any _ _ _ _ (by first | omega | assumption | (simp; omega)) (by omega) (by omega)).mono ?_; rintro e w' ⟨rfl, hb⟩; (first | (replace HB := HB.trans (hb.mono HB.size)) | (replace HB := (HB.alloc HB.size _).trans (hb.mono (by have := HB.size; simp; omega)))); clear hb) | (go_at_call 6; refine (give_any _ _ _ (by omega)).mono ?_; rintro e w' ⟨rfl, hb⟩; (first | (replace HB := HB.trans (hb.mono HB.size)) | (replace HB := (HB.alloc HB.size _).trans (hb.mono (by have := HB.size; simp; omega)))); clear hb) | (go_at_call 9; refine (text_any _ _ _ (by first | omega | assumption | (simp; omega)) (by omega) (by omega)).mono ?_; rintro e w' ⟨rfl, hb⟩; (first | (replace HB := HB.trans (hb.mono HB.size)) | (replace HB := (HB.alloc HB.size _).trans (hb.mono (by have := HB.size; simp; omega)))); clear hb) | (go_at_call 8; refine (untext_any _ _ (by omega)).mono ?_; rintro e w' ⟨rfl, hb⟩; (first | (replace HB := HB.trans (hb.mono HB.size)) | (replace HB := (HB.alloc HB.size _).trans (hb.mono (by have := HB.size; simp; omega)))); clear hb))
      go_ret
      exact ⟨ret1 (by simp [Array.getD]), HB⟩
    · simp only [List.append_assoc, List.cons_append, List.nil_append] at hy
      have c1 := fun w => run_string_add_lists (P := Tryd.prog) w v [10] (by omega) (by simp)
      have c2 := fun w => run_string_add_lists (P := Tryd.prog) w (v ++ [10]) rest (by simp; omega) (by omega)
      have b1 : (v ++ [10] ++ rest).length ≤ 10000 := by simp; omega
      go_enter Tryd.func3, Tryd.ntmps3
      go_wp2_with (first | (go_at_call 5; refine (shown_any _).mono ?_; rintro e w' ⟨rfl, hb⟩; (first | (replace HB := HB.trans (hb.mono HB.size)) | (replace HB := (HB.alloc HB.size _).trans (hb.mono (by have := HB.size; simp; omega)))); clear hb) | (go_at_call 7; refine (take_any _ _ _ _ (by first | omega | assumption | (simp; omega)) (by omega) (by omega)).mono ?_; rintro e w' ⟨rfl, hb⟩; (first | (replace HB := HB.trans (hb.mono HB.size)) | (replace HB := (HB.alloc HB.size _).trans (hb.mono (by have := HB.size; simp; omega)))); clear hb) | (go_at_call 6; refine (give_any _ _ _ (by omega)).mono ?_; rintro e w' ⟨rfl, hb⟩; (first | (replace HB := HB.trans (hb.mono HB.size)) | (replace HB := (HB.alloc HB.size _).trans (hb.mono (by have := HB.size; simp; omega)))); clear hb) | (go_at_call 9; refine (text_any _ _ _ (by first | omega | assumption | (simp; omega)) (by omega) (by omega)).mono ?_; rintro e w' ⟨rfl, hb⟩; (first | (replace HB := HB.trans (hb.mono HB.size)) | (replace HB := (HB.alloc HB.size _).trans (hb.mono (by have := HB.size; simp; omega)))); clear hb) | (go_at_call 8; refine (untext_any _ _ (by omega)).mono ?_; rintro e w' ⟨rfl, hb⟩; (first | (replace HB := HB.trans (hb.mono HB.size)) | (replace HB := (HB.alloc HB.size _).trans (hb.mono (by have := HB.size; simp; omega)))); clear hb))
      go_ret
      exact ⟨ret1 (by simp [Array.getD]), HB⟩
  · simp only [List.append_assoc, List.cons_append, List.nil_append] at ht
    have c3 := fun w => run_string_add_lists (P := Tryd.prog) w u [d] (by omega) (by simp)
    have c4 := fun w => run_string_add_lists (P := Tryd.prog) w (u ++ [d]) rest (by simp; omega) (by omega)
    have b2 : (u ++ [d] ++ rest).length ≤ 10000 := by simp; omega
    rcases untext_back l rest with hx | ⟨v, hx, hvl, hy, hz⟩
    · go_enter Tryd.func3, Tryd.ntmps3
      go_wp2_with (first | (go_at_call 5; refine (shown_any _).mono ?_; rintro e w' ⟨rfl, hb⟩; (first | (replace HB := HB.trans (hb.mono HB.size)) | (replace HB := (HB.alloc HB.size _).trans (hb.mono (by have := HB.size; simp; omega)))); clear hb) | (go_at_call 7; refine (take_any _ _ _ _ (by first | omega | assumption | (simp; omega)) (by omega) (by omega)).mono ?_; rintro e w' ⟨rfl, hb⟩; (first | (replace HB := HB.trans (hb.mono HB.size)) | (replace HB := (HB.alloc HB.size _).trans (hb.mono (by have := HB.size; simp; omega)))); clear hb) | (go_at_call 6; refine (give_any _ _ _ (by omega)).mono ?_; rintro e w' ⟨rfl, hb⟩; (first | (replace HB := HB.trans (hb.mono HB.size)) | (replace HB := (HB.alloc HB.size _).trans (hb.mono (by have := HB.size; simp; omega)))); clear hb) | (go_at_call 9; refine (text_any _ _ _ (by first | omega | assumption | (simp; omega)) (by omega) (by omega)).mono ?_; rintro e w' ⟨rfl, hb⟩; (first | (replace HB := HB.trans (hb.mono HB.size)) | (replace HB := (HB.alloc HB.size _).trans (hb.mono (by have := HB.size; simp; omega)))); clear hb) | (go_at_call 8; refine (untext_any _ _ (by omega)).mono ?_; rintro e w' ⟨rfl, hb⟩; (first | (replace HB := HB.trans (hb.mono HB.size)) | (replace HB := (HB.alloc HB.size _).trans (hb.mono (by have := HB.size; simp; omega)))); clear hb))
      go_ret
      exact ⟨ret1 (by simp [Array.getD]), HB⟩
    · simp only [List.append_assoc, List.cons_append, List.nil_append] at hy
      have c1 := fun w => run_string_add_lists (P := Tryd.prog) w v [10] (by omega) (by simp)
      have c2 := fun w => run_string_add_lists (P := Tryd.prog) w (v ++ [10]) rest (by simp; omega) (by omega)
      have b1 : (v ++ [10] ++ rest).length ≤ 10000 := by simp; omega
      go_enter Tryd.func3, Tryd.ntmps3
      go_wp2_with (first | (go_at_call 5; refine (shown_any _).mono ?_; rintro e w' ⟨rfl, hb⟩; (first | (replace HB := HB.trans (hb.mono HB.size)) | (replace HB := (HB.alloc HB.size _).trans (hb.mono (by have := HB.size; simp; omega)))); clear hb) | (go_at_call 7; refine (take_any _ _ _ _ (by first | omega | assumption | (simp; omega)) (by omega) (by omega)).mono ?_; rintro e w' ⟨rfl, hb⟩; (first | (replace HB := HB.trans (hb.mono HB.size)) | (replace HB := (HB.alloc HB.size _).trans (hb.mono (by have := HB.size; simp; omega)))); clear hb) | (go_at_call 6; refine (give_any _ _ _ (by omega)).mono ?_; rintro e w' ⟨rfl, hb⟩; (first | (replace HB := HB.trans (hb.mono HB.size)) | (replace HB := (HB.alloc HB.size _).trans (hb.mono (by have := HB.size; simp; omega)))); clear hb) | (go_at_call 9; refine (text_any _ _ _ (by first | omega | assumption | (simp; omega)) (by omega) (by omega)).mono ?_; rintro e w' ⟨rfl, hb⟩; (first | (replace HB := HB.trans (hb.mono HB.size)) | (replace HB := (HB.alloc HB.size _).trans (hb.mono (by have := HB.size; simp; omega)))); clear hb) | (go_at_call 8; refine (untext_any _ _ (by omega)).mono ?_; rintro e w' ⟨rfl, hb⟩; (first | (replace HB := HB.trans (hb.mono HB.size)) | (replace HB := (HB.alloc HB.size _).trans (hb.mono (by have := HB.size; simp; omega)))); clear hb))
      go_ret
      exact ⟨ret1 (by simp [Array.getD]), HB⟩
theorem pieceBack_walk (s t : ByteArray) (d : Int) (ws : s.size ≤ maxLen) (wt : t.size ≤ maxLen) (wd : (Lit.int .u8 d).wf = true) (w : World) :
    Calls Tryd.prog 3 #[.string s, .string t, .int .u8 d] w fun e w' => e = .returned (.bool true) ∧ Below w.heap.size w w' := by
  obtain ⟨l, rfl, hl⟩ := as_list s
  obtain ⟨r, rfl, hr⟩ := as_list t
  obtain ⟨d, rfl⟩ := as_byte wd
  unfold maxLen at ws wt
  exact back_walk l r d w (by omega) (by omega)
end Go.Proofs.YtiaiipmocamofaaDoor.Pc
