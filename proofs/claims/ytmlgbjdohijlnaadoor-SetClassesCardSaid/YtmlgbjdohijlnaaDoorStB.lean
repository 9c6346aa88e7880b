/- Sets of bytes: shown. -/
import Derived.Test.YtmlgbjdohijlnaaDoorStA
import Derived.Test.YtmlgbjdohijlnaaDoorSt9
namespace Go.Proofs.YtmlgbjdohijlnaaDoor.St
open Go.RowKit
set_option linter.unusedVariables false
set_option linter.unusedSimpArgs false
def punctW : List Nat := orL [rangeW 33 47, rangeW 58 64, rangeW 91 96, rangeW 123 126]
theorem wf_punctW : Wf punctW := wf_orL (by simp [wf_rangeW])
def aW : List Nat := foldW (ofL [97, 49])
theorem wf_foldW {ws : List Nat} (h : Wf ws) : Wf (foldW ws) := wf_foldl _ h
theorem wf_aW : Wf aW := wf_foldW (wf_ofL _)
theorem aW_bytes : bytesL aW = [49, 65, 97] := by decide +kernel
theorem aW_size : sizeW aW = 3 := by decide +kernel
theorem aW_has : mem aW 65 = true := by decide +kernel
theorem pW_has : mem punctW 126 = true := by decide +kernel
theorem pW_not : mem punctW 122 = false := by decide +kernel
theorem has_lit (ws : List Nat) (b : Int) (w : World) (h : Wf ws) (hb : 0 ≤ b ∧ b < 256) :
    Calls Tryd.prog 16 #[SV ws, .int .u8 b] w fun e w' => e = .returned (.bool (mem ws b.toNat)) ∧ Below w.heap.size w w' := by
  have h := has_any ws (UInt8.ofNat b.toNat) w h
  have ea : (UInt8.ofNat b.toNat).toNat = b.toNat := by simp [UInt8.toNat_ofNat]; omega
  rw [ea, show ((b.toNat : Nat) : Int) = b from by omega] at h
  exact h

theorem sb_cells {w : World} {b : Nat} {ws : List Nat} (h : SB w b ws) (hw : Wf ws) : w.cell? ⟨b, 0, none⟩ = some (.int .u64 (word ws 0 : Int)) ∧ w.cell? ⟨b, 1, none⟩ = some (.int .u64 (word ws 1 : Int)) ∧ w.cell? ⟨b, 2, none⟩ = some (.int .u64 (word ws 2 : Int)) ∧ w.cell? ⟨b, 3, none⟩ = some (.int .u64 (word ws 3 : Int)) :=
  ⟨h.cell hw (by omega), h.cell hw (by omega), h.cell hw (by omega), h.cell hw (by omega)⟩
set_option maxHeartbeats 1000000 in
theorem shown_any (w : World) (hg : 0 < w.heap.size) (hT : Tab w) :
    Calls Tryd.prog 10 #[] w fun e w' => e = .returned (.bool true) ∧ Below w.heap.size w w' := by
  have HT := Lib.hid hT
  clear hT
  have HPA := Lib.hid (SV_eq wf_punctW)
  have HAA := Lib.hid (SV_eq wf_aW)
  go_enter Tryd.func10, Tryd.ntmps10
  go_wp2_with (first
    | (go_at_call 17; refine (of_any [97, 49] _ (by decide)).mono ?_; rintro e w1 ⟨rfl, HB⟩)
    | (go_at_call 14; refine (fold_any (ofL [97, 49]) _ (wf_ofL _) (Nat.lt_of_lt_of_le hg HB.size) (HT.out.below HB hg)).mono ?_; rintro e w2 ⟨he, hb⟩
       replace HB := HB.trans (hb.mono HB.size)
       change e = .returned (SV aW) at he
       rw [HAA.out] at he
       subst he; clear hb)
    | (go_at_call 11; refine (class_punct _).mono ?_; rintro e w3 ⟨he, hb⟩
       have HS1 := Lib.hid (sb_below (show SB _ w2.heap.size aW from by rw [SB, wc_eq wf_aW]; exact heap_alloc_new _ _) hb)
       replace HB := (HB.alloc HB.size _).trans (hb.mono (Nat.le_trans HB.size (alloc_le _ _)))
       change e = .returned (.tuple #[SV punctW, .bool true]) at he
       rw [HPA.out] at he
       subst he; clear hb
       have hl3 : w2.heap.size < w3.heap.size := (Array.getElem?_eq_some_iff.1 HS1.out).1
       obtain ⟨k0, k1, k2, k3⟩ := sb_cells HS1.out wf_aW)
    | (go_at_call 28; rw [← HAA.out]; refine (bytes_any aW _ wf_aW (Nat.lt_of_lt_of_le hg (Nat.le_trans HB.size (alloc_le _ _))) (HT.out.below (HB.alloc HB.size _) hg)).mono ?_; rintro e w4 ⟨he, hb⟩
       rw [aW_bytes] at he
       subst he
       replace HS1 := Lib.hid (sb_below (sb_alloc HS1.out _) hb)
       have HS2 := Lib.hid (sb_below (show SB _ w3.heap.size punctW from by rw [SB, wc_eq wf_punctW]; exact heap_alloc_new _ _) hb)
       replace HB := (HB.alloc HB.size _).trans (hb.mono (Nat.le_trans HB.size (alloc_le _ _)))
       obtain ⟨k0, k1, k2, k3⟩ := sb_cells HS1.out wf_aW
       obtain ⟨p0, p1, p2, p3⟩ := sb_cells HS2.out wf_punctW
       clear hb)
    | (go_at_call 21; rw [← HAA.out]; refine (size_any aW _ wf_aW).mono ?_; rintro e w4 ⟨he, hb⟩; rw [aW_size] at he; subst he
       replace HS1 := Lib.hid (sb_below HS1.out hb)
       replace HS2 := Lib.hid (sb_below HS2.out hb)
       replace HB := HB.trans (hb.mono HB.size)
       obtain ⟨k0, k1, k2, k3⟩ := sb_cells HS1.out wf_aW
       obtain ⟨p0, p1, p2, p3⟩ := sb_cells HS2.out wf_punctW
       clear hb)
    | (go_at_call 16; rw [← HAA.out]; refine (has_lit aW _ _ wf_aW (by decide)).mono ?_; rintro e w4 ⟨he, hb⟩; simp only [Int.reduceToNat] at he; rw [aW_has] at he; subst he
       replace HS1 := Lib.hid (sb_below HS1.out hb)
       replace HS2 := Lib.hid (sb_below HS2.out hb)
       replace HB := HB.trans (hb.mono HB.size)
       obtain ⟨k0, k1, k2, k3⟩ := sb_cells HS1.out wf_aW
       obtain ⟨p0, p1, p2, p3⟩ := sb_cells HS2.out wf_punctW
       clear hb)
    | (go_at_call 16; rw [← HPA.out]; refine (has_lit punctW _ _ wf_punctW (by decide)).mono ?_; rintro e w4 ⟨he, hb⟩; simp only [Int.reduceToNat] at he; (first | rw [pW_has] at he | rw [pW_not] at he); subst he
       replace HS1 := Lib.hid (sb_below HS1.out hb)
       replace HS2 := Lib.hid (sb_below HS2.out hb)
       replace HB := HB.trans (hb.mono HB.size)
       obtain ⟨k0, k1, k2, k3⟩ := sb_cells HS1.out wf_aW
       obtain ⟨p0, p1, p2, p3⟩ := sb_cells HS2.out wf_punctW
       clear hb))
  go_ret
  exact ⟨rfl, HB⟩
end Go.Proofs.YtmlgbjdohijlnaaDoor.St
