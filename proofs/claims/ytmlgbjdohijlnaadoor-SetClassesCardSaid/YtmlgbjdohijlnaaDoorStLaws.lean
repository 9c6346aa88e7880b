/- Sets of bytes: plain facts for the laws. -/
import Derived.Test.YtmlgbjdohijlnaaDoorStB
import Derived.Lib.LaidTab
namespace Go.Proofs.YtmlgbjdohijlnaaDoor.St
open Go.RowKit
set_option linter.unusedVariables false
set_option linter.unusedSimpArgs false
theorem size_range {a b : Nat} (ha : a < 256) (hb : b < 256) : sizeW (rangeW a b) = b + 1 - a := by
  unfold sizeW bytesN
  obtain ⟨k, hk⟩ : ∃ k, k = b + 1 - a := ⟨_, rfl⟩
  have e : (List.range 256).filter (mem (rangeW a b)) = (List.range 256).filter (fun c => decide (a ≤ c) && decide (c < a + k)) := by
    apply List.filter_congr
    intro c _
    rw [mem_rangeW ha hb, Bool.eq_iff_iff]; simp; omega
  rw [e, ← hk, show 256 = a + (k + (256 - a - k)) from by omega, List.range_add, List.range_add]
  simp only [List.filter_append, List.map_append, List.filter_map, List.length_append, List.length_map]
  have z1 : (List.range a).filter (fun c => decide (a ≤ c) && decide (c < a + k)) = [] := by
    rw [List.filter_eq_nil_iff]; intro c hc; have := List.mem_range.1 hc; simp; omega
  have z2 : (List.range k).filter ((fun c => decide (a ≤ c) && decide (c < a + k)) ∘ fun x => a + x) = List.range k := by
    rw [List.filter_eq_self]; intro c hc; have := List.mem_range.1 hc; simp; omega
  have z3 : (List.range (256 - a - k)).filter (((fun c => decide (a ≤ c) && decide (c < a + k)) ∘ fun x => a + x) ∘ fun x => k + x) = [] := by
    rw [List.filter_eq_nil_iff]; intro c hc; simp
  rw [z1, z2, z3]; simp

theorem tab_of {W : World} (h : Go.Lib.TabIs Tryd.prog W "math/bits.deBruijn64tab" .u8 (Go.Lib.deBruijn64tab.map fun n : Nat => (n : Int))) (hg : Tryd.prog.globalNamed "math/bits.deBruijn64tab" = some 0) : Tab W ∧ 0 < W.heap.size := by
  have hc : ∀ j, j < Go.Lib.deBruijn64tab.length → W.cell? ⟨0, j, none⟩ = some (.int .u8 (Go.Lib.deBruijn64tab.getD j 0 : Nat)) := by
    intro j hj
    rw [h.cell hg j (by simpa using hj)]
    simp [List.getD, hj]
  refine ⟨hc, ?_⟩
  have h0 := hc 0 (by decide)
  rcases Nat.lt_or_ge 0 W.heap.size with hl | hl
  · exact hl
  · exfalso
    have hn : W.heap[0]? = none := Array.getElem?_eq_none hl
    simp [World.cell?, hn] at h0

theorem u8_nat {a : Int} (h : (Lit.int .u8 a).wf = true) : ∃ n : Nat, a = (n : Int) ∧ n < 256 := by
  simp [Lit.wf, IntKind.min, IntKind.max, IntKind.signed, IntKind.bits] at h
  exact ⟨a.toNat, by omega, by omega⟩
set_option maxHeartbeats 2000000 in
theorem setRanges_nat (a b c : Nat) (ha : a < 256) (hb : b < 256) (hc : c < 256) (w : World) (hg : 0 < w.heap.size) (hT : Tab w) :
    Calls Tryd.prog 6 #[.int .u8 (a : Int), .int .u8 (b : Int), .int .u8 (c : Int)] w fun e w' => e = .returned (.bool true) ∧ Below w.heap.size w w' := by
  have HT := Lib.hid hT
  clear hT
  have hwf := wf_rangeW ha hb
  have HSV := Lib.hid (SV_eq hwf)
  have hm := mem_rangeW ha hb c
  have hs := size_range ha hb
  have HR := Lib.hid (show rangeW a b = rangeW a b from rfl)
  have hr1 := fun w => range_lit (a : Int) (b : Int) w (by omega) (by omega)
  have hh1 := fun w => has_lit (rangeW a b) (c : Int) w hwf (by omega)
  simp only [Int.toNat_natCast] at hr1 hh1
  generalize rangeW a b = r at *
  have hcase : ((a : Int) ≤ (c : Int) ∧ (c : Int) ≤ (b : Int) ∧ mem r c = true) ∨ ((a : Int) ≤ (c : Int) ∧ decide (c ≤ b) = false ∧ mem r c = false) ∨ ((c : Int) < (a : Int) ∧ decide (a ≤ c) = false ∧ mem r c = false) := by
    rw [hm]
    by_cases h1 : a ≤ c
    · by_cases h2 : c ≤ b
      · left; simp [h1, h2]
      · right; left; exact ⟨by omega, by simp; omega, by simp [h2]⟩
    · right; right; exact ⟨by omega, by simp; omega, by simp [h1]⟩
  have HS := Lib.hid hs
  have hord : (a : Int) ≤ (b : Int) ∨ (b : Int) < (a : Int) := by omega
  clear hm hs HR
  rcases hcase with ⟨i1, i2, hm⟩ | ⟨i1, i2, hm⟩ | ⟨i1, i2, hm⟩
  all_goals rcases hord with i3 | i3
  all_goals try (exfalso; omega)
  all_goals have HM := Lib.hid hm
  all_goals clear hm
  all_goals (
    go_enter Tryd.func6, Tryd.ntmps6
    go_wp2_with (first
      | (go_at_call 20; refine (hr1 _).mono ?_; rintro e w1 ⟨he, HB⟩; rw [HSV.out] at he; subst he)
      | (go_at_call 16; rw [← HSV.out]; refine (hh1 _).mono ?_; rintro e w2 ⟨he, hb⟩; rw [HM.out] at he; subst he
         have HS1 := Lib.hid (sb_below (show SB _ w1.heap.size r from by rw [SB, wc_eq hwf]; exact heap_alloc_new _ _) hb)
         obtain ⟨k0, k1, k2, k3⟩ := sb_cells HS1.out hwf
         replace HB := (HB.alloc HB.size _).trans (hb.mono (Nat.le_trans HB.size (alloc_le _ _))); clear hb)
      | (go_at_call 21; rw [← HSV.out]; refine (size_any r _ hwf).mono ?_; rintro e w3 ⟨he, hb⟩; rw [HS.out] at he; subst he
         replace HB := HB.trans (hb.mono HB.size); clear hb)
      | (go_at_call 10; refine (shown_any _ (Nat.lt_of_lt_of_le hg HB.size) (HT.out.below HB hg)).mono ?_; rintro e w4 ⟨rfl, hb⟩; replace HB := HB.trans (hb.mono HB.size))))
  all_goals (go_ret; exact ⟨rfl, HB⟩)
theorem setRanges_walk (a b c : Int) (w0 : (Lit.int .u8 a).wf = true) (w1 : (Lit.int .u8 b).wf = true) (w2 : (Lit.int .u8 c).wf = true) (W : World) (hg : 0 < W.heap.size) (hT : Tab W) :
    Calls Tryd.prog 6 #[.int .u8 a, .int .u8 b, .int .u8 c] W fun e w' => e = .returned (.bool true) ∧ Below W.heap.size W w' := by
  obtain ⟨a, rfl, ha⟩ := u8_nat w0
  obtain ⟨b, rfl, hb⟩ := u8_nat w1
  obtain ⟨c, rfl, hc⟩ := u8_nat w2
  exact setRanges_nat a b c ha hb hc W hg hT
end Go.Proofs.YtmlgbjdohijlnaaDoor.St
