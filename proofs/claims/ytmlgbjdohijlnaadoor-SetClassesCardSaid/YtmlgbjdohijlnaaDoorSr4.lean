/- The reference's sets: Fold. -/
import Derived.Test.YtmlgbjdohijlnaaDoorSr3
import Derived.Test.YtmlgbjdohijlnaaDoorStFold
namespace Go.Proofs.YtmlgbjdohijlnaaDoor.St
open Go.RowKit
set_option linter.unusedVariables false
set_option linter.unusedSimpArgs false
def foldB (f : Nat → Bool) : Nat → Bool := fun i => if 65 ≤ i ∧ i ≤ 90 then f i || f (i + 32) else if 97 ≤ i ∧ i ≤ 122 then f (i - 32) || f i else f i
def foldKB (f : Nat → Bool) (k : Nat) : Nat → Bool := fun i => if (65 ≤ i ∧ i < 65 + k) ∨ (97 ≤ i ∧ i < 97 + k) then foldB f i else f i
theorem low_all : ((List.range 256).all fun b => !(decide (97 ≤ lowN b) && decide (lowN b ≤ 122)) || (decide (65 ≤ b) && decide (b ≤ 90) && lowN b == b + 32 && upN b == b) || (decide (97 ≤ b) && decide (b ≤ 122) && lowN b == b && upN b == b - 32)) = true := by decide +kernel
theorem low_cases (b : Nat) (hb : b < 256) (h1 : 97 ≤ lowN b) (h2 : lowN b ≤ 122) : (65 ≤ b ∧ b ≤ 90 ∧ lowN b = b + 32 ∧ upN b = b) ∨ (97 ≤ b ∧ b ≤ 122 ∧ lowN b = b ∧ upN b = b - 32) := by
  have := List.all_eq_true.1 low_all b (List.mem_range.2 hb)
  simp only [h1, h2, decide_true, Bool.and_self, Bool.not_true, Bool.false_or, Bool.or_eq_true, Bool.and_eq_true, decide_eq_true_eq, beq_iff_eq] at this
  rcases this with ⟨⟨⟨a, b⟩, c⟩, d⟩ | ⟨⟨⟨a, b⟩, c⟩, d⟩
  · exact Or.inl ⟨a, b, c, d⟩
  · exact Or.inr ⟨a, b, c, d⟩
theorem low_of : ∀ b, b < 256 → (65 ≤ b ∧ b ≤ 90) ∨ (97 ≤ b ∧ b ≤ 122) → 97 ≤ lowN b ∧ lowN b ≤ 122 := by decide +kernel
theorem adds_iff {b c : Nat} (hb : b < 256) : adds b c = true ↔ (65 ≤ b ∧ b ≤ 90 ∧ (c = b ∨ c = b + 32)) ∨ (97 ≤ b ∧ b ≤ 122 ∧ (c = b ∨ c = b - 32)) := by
  unfold adds
  rw [Bool.and_eq_true, decide_eq_true_eq, Bool.or_eq_true, beq_iff_eq, beq_iff_eq]
  constructor
  · rintro ⟨⟨h1, h2⟩, h3⟩
    rcases low_cases b hb h1 h2 with ⟨a1, a2, a3, a4⟩ | ⟨a1, a2, a3, a4⟩
    · rw [a3, a4] at h3; omega
    · rw [a3, a4] at h3; omega
  · intro h
    have hl := low_of b hb (by omega)
    refine ⟨hl, ?_⟩
    rcases low_cases b hb hl.1 hl.2 with ⟨a1, a2, a3, a4⟩ | ⟨a1, a2, a3, a4⟩
    · rw [a3, a4]; omega
    · rw [a3, a4]; omega
theorem fold_bytes {s : List Nat} (h : Wf s) {c : Nat} (hc : c < 256) : foldB (mem s) c = mem (foldW s) c := by
  rw [Bool.eq_iff_iff, mem_foldW h hc]
  unfold foldB
  constructor
  · intro hf
    split at hf
    · rename_i hr
      rcases Bool.or_eq_true _ _ ▸ hf with h1 | h1
      · exact Or.inl h1
      · exact Or.inr ⟨c + 32, by omega, h1, (adds_iff (by omega)).2 (by omega)⟩
    · split at hf
      · rename_i hr
        rcases Bool.or_eq_true _ _ ▸ hf with h1 | h1
        · exact Or.inr ⟨c - 32, by omega, h1, (adds_iff (by omega)).2 (by omega)⟩
        · exact Or.inl h1
      · exact Or.inl hf
  · rintro (h1 | ⟨b, hb, h1, h2⟩)
    · split
      · rw [h1]; rfl
      · split
        · rw [h1]; simp
        · exact h1
    · rcases (adds_iff hb).1 h2 with ⟨a1, a2, rfl | rfl⟩ | ⟨a1, a2, rfl | rfl⟩
      · rw [if_pos ⟨a1, a2⟩, h1]; rfl
      · rw [if_neg (by omega), if_pos (by omega), Nat.add_sub_cancel, h1]; rfl
      · rw [if_neg (by omega), if_pos (by omega), h1]; simp
      · rw [if_pos (by omega), show b - 32 + 32 = b from by omega, h1]; simp
set_option maxRecDepth 100000 in
set_option maxHeartbeats 400000 in
theorem refFold_any (f : Nat → Bool) (w : World) :
    Calls Tryd.prog 26 #[BV f] w fun e w' => e = .returned (BV (foldB f)) ∧ Below w.heap.size w w' := by
  have hz := zero_at
  go_enter Tryd.func26, Tryd.ntmps26
  refine wp_seq_k fun K0 hK => ?_
  have HK := Lib.hid hK; clear hK
  go_wp2
  refine HK.out _ _ ?_
  clear HK K0
  have HO := Lib.hid (show BB ((w.alloc (Obj.cells (bc f) 29)).alloc (Obj.cells (bc fun x => false) 29)) w.heap.size f from (two_new w _ _).1)
  have HA := Lib.hid (show BB ((w.alloc (Obj.cells (bc f) 29)).alloc (Obj.cells (bc fun x => false) 29)) (w.heap.size + 1) FF from (two_new w _ _).2)
  have HB := Lib.hid (show Below w.heap.size w ((w.alloc (Obj.cells (bc f) 29)).alloc (Obj.cells (bc fun x => false) 29)) from ((Below.refl w.heap.size w).alloc (Nat.le_refl _) _).alloc (alloc_le _ _) _)
  generalize (w.alloc (Obj.cells (bc f) 29)).alloc (Obj.cells (bc fun x => false) 29) = W1 at *
  clear hz
  refine wp_seq_k fun K2 hK => ?_
  have HK := Lib.hid hK; clear hK
  go_wp2
  go_loopw [3] (fun i wr => ∃ k : Nat, k ≤ 26 ∧ i = .int .i32 ((65 + k : Nat) : Int) ∧ BB wr w.heap.size (foldKB f k) ∧ BB wr (w.heap.size + 1) FF ∧ Below w.heap.size w wr) (fun i _ => 91 - (intOf i).toNat)
  case atStart => exact ⟨0, Nat.zero_le _, by go_num, by rw [show foldKB f 0 = f from by funext i; unfold foldKB; rw [if_neg (by omega)]]; exact HO.out, HA.out, HB.out⟩
  case round =>
    obtain ⟨k, hk, rfl, hO, hA, hB⟩ := hrel
    by_cases hlt : k < 26
    · have HP := Lib.hid (show ∀ v, v = (f (65 + k) || f (65 + k + 32)) → ∀ i, i < 256 → foldKB f (k + 1) i = if i = 65 + k + 32 then v else if i = 65 + k then v else foldKB f k i from fun v hv i hi => by
        unfold foldKB
        by_cases he : i = 65 + k
        · subst he
          rw [if_pos (by omega), if_neg (by omega), if_pos rfl, hv, foldB, if_pos (by omega)]
        · by_cases he2 : i = 65 + k + 32
          · subst he2
            rw [if_pos (by omega), if_pos rfl, hv, foldB, if_neg (by omega), if_pos (by omega), Nat.add_sub_cancel]
          · rw [if_neg he2, if_neg he]
            by_cases hr : (65 ≤ i ∧ i < 65 + k) ∨ (97 ≤ i ∧ i < 97 + k)
            · rw [if_pos hr, if_pos (by omega)]
            · rw [if_neg hr, if_neg (by omega)])
      have HM := Lib.hid (show 65 + k + 1 = 65 + (k + 1) from by omega)
      have e1 : foldKB f k (65 + k) = f (65 + k) := by unfold foldKB; rw [if_neg (by omega)]
      have e2 : foldKB f k (65 + k + 32) = f (65 + k + 32) := by unfold foldKB; rw [if_neg (by omega)]
      have hm1 : 65 ≤ 65 + k := by omega
      have hm2 : 65 + k ≤ 90 := by omega
      have HLT := Lib.hid hlt
      clear hlt
      generalize 65 + k = m at *
      have c1 := hO.cell (i := m) (by omega)
      have c2 := hO.cell (i := m + 32) (by omega)
      rw [e1] at c1
      rw [e2] at c2
      have f1 := Lib.frozen_of_heap hO m
      have f2 := Lib.frozen_of_heap hO (m + 32)
      have hI : (m : Int) ≤ 90 := by omega
      have hI2 : (m : Int) < 256 := by omega
      have hI3 : (m : Int) + 32 < 256 := by omega
      have ew : IntKind.i32.wrap ((m : Int) + 32) = ((m + 32 : Nat) : Int) := by rw [IntKind.wrap_i32]; omega
      have ew1 : IntKind.i32.wrap ((m : Int) + 1) = ((m + 1 : Nat) : Int) := by rw [IntKind.wrap_i32]; omega
      have HO3 := Lib.hid hO
      have HA3 := Lib.hid hA
      have HB3 := Lib.hid hB
      have HMM := Lib.hid (And.intro hm1 hm2)
      clear hA hO hB e1 e2 hm1 hm2
      cases hf : f m
      all_goals
        rw [hf] at c1
        have HF := Lib.hid hf
        clear hf
        go_wp2
        go_roundw
      all_goals first | (simp [intOf] <;> omega) | skip
      all_goals
        refine ⟨k + 1, HLT.out, by rw [← HM.out]; go_num, ?_, ?_, ?_⟩
        · have h0 := BB.put HO3.out (k := m) (v := f m || f (m + 32)) (g := fun i => if i = m then (f m || f (m + 32)) else foldKB f k i) (fun i hi => rfl)
          rw [HF.out] at h0
          have h1 := BB.put h0 (k := m + 32) (v := f m || f (m + 32)) (g := foldKB f (k + 1)) (fun i hi => by rw [HP.out _ rfl i hi, HF.out])
          rw [HF.out] at h1
          exact h1
        · exact heap_set_other (heap_set_other HA3.out (by omega) _ _) (by omega) _ _
        · exact (HB3.out.setCell (p := ⟨w.heap.size, m, none⟩) (Nat.le_refl _) _).setCell (p := ⟨w.heap.size, m + 32, none⟩) (Nat.le_refl _) _
    · obtain rfl : k = 26 := by omega
      have hO' : BB wr w.heap.size (foldB f) := by
        have : bc (foldKB f 26) = bc (foldB f) := bc_congr fun i hi => by
          unfold foldKB
          by_cases hr : (65 ≤ i ∧ i < 65 + 26) ∨ (97 ≤ i ∧ i < 97 + 26)
          · rw [if_pos hr]
          · rw [if_neg hr, foldB, if_neg (by omega), if_neg (by omega)]
        rw [BB, ← this]; exact hO
      have HR := Lib.hid (BB.row hA (foldB f))
      have HB3 := Lib.hid (below_setRow hB (show w.heap.size ≤ w.heap.size + 1 by omega) (bc (foldB f)))
      have HO4 := Lib.hid hO'
      have HA4 := Lib.hid hA
      clear hA hO hB hO'
      go_wp2
      refine HK.out _ _ ?_
      clear HK
      refine wp_seq_k fun K3 hK => ?_
      refine tail_row rfl rfl rfl rfl rfl rfl rfl rfl rfl HO4.out HA4.out ?_
      refine hK _ _ ?_
      go_wp2
      refine bodyPost_ret (v := BV (foldB f)) ?_ ?_ ?_
      · exact answer rfl rfl HR.out
      · rfl
      · exact ⟨rfl, HB3.out⟩
end Go.Proofs.YtmlgbjdohijlnaaDoor.St
