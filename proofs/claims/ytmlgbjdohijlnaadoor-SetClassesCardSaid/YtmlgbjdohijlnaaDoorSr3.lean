/- The reference's sets: Not, Or, Fold. -/
import Derived.Test.YtmlgbjdohijlnaaDoorSr1
namespace Go.Proofs.YtmlgbjdohijlnaaDoor.St
open Go.RowKit
set_option linter.unusedVariables false
set_option linter.unusedSimpArgs false
theorem three_new (w : World) (a b c : Obj) : (((w.alloc a).alloc b).alloc c).heap[w.heap.size + 2]? = some c := by
  have h := heap_alloc_new ((w.alloc a).alloc b) c
  have e : ((w.alloc a).alloc b).heap.size = w.heap.size + 2 := by
    show ((w.heap.push a).push b).size = _
    simp
  rwa [e] at h
def notB (f : Nat → Bool) (k : Nat) : Nat → Bool := fun i => if i < k then !f i else f i
set_option maxRecDepth 100000 in
set_option maxHeartbeats 400000 in
theorem refNot_any (f : Nat → Bool) (w : World) :
    Calls Tryd.prog 25 #[BV f] w fun e w' => e = .returned (BV (fun i => !f i)) ∧ Below w.heap.size w w' := by
  have hz := zero_at
  go_enter Tryd.func25, Tryd.ntmps25
  refine wp_seq_k fun K0 hK => ?_
  have HK := Lib.hid hK; clear hK
  go_wp2
  refine HK.out _ _ ?_
  clear HK K0
  have HO := Lib.hid (show BB ((w.alloc (Obj.cells (bc f) 29)).alloc (Obj.cells (bc fun x => false) 29)) w.heap.size f from (two_new w _ _).1)
  have HA := Lib.hid (show BB ((w.alloc (Obj.cells (bc f) 29)).alloc (Obj.cells (bc fun x => false) 29)) (w.heap.size + 1) FF from (two_new w _ _).2)
  have HB := Lib.hid (show Below w.heap.size w ((w.alloc (Obj.cells (bc f) 29)).alloc (Obj.cells (bc fun x => false) 29)) from ((Below.refl w.heap.size w).alloc (Nat.le_refl _) _).alloc (alloc_le _ _) _)
  generalize (w.alloc (Obj.cells (bc f) 29)).alloc (Obj.cells (bc fun x => false) 29) = W1 at *
  clear hz
  refine wp_seq_k fun K2 hK => ?_
  have HK := Lib.hid hK; clear hK
  go_wp2
  go_loopw [3] (fun i wr => ∃ k : Nat, k ≤ 256 ∧ i = .int .i64 k ∧ BB wr w.heap.size (notB f k) ∧ BB wr (w.heap.size + 1) FF ∧ Below w.heap.size w wr) (fun i _ => 256 - (intOf i).toNat)
  case atStart => exact ⟨0, Nat.zero_le _, rfl, by rw [show notB f 0 = f from by funext i; simp [notB]]; exact HO.out, HA.out, HB.out⟩
  case round =>
    obtain ⟨k, hk, rfl, hO, hA, hB⟩ := hrel
    by_cases hlt : k < 256
    · have c1 := hO.cell hlt
      have e1 : notB f k k = f k := by simp [notB]
      rw [e1] at c1
      have f1 := Lib.frozen_of_heap hO k
      have HO3 := Lib.hid hO
      have HA3 := Lib.hid hA
      have HB3 := Lib.hid hB
      clear hA hO hB e1
      go_wp2
      go_roundw
      case rel =>
        refine ⟨k + 1, by omega, by go_num, ?_, ?_, ?_⟩
        · exact BB.put HO3.out (fun i hi => by
            unfold notB
            by_cases he : i = k
            · subst he; simp
            · rw [if_neg he]
              by_cases h2 : i < k
              · rw [if_pos h2, if_pos (by omega)]
              · rw [if_neg h2, if_neg (by omega)])
        · exact heap_set_other HA3.out (by omega) _ _
        · exact HB3.out.setCell (p := ⟨w.heap.size, k, none⟩) (Nat.le_refl _) _
      case measure => simp [intOf]; omega
    · obtain rfl : k = 256 := by omega
      have hO' : BB wr w.heap.size (fun i => !f i) := by
        have : bc (notB f 256) = bc (fun i => !f i) := bc_congr fun i hi => by simp [notB, hi]
        rw [BB, ← this]; exact hO
      have HR := Lib.hid (BB.row hA (fun i => !f i))
      have HB3 := Lib.hid (below_setRow hB (show w.heap.size ≤ w.heap.size + 1 by omega) (bc (fun i => !f i)))
      have HO4 := Lib.hid hO'
      have HA4 := Lib.hid hA
      clear hA hO hB hO'
      go_wp2
      refine HK.out _ _ ?_
      clear HK
      refine wp_seq_k fun K3 hK => ?_
      refine tail_row rfl rfl rfl rfl rfl rfl rfl rfl rfl HO4.out HA4.out ?_
      refine hK _ _ ?_
      go_wp2
      refine bodyPost_ret (v := BV (fun i => !f i)) ?_ ?_ ?_
      · exact answer rfl rfl HR.out
      · rfl
      · exact ⟨rfl, HB3.out⟩

def orB (f g : Nat → Bool) (k : Nat) : Nat → Bool := fun i => if i < k then f i || g i else f i
set_option maxRecDepth 100000 in
set_option maxHeartbeats 400000 in
theorem refOr_any (f g : Nat → Bool) (w : World) :
    Calls Tryd.prog 23 #[BV f, BV g] w fun e w' => e = .returned (BV (fun i => f i || g i)) ∧ Below w.heap.size w w' := by
  have hz := zero_at
  go_enter Tryd.func23, Tryd.ntmps23
  refine wp_seq_k fun K0 hK => ?_
  have HK := Lib.hid hK; clear hK
  go_wp2
  refine HK.out _ _ ?_
  clear HK K0
  have HO := Lib.hid (show BB (((w.alloc (Obj.cells (bc f) 29)).alloc (Obj.cells (bc g) 29)).alloc (Obj.cells (bc fun x => false) 29)) w.heap.size f from alloc_raw (two_new w _ _).1 _)
  have HG := Lib.hid (show BB (((w.alloc (Obj.cells (bc f) 29)).alloc (Obj.cells (bc g) 29)).alloc (Obj.cells (bc fun x => false) 29)) (w.heap.size + 1) g from alloc_raw (two_new w _ _).2 _)
  have HA := Lib.hid (show BB (((w.alloc (Obj.cells (bc f) 29)).alloc (Obj.cells (bc g) 29)).alloc (Obj.cells (bc fun x => false) 29)) (w.heap.size + 2) FF from three_new w _ _ _)
  have HB := Lib.hid (show Below w.heap.size w (((w.alloc (Obj.cells (bc f) 29)).alloc (Obj.cells (bc g) 29)).alloc (Obj.cells (bc fun x => false) 29)) from (((Below.refl w.heap.size w).alloc (Nat.le_refl _) _).alloc (alloc_le _ _) _).alloc (Nat.le_trans (alloc_le _ _) (alloc_le _ _)) _)
  generalize ((w.alloc (Obj.cells (bc f) 29)).alloc (Obj.cells (bc g) 29)).alloc (Obj.cells (bc fun x => false) 29) = W1 at *
  clear hz
  refine wp_seq_k fun K2 hK => ?_
  have HK := Lib.hid hK; clear hK
  go_wp2
  go_loopw [5] (fun i wr => ∃ k : Nat, k ≤ 256 ∧ i = .int .i64 k ∧ BB wr w.heap.size (orB f g k) ∧ BB wr (w.heap.size + 1) g ∧ BB wr (w.heap.size + 2) FF ∧ Below w.heap.size w wr) (fun i _ => 256 - (intOf i).toNat)
  case atStart => exact ⟨0, Nat.zero_le _, rfl, by rw [show orB f g 0 = f from by funext i; simp [orB]]; exact HO.out, HG.out, HA.out, HB.out⟩
  case round =>
    obtain ⟨k, hk, rfl, hO, hG, hA, hB⟩ := hrel
    by_cases hlt : k < 256
    · have c1 := hO.cell hlt
      have e1 : orB f g k k = f k := by simp [orB]
      rw [e1] at c1
      have f1 := Lib.frozen_of_heap hO k
      have c2 := hG.cell hlt
      have HO3 := Lib.hid hO
      have HG3 := Lib.hid hG
      have HA3 := Lib.hid hA
      have HB3 := Lib.hid hB
      have HP := Lib.hid (show ∀ v, v = (f k || g k) → ∀ i, i < 256 → orB f g (k + 1) i = if i = k then v else orB f g k i from fun v hv i hi => by
        unfold orB
        by_cases he : i = k
        · subst he; simp [hv]
        · rw [if_neg he]
          by_cases h2 : i < k
          · rw [if_pos h2, if_pos (by omega)]
          · rw [if_neg h2, if_neg (by omega)])
      clear hA hO hB hG e1
      cases hf : f k
      all_goals
        rw [hf] at c1
        have HF := Lib.hid hf
        clear hf
        go_wp2
        go_roundw
      all_goals first | (simp [intOf]; omega) | skip
      all_goals
        refine ⟨k + 1, by omega, by go_num, ?_, ?_, ?_, ?_⟩
        · exact BB.put HO3.out (HP.out _ (by simp [HF.out]))
        · exact heap_set_other HG3.out (by omega) _ _
        · exact heap_set_other HA3.out (by omega) _ _
        · exact HB3.out.setCell (p := ⟨w.heap.size, k, none⟩) (Nat.le_refl _) _
    · obtain rfl : k = 256 := by omega
      have hO' : BB wr w.heap.size (fun i => f i || g i) := by
        have : bc (orB f g 256) = bc (fun i => f i || g i) := bc_congr fun i hi => by simp [orB, hi]
        rw [BB, ← this]; exact hO
      clear hG
      have HR := Lib.hid (BB.row hA (fun i => f i || g i))
      have HB3 := Lib.hid (below_setRow hB (show w.heap.size ≤ w.heap.size + 2 by omega) (bc (fun i => f i || g i)))
      have HO4 := Lib.hid hO'
      have HA4 := Lib.hid hA
      clear hA hO hB hO'
      go_wp2
      refine HK.out _ _ ?_
      clear HK
      refine wp_seq_k fun K3 hK => ?_
      refine tail_row rfl rfl rfl rfl rfl rfl rfl rfl rfl HO4.out HA4.out ?_
      refine hK _ _ ?_
      go_wp2
      refine bodyPost_ret (v := BV (fun i => f i || g i)) ?_ ?_ ?_
      · exact answer rfl rfl HR.out
      · rfl
      · exact ⟨rfl, HB3.out⟩

end Go.Proofs.YtmlgbjdohijlnaaDoor.St
