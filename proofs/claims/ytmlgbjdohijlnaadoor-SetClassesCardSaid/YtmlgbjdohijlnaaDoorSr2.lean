/- The reference's sets: Of, Range. -/
import Derived.Test.YtmlgbjdohijlnaaDoorSr1
import Derived.Test.YtmlgbjdohijlnaaDoorStA
namespace Go.Proofs.YtmlgbjdohijlnaaDoor.St
open Go.RowKit
set_option linter.unusedVariables false
set_option linter.unusedSimpArgs false
def ofB (l : List UInt8) (k : Nat) : Nat → Bool := fun i => (l.take k).any fun d => i == d.toNat
set_option maxRecDepth 100000 in
set_option maxHeartbeats 400000 in
theorem refOf_any (l : List UInt8) (w : World) (hl : l.length ≤ 1000000) :
    Calls Tryd.prog 19 #[.string ⟨l.toArray⟩] w fun e w' => e = .returned (BV (mem (ofL l))) ∧ Below w.heap.size w w' := by
  have hz := zero_at
  go_enter Tryd.func19, Tryd.ntmps19
  refine wp_seq_k fun K0 hK => ?_
  have HK := Lib.hid hK; clear hK
  go_wp2
  refine HK.out _ _ ?_
  clear HK K0
  have HA := Lib.hid (show BB (w.alloc (Obj.cells (bc fun x => false) 29)) w.heap.size FF from bb_new _ _)
  have HB := Lib.hid ((Below.refl w.heap.size w).alloc (Nat.le_refl _) (Obj.cells (bc fun x => false) 29))
  generalize w.alloc (Obj.cells (bc fun x => false) 29) = W0 at *
  refine wp_seq_k fun K1 hK => ?_
  have HK := Lib.hid hK; clear hK
  have hsc := run_storeCells_new (P := Tryd.prog) W0 29 (bc FF) (bc FF) (by rw [bc_size]; kernel_rfl) rfl (bc_one _)
  have hn := bc_size FF
  go_wp2
  refine HK.out _ _ ?_
  clear HK K1 hsc hn
  have HO := Lib.hid (show BB (W0.alloc (Obj.cells (bc FF) 29)) W0.heap.size (ofB l 0) from by
    have : bc FF = bc (ofB l 0) := bc_congr fun i _ => by simp [FF, ofB]
    rw [this]; exact bb_new _ _)
  have HA2 := Lib.hid (alloc_raw HA.out (Obj.cells (bc FF) 29))
  have HB2 := Lib.hid (HB.out.alloc HB.out.size (Obj.cells (bc FF) 29))
  have hlt0 : w.heap.size < W0.heap.size := (Array.getElem?_eq_some_iff.1 HA.out).1
  clear HA HB
  generalize W0.alloc (Obj.cells (bc FF) 29) = W1 at *
  generalize W0.heap.size = bo at *
  refine wp_seq_k fun K2 hK => ?_
  have HK := Lib.hid hK; clear hK
  go_wp2
  go_loopw [4] (fun i wr => ∃ k : Nat, k ≤ l.length ∧ i = .int .i64 k ∧ BB wr w.heap.size FF ∧ BB wr bo (ofB l k) ∧ Below w.heap.size w wr) (fun i _ => l.length - (intOf i).toNat)
  case atStart => exact ⟨0, Nat.zero_le _, rfl, HA2.out, HO.out, HB2.out⟩
  case round =>
    obtain ⟨k, hk, rfl, hA, hO, hB⟩ := hrel
    by_cases hlt : k < l.length
    · have hcell : ((ByteArray.mk l.toArray)[k]'hlt) = l[k] := rfl
      have HE := Lib.hid (show ∀ i, ofB l (k + 1) i = if i = l[k].toNat then true else ofB l k i from fun i => by
        unfold ofB
        rw [List.take_succ_eq_append_getElem hlt, List.any_append]
        by_cases he : i = l[k].toNat
        · rw [if_pos he]; simp [he]
        · rw [if_neg he]; simp [he])
      have hc0 := UInt8.toNat_lt l[k]
      generalize l[k] = c at *
      have c2 := hO.cell (i := c.toNat) hc0
      have f2 := Lib.frozen_of_heap hO c.toNat
      have HA3 := Lib.hid hA
      have HO3 := Lib.hid hO
      have HB3 := Lib.hid hB
      have hI : (c.toNat : Int) < 256 := by omega
      clear hA hO hB hz
      go_wp2
      go_roundw
      case rel =>
        refine ⟨k + 1, by omega, by go_num, ?_, ?_, ?_⟩
        · exact heap_set_other HA3.out (by omega) _ _
        · exact BB.put HO3.out (fun i hi => HE.out i)
        · exact HB3.out.setCell (p := ⟨bo, c.toNat, none⟩) (by show w.heap.size ≤ bo; omega) _
      case measure => simp [intOf]; omega
    · obtain rfl : k = l.length := by omega
      have hO' : BB wr bo (mem (ofL l)) := by
        have : bc (ofB l l.length) = bc (mem (ofL l)) := bc_congr fun i hi => by rw [mem_ofL, ofB, List.take_length]
        rw [BB, ← this]; exact hO
      have HR := Lib.hid (BB.row hA (mem (ofL l)))
      have HB3 := Lib.hid (below_setRow hB (Nat.le_refl _) (bc (mem (ofL l))))
      have HO4 := Lib.hid hO'
      have HA4 := Lib.hid hA
      clear hA hO hB hz hO'
      go_wp2
      refine HK.out _ _ ?_
      clear HK
      refine wp_seq_k fun K3 hK => ?_
      refine tail_row rfl rfl rfl rfl rfl rfl rfl rfl rfl HO4.out HA4.out ?_
      refine hK _ _ ?_
      go_wp2
      refine bodyPost_ret (v := BV (mem (ofL l))) ?_ ?_ ?_
      · exact answer rfl rfl HR.out
      · rfl
      · exact ⟨rfl, HB3.out⟩

def rngB (a k : Nat) : Nat → Bool := fun i => decide (a ≤ i) && decide (i < a + k)
set_option maxRecDepth 100000 in
set_option maxHeartbeats 400000 in
theorem refRange_nat (a b : Nat) (w : World) (ha : a < 256) (hb : b < 256) :
    Calls Tryd.prog 22 #[.int .u8 (a : Int), .int .u8 (b : Int)] w fun e w' => e = .returned (BV (mem (rangeW a b))) ∧ Below w.heap.size w w' := by
  have hz := zero_at
  go_enter Tryd.func22, Tryd.ntmps22
  refine wp_seq_k fun K0 hK => ?_
  have HK := Lib.hid hK; clear hK
  go_wp2
  refine HK.out _ _ ?_
  clear HK K0
  have HA := Lib.hid (show BB (w.alloc (Obj.cells (bc fun x => false) 29)) w.heap.size FF from bb_new _ _)
  have HB := Lib.hid ((Below.refl w.heap.size w).alloc (Nat.le_refl _) (Obj.cells (bc fun x => false) 29))
  generalize w.alloc (Obj.cells (bc fun x => false) 29) = W0 at *
  refine wp_seq_k fun K1 hK => ?_
  have HK := Lib.hid hK; clear hK
  have hsc := run_storeCells_new (P := Tryd.prog) W0 29 (bc FF) (bc FF) (by rw [bc_size]; kernel_rfl) rfl (bc_one _)
  have hn := bc_size FF
  go_wp2
  refine HK.out _ _ ?_
  clear HK K1 hsc hn
  have HO := Lib.hid (show BB (W0.alloc (Obj.cells (bc FF) 29)) W0.heap.size (rngB a 0) from by
    have : bc FF = bc (rngB a 0) := bc_congr fun i _ => by simp [FF, rngB]
    rw [this]; exact bb_new _ _)
  have HA2 := Lib.hid (alloc_raw HA.out (Obj.cells (bc FF) 29))
  have HB2 := Lib.hid (HB.out.alloc HB.out.size (Obj.cells (bc FF) 29))
  have hlt0 : w.heap.size < W0.heap.size := (Array.getElem?_eq_some_iff.1 HA.out).1
  clear HA HB
  generalize W0.alloc (Obj.cells (bc FF) 29) = W1 at *
  generalize W0.heap.size = bo at *
  refine wp_seq_k fun K2 hK => ?_
  have HK := Lib.hid hK; clear hK
  go_wp2
  go_loopw [6] (fun i wr => ∃ k : Nat, k ≤ b + 1 - a ∧ i = .int .i64 ((a + k : Nat) : Int) ∧ BB wr w.heap.size FF ∧ BB wr bo (rngB a k) ∧ Below w.heap.size w wr) (fun i _ => b + 1 - (intOf i).toNat)
  case atStart => exact ⟨0, Nat.zero_le _, by go_num, HA2.out, HO.out, HB2.out⟩
  case round =>
    obtain ⟨k, hk, rfl, hA, hO, hB⟩ := hrel
    by_cases hlt : a + k ≤ b
    · have HE := Lib.hid (show ∀ i, rngB a (k + 1) i = if i = a + k then true else rngB a k i from fun i => by
        unfold rngB
        by_cases he : i = a + k
        · rw [if_pos he, Bool.and_eq_true, decide_eq_true_eq, decide_eq_true_eq]; omega
        · rw [if_neg he, Bool.eq_iff_iff, Bool.and_eq_true, Bool.and_eq_true, decide_eq_true_eq, decide_eq_true_eq, decide_eq_true_eq]; omega)
      have hm0 : a + k + 1 = a + (k + 1) := by omega
      generalize hm : a + k = m at *
      have c2 := hO.cell (i := m) (by omega)
      have f2 := Lib.frozen_of_heap hO m
      have HA3 := Lib.hid hA
      have HO3 := Lib.hid hO
      have HB3 := Lib.hid hB
      have HM := Lib.hid hm0
      clear hA hO hB hz hm0
      have hI : (m : Int) ≤ (b : Int) := by omega
      have hI2 : (m : Int) < 256 := by omega
      go_wp2
      go_roundw
      case rel =>
        refine ⟨k + 1, by omega, by rw [← HM.out]; go_num, ?_, ?_, ?_⟩
        · exact heap_set_other HA3.out (by omega) _ _
        · exact BB.put HO3.out (fun i hi => HE.out i)
        · exact HB3.out.setCell (p := ⟨bo, m, none⟩) (by show w.heap.size ≤ bo; omega) _
      case measure => simp [intOf]; omega
    · have hO' : BB wr bo (mem (rangeW a b)) := by
        have : bc (rngB a k) = bc (mem (rangeW a b)) := bc_congr fun i hi => by
          rw [mem_rangeW ha hb, rngB, Bool.eq_iff_iff, Bool.and_eq_true, Bool.and_eq_true, decide_eq_true_eq, decide_eq_true_eq, decide_eq_true_eq]; omega
        rw [BB, ← this]; exact hO
      have hI : ¬ ((a + k : Nat) : Int) ≤ (b : Int) := by omega
      have HR := Lib.hid (BB.row hA (mem (rangeW a b)))
      have HB3 := Lib.hid (below_setRow hB (Nat.le_refl _) (bc (mem (rangeW a b))))
      have HO4 := Lib.hid hO'
      have HA4 := Lib.hid hA
      clear hA hO hB hz hO'
      go_wp2
      refine HK.out _ _ ?_
      clear HK
      refine wp_seq_k fun K3 hK => ?_
      refine tail_row rfl rfl rfl rfl rfl rfl rfl rfl rfl HO4.out HA4.out ?_
      refine hK _ _ ?_
      go_wp2
      refine bodyPost_ret (v := BV (mem (rangeW a b))) ?_ ?_ ?_
      · exact answer rfl rfl HR.out
      · rfl
      · exact ⟨rfl, HB3.out⟩

theorem refRange_lit (a b : Int) (w : World) (ha : 0 ≤ a ∧ a < 256) (hb : 0 ≤ b ∧ b < 256) :
    Calls Tryd.prog 22 #[.int .u8 a, .int .u8 b] w fun e w' => e = .returned (BV (mem (rangeW a.toNat b.toNat))) ∧ Below w.heap.size w w' := by
  have h := refRange_nat a.toNat b.toNat w (by omega) (by omega)
  rw [show ((a.toNat : Nat) : Int) = a from by omega, show ((b.toNat : Nat) : Int) = b from by omega] at h
  exact h
end Go.Proofs.YtmlgbjdohijlnaaDoor.St
