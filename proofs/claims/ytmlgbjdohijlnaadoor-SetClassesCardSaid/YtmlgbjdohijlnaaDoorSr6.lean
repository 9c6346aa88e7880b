/- The reference's sets: Bytes, Size. -/
import Derived.Test.YtmlgbjdohijlnaaDoorSr1
import Derived.Test.YtmlgbjdohijlnaaDoorSt8
import Derived.OwnWalk
import Derived.Laws.OwnMore
namespace Go.Proofs.YtmlgbjdohijlnaaDoor.St
open Go.RowKit Go.Shelf
set_option linter.unusedVariables false
set_option linter.unusedSimpArgs false
def pre (f : Nat → Bool) (k : Nat) : List UInt8 := ((List.range k).filter f).map UInt8.ofNat
theorem pre_next (f : Nat → Bool) (k : Nat) : pre f (k + 1) = if f k = true then pre f k ++ [UInt8.ofNat k] else pre f k := by
  unfold pre
  rw [List.range_succ, List.filter_append, List.map_append]
  cases hf : f k <;> simp [hf]
theorem pre_len (f : Nat → Bool) (k : Nat) : (pre f k).length ≤ k := by
  unfold pre
  rw [List.length_map]
  exact Nat.le_trans (List.length_filter_le _ _) (by simp)
theorem pre_full (ws : List Nat) : pre (mem ws) 256 = bytesL ws := rfl
theorem grow_below {base : Nat} {w w' : World} {row : Option Nat} (h : w.grownBy w' row) (hb : base ≤ w.heap.size) (hr : ∀ k, row = some k → base ≤ k) : Below base w w' :=
  ⟨h.os, h.tape, h.output, h.size, fun i hi => h.block i (by omega) (fun e => by have := hr i e.symm; omega)⟩
set_option maxRecDepth 100000 in
set_option maxHeartbeats 400000 in
theorem refBytes_any (ws : List Nat) (w : World) :
    Calls Tryd.prog 29 #[BV (mem ws)] w fun e w' => e = .returned (.string ⟨(bytesL ws).toArray⟩) ∧ Below w.heap.size w w' := by
  obtain ⟨i0, hi, hz0, hz1, hz2⟩ := info_parts infoU8
  have HI := Lib.hid (And.intro hi (And.intro hz0 (And.intro hz1 hz2)))
  clear hi hz0 hz1 hz2
  go_enter Tryd.func29, Tryd.ntmps29
  refine wp_seq_k fun K0 hK => ?_
  have HK := Lib.hid hK; clear hK
  go_wp2
  refine HK.out _ _ ?_
  clear HK K0
  have HO := Lib.hid (bb_new w (mem ws))
  have HB := Lib.hid ((Below.refl w.heap.size w).alloc (Nat.le_refl _) (Obj.cells (bc (mem ws)) 29))
  have hlt0 : w.heap.size + 1 ≤ (w.alloc (Obj.cells (bc (mem ws)) 29)).heap.size := by simp
  generalize w.alloc (Obj.cells (bc (mem ws)) 29) = W0 at *
  refine wp_seq_k fun K1 hK => ?_
  have HK := Lib.hid hK; clear hK
  go_wp2
  refine HK.out _ _ ?_
  clear HK K1
  have HR := Lib.hid (World.ownsRow_lit (base := w.heap.size + 1) (e := 5) (size := 1) W0 #[] 0 hlt0 (by unfold maxLen; omega) rfl)
  have HO2 := Lib.hid (alloc_raw HO.out (Obj.cells #[] 5))
  have HB2 := Lib.hid (HB.out.alloc HB.out.size (Obj.cells #[] 5))
  clear HO HB hlt0
  generalize W0.alloc (Obj.cells #[] 5) = W1 at *
  generalize Value.slice (some { block := W0.heap.size, off := 0 }) 0 0 = v0 at *
  refine wp_seq_k fun K2 hK => ?_
  have HK := Lib.hid hK; clear hK
  go_wp2
  go_loopw [3, 4] (fun v i wr => ∃ k : Nat, k ≤ 256 ∧ i = .int .i64 k ∧ BB wr w.heap.size (mem ws) ∧ wr.ownsRow (w.heap.size + 1) 5 1 v (pre (mem ws) k).length ((pre (mem ws) k).map u8v) ∧ Below w.heap.size w wr) (fun _ i _ => 256 - (intOf i).toNat)
  case atStart => exact ⟨0, Nat.zero_le _, rfl, HO2.out, HR.out, HB2.out⟩
  case round =>
    obtain ⟨k, hk, rfl, hO, hrow, hB⟩ := hrel
    by_cases hlt : k < 256
    · have c1 := hO.cell hlt
      have ek : (UInt8.ofNat k).toNat = k := by simp [UInt8.toNat_ofNat]; omega
      have ew : IntKind.u8.wrap (k : Int) = (k : Int) := by rw [IntKind.wrap_u8]; omega
      have HN := Lib.hid (pre_next (mem ws) k)
      have HL := Lib.hid (pre_len (mem ws) k)
      have hbs := Lib.hid (Array.getElem?_eq_some_iff.1 hO).1
      have HO3 := Lib.hid hO
      have HB3 := Lib.hid hB
      have HRW := Lib.hid hrow
      have HEK := Lib.hid ek
      clear hO hB hrow ek
      cases hf : mem ws k
      · rw [hf] at c1
        have HF := Lib.hid hf
        clear hf
        go_wp2
        go_roundw
        case rel =>
          refine ⟨k + 1, by omega, by go_num, HO3.out, ?_, HB3.out⟩
          rw [HN.out, HF.out, if_neg (by simp)]; exact HRW.out
        case measure => (simp [intOf] <;> omega)
      · rw [hf] at c1
        have HF := Lib.hid hf
        clear hf
        obtain ⟨hi, hz0, hz1, hz2⟩ := HI.out
        go_wp2_with (at_builtin; refine wpList_append_own _ rfl _ _ 55 rfl (w.heap.size + 1) 5 i0 (.int .u8 0) 1 1 Tryd.underlying55 hi hz0 hz1 hz2 rfl (by decide) _ _ _ rfl (HRW.out.alloc _) ⟨wr.heap.size, 0, none⟩ 1 1 [.int .u8 (k : Int)] rfl rfl (cell_one_new _ _ _) (by simp [Value.oneCell']) (by have := HL.out; unfold maxLen; omega) (by have := HL.out; omega) (by have := hbs.out; simp; omega) ?_; intro v1 w1 hown1 hgrow1 hnil1)
        go_roundw
        case rel =>
          have hG := grow_below (base := w.heap.size + 1) hgrow1 (by have := hbs.out; simp; omega) (fun j hj => (HRW.out.lt j hj).1)
          have hbA : Below (w.heap.size + 1) wr (wr.alloc (Obj.cells #[Value.int IntKind.u8 (k : Int)] 5)) := (Below.refl _ wr).alloc hbs.out _
          refine ⟨k + 1, by omega, by go_num, ?_, ?_, ?_⟩
          · exact (hG.block w.heap.size (Nat.lt_succ_self _)).trans ((hbA.block w.heap.size (Nat.lt_succ_self _)).trans HO3.out)
          · rw [HN.out, HF.out, if_pos rfl]
            simpa [u8v, HEK.out] using hown1
          · exact HB3.out.trans ((hbA.trans hG).mono (Nat.le_succ _))
        case measure => (simp [intOf] <;> omega)
    · obtain rfl : k = 256 := by omega
      have hcv := own_string (ws := ws) hrow
      have HB3 := Lib.hid hB
      clear hO hrow hB
      go_wp2
      refine HK.out _ _ ?_
      clear HK
      go_wp2
      go_ret
      exact ⟨rfl, HB3.out⟩
set_option maxHeartbeats 400000 in
theorem refSize_any (ws : List Nat) (w : World) :
    Calls Tryd.prog 27 #[BV (mem ws)] w fun e w' => e = .returned (.int .i64 (sizeW ws : Int)) ∧ Below w.heap.size w w' := by
  have CB := fun W => refBytes_any ws W
  have hl : (ByteArray.mk (bytesL ws).toArray).size = sizeW ws := by
    rw [show sizeW ws = (bytesL ws).length from by unfold sizeW; rw [bytesL_len]]; simp [ByteArray.size]
  go_enter Tryd.func27, Tryd.ntmps27
  refine wp_seq_k fun K0 hK => ?_
  have HK := Lib.hid hK; clear hK
  go_wp2
  refine HK.out _ _ ?_
  clear HK K0
  have HO := Lib.hid (bb_new w (mem ws))
  have HB := Lib.hid ((Below.refl w.heap.size w).alloc (Nat.le_refl _) (Obj.cells (bc (mem ws)) 29))
  generalize w.alloc (Obj.cells (bc (mem ws)) 29) = W0 at *
  refine wp_seq_k fun K1 hK => ?_
  have HK := Lib.hid hK; clear hK
  refine wp_region_list ?_
  refine wpList_load_row rfl 29 (.tmp 1) rfl w.heap.size rfl _ (bc (mem ws)) (0, 0) (.array 256 4) HO.out Tryd.underlying29 rfl (by rw [bc_size]; exact size_at) ?_
  simp only [Act.put, List.setIfInBounds_toArray, List.set_cons_zero, List.set_cons_succ]
  go_wp2_with (go_at_call 29; refine (CB _).mono ?_; rintro e w' ⟨rfl, hbl⟩)
  refine HK.out _ _ ?_
  go_wp2
  go_ret
  exact ⟨rfl, HB.out.trans (hbl.mono HB.out.size)⟩
end Go.Proofs.YtmlgbjdohijlnaaDoor.St
