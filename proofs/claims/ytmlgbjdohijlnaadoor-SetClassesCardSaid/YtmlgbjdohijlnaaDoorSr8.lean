/- told of the law's package, Or of none; the reference's answers as sets of words. -/
import Derived.Test.YtmlgbjdohijlnaaDoorSr2
import Derived.Test.YtmlgbjdohijlnaaDoorSr4
import Derived.Test.YtmlgbjdohijlnaaDoorSr6
import Derived.Test.YtmlgbjdohijlnaaDoorSr7
namespace Go.Proofs.YtmlgbjdohijlnaaDoor.St
open Go.RowKit
set_option linter.unusedVariables false
set_option linter.unusedSimpArgs false
set_option maxHeartbeats 400000 in
theorem or_nil (w : World) :
    Calls Tryd.prog 15 #[.slice none 0 0] w fun e w' => e = .returned (SV zeroW) ∧ Below w.heap.size w w' := by
  go_enter Tryd.func15, Tryd.ntmps15
  go_wp2
  go_loopw [4, 5, 8] (fun _ _ i wr => i = .int .i64 0 ∧ SB wr w.heap.size zeroW ∧ Below w.heap.size w wr) (fun _ _ i _ => 0)
  case atStart => exact ⟨rfl, heap_alloc_new w _, (Below.refl _ w).alloc (Nat.le_refl _) _⟩
  case round =>
    obtain ⟨rfl, hS, hB⟩ := hrel
    have hw := wf_zero
    have g0 := hS.cell hw (i := 0) (by omega)
    have g1 := hS.cell hw (i := 1) (by omega)
    have g2 := hS.cell hw (i := 2) (by omega)
    have g3 := hS.cell hw (i := 3) (by omega)
    have f0 := Lib.frozen_of_heap hS 0
    have f1 := Lib.frozen_of_heap hS 1
    have f2 := Lib.frozen_of_heap hS 2
    have f3 := Lib.frozen_of_heap hS 3
    have HSV := Lib.hid (SV_eq hw)
    have hS4 := hS.put hw hw
    have hB4 := put4_below hB (Nat.le_refl _) zeroW
    clear hS
    generalize hws : zeroW = WS at *
    have HWS := Lib.hid hws
    clear hws
    go_wp2
    rw [put4_eq]
    generalize put4 wr w.heap.size WS = W at *
    have k0 := hS4.cell hw (i := 0) (by omega)
    have k1 := hS4.cell hw (i := 1) (by omega)
    have k2 := hS4.cell hw (i := 2) (by omega)
    have k3 := hS4.cell hw (i := 3) (by omega)
    exact bodyPost_ret (v := SV WS) (by rw [HSV.out]; simp [results, Tryd.results15, go_sem, k0, k1, k2, k3]) rfl ⟨by rw [HWS.out], hB4⟩
set_option maxRecDepth 100000 in
set_option maxHeartbeats 400000 in
theorem toldL_any (ws : List Nat) (w : World) (h : Wf ws) :
    Calls Tryd.prog 13 #[SV ws] w fun e w' => e = .returned (BV (mem ws)) ∧ Below w.heap.size w w' := by
  have hz := zero_at
  have CT := fun W => told_any ws W h
  have HSV := Lib.hid (SV_eq h)
  have g0 := word_get h (i := 0) (by omega)
  have g1 := word_get h (i := 1) (by omega)
  have g2 := word_get h (i := 2) (by omega)
  have g3 := word_get h (i := 3) (by omega)
  go_enter Tryd.func13, Tryd.ntmps13
  refine wp_seq_k fun K0 hK => ?_
  have HK := Lib.hid hK; clear hK
  go_wp2
  refine HK.out _ _ ?_
  clear HK K0
  have HW := Lib.hid (show SB ((w.alloc (Obj.cells (wc ws) 25)).alloc (Obj.cells (bc fun x => false) 29)) w.heap.size ws from (two_new w _ _).1)
  have HA := Lib.hid (show BB ((w.alloc (Obj.cells (wc ws) 25)).alloc (Obj.cells (bc fun x => false) 29)) (w.heap.size + 1) FF from (two_new w _ _).2)
  have HB := Lib.hid (((Below.refl w.heap.size w).alloc (Nat.le_refl _) (Obj.cells (wc ws) 25)).alloc (alloc_le _ _) (Obj.cells (bc fun x => false) 29))
  generalize (w.alloc (Obj.cells (wc ws) 25)).alloc (Obj.cells (bc fun x => false) 29) = W0 at *
  clear hz
  refine wp_seq_k fun K1 hK => ?_
  have HK := Lib.hid hK; clear hK
  have k0 := HW.out.cell h (i := 0) (by omega)
  have k1 := HW.out.cell h (i := 1) (by omega)
  have k2 := HW.out.cell h (i := 2) (by omega)
  have k3 := HW.out.cell h (i := 3) (by omega)
  simp only [HSV.out] at CT
  have HCT := Lib.hid CT
  clear CT
  go_wp2_with (go_at_call 30; refine (HCT.out _).mono ?_; rintro e w' ⟨rfl, hbl⟩
               have hA := (hbl.block (w.heap.size + 1) (Array.getElem?_eq_some_iff.1 HA.out).1).trans HA.out
               have hsc := row_store (P := Tryd.prog) hA (by rw [bc_size, bc_size]) (bc_one (mem ws))
               have hn := bc_size (mem ws)
               have HA2 := Lib.hid hA
               clear hA)
  refine HK.out _ _ ?_
  clear HK
  have HR := Lib.hid (BB.row HA2.out (mem ws))
  have HB3 := Lib.hid (below_setRow (HB.out.trans (hbl.mono HB.out.size)) (Nat.le_succ _) (bc (mem ws)))
  go_wp2
  refine bodyPost_ret (v := BV (mem ws)) ?_ ?_ ?_
  · exact answer rfl rfl HR.out
  · rfl
  · exact ⟨rfl, HB3.out⟩
theorem BV_congr {f g : Nat → Bool} (h : ∀ i, i < 256 → f i = g i) : BV f = BV g := by rw [BV, BV, bc_congr h]
theorem refOr_set (s t : List Nat) (w : World) (hs : Wf s) (ht : Wf t) :
    Calls Tryd.prog 23 #[BV (mem s), BV (mem t)] w fun e w' => e = .returned (BV (mem (orL [s, t]))) ∧ Below w.heap.size w w' := by
  have := refOr_any (mem s) (mem t) w
  rwa [BV_congr (f := fun i => mem s i || mem t i) (g := mem (orL [s, t])) (fun i hi => by
    rw [mem_orL (fun v hv => by simp at hv; rcases hv with rfl | rfl <;> assumption) hi]; simp)] at this
theorem refNot_set (s : List Nat) (w : World) (hs : Wf s) :
    Calls Tryd.prog 25 #[BV (mem s)] w fun e w' => e = .returned (BV (mem (notW s))) ∧ Below w.heap.size w w' := by
  have := refNot_any (mem s) w
  rwa [BV_congr (f := fun i => !mem s i) (g := mem (notW s)) (fun i hi => (mem_notW hs hi).symm)] at this
theorem refFold_set (s : List Nat) (w : World) (hs : Wf s) :
    Calls Tryd.prog 26 #[BV (mem s)] w fun e w' => e = .returned (BV (mem (foldW s))) ∧ Below w.heap.size w w' := by
  have := refFold_any (mem s) w
  rwa [BV_congr (f := foldB (mem s)) (g := mem (foldW s)) (fun i hi => fold_bytes hs hi)] at this
end Go.Proofs.YtmlgbjdohijlnaaDoor.St
