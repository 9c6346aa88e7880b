/- Sets of bytes: walks of Not, Or, Size. -/
import Derived.Test.YtmlgbjdohijlnaaDoorSt2
namespace Go.Proofs.YtmlgbjdohijlnaaDoor.St
open Go.RowKit
set_option linter.unusedVariables false
set_option linter.unusedSimpArgs false

theorem two_new (w : World) (a b : Obj) : ((w.alloc a).alloc b).heap[w.heap.size]? = some a ∧ ((w.alloc a).alloc b).heap[w.heap.size + 1]? = some b := by
  have hs : (w.alloc a).heap.size = w.heap.size + 1 := by show (w.heap.push a).size = _; simp
  refine ⟨?_, ?_⟩
  · rw [heap_alloc_old _ _ (by rw [hs]; exact Nat.lt_succ_self _)]; exact heap_alloc_new w a
  · rw [← hs]; exact heap_alloc_new _ b
theorem alloc_le (w : World) (a : Obj) : w.heap.size ≤ (w.alloc a).heap.size := by show w.heap.size ≤ (w.heap.push a).size; simp
theorem not_word (x : Nat) (h : x < 2 ^ 64) : bits BinOp.xor IntKind.u64 (if IntKind.u64.signed = true then -1 else IntKind.u64.max) (x : Int) = ((2 ^ 64 - 1 - x : Nat) : Int) := by
  show bits BinOp.xor IntKind.u64 ((18446744073709551615 : Nat) : Int) (x : Int) = _
  rw [u64_xor_nat _ _ (by decide) h]
  congr 1
  apply Nat.eq_of_testBit_eq
  intro j
  rw [Nat.testBit_xor, show 18446744073709551615 = 2 ^ 64 - 1 from rfl, Nat.testBit_two_pow_sub_one, show 2 ^ 64 - 1 - x = 2 ^ 64 - (x + 1) from by omega, Nat.testBit_two_pow_sub_succ h]
  by_cases hj : j < 64
  · simp [hj]
  · have : x.testBit j = false := Nat.testBit_lt_two_pow (Nat.lt_of_lt_of_le h (Nat.pow_le_pow_right (by decide) (by omega)))
    simp [hj, this]
/-- Four words are put in a block. -/
def put4 (w : World) (b : Nat) (vs : List Nat) : World :=
  ((((w.setCell ⟨b, 0, none⟩ (.int .u64 (word vs 0 : Int))).setCell ⟨b, 1, none⟩ (.int .u64 (word vs 1 : Int))).setCell ⟨b, 2, none⟩ (.int .u64 (word vs 2 : Int))).setCell ⟨b, 3, none⟩ (.int .u64 (word vs 3 : Int)))
theorem put4_eq (w : World) (b : Nat) (vs : List Nat) : ((((w.setCell ⟨b, 0, none⟩ (.int .u64 (word vs 0 : Int))).setCell ⟨b, 1, none⟩ (.int .u64 (word vs 1 : Int))).setCell ⟨b, 2, none⟩ (.int .u64 (word vs 2 : Int))).setCell ⟨b, 3, none⟩ (.int .u64 (word vs 3 : Int))) = put4 w b vs := rfl
theorem SB.put {w : World} {b : Nat} {zs vs : List Nat} (h : SB w b zs) (hz : Wf zs) (hv : Wf vs) : SB (put4 w b vs) b vs := by
  have hq : (((zs.set 0 (word vs 0)).set 1 (word vs 1)).set 2 (word vs 2)).set 3 (word vs 3) = vs := by
    obtain ⟨hl, _⟩ := hz
    obtain ⟨hl', _⟩ := hv
    match zs, vs, hl, hl' with
    | [_, _, _, _], [_, _, _, _], _, _ => rfl
  have e := SB.set (SB.set (SB.set (SB.set h 0 (word vs 0)) 1 (word vs 1)) 2 (word vs 2)) 3 (word vs 3)
  rw [hq] at e
  unfold put4
  exact e
theorem put4_below {B : Nat} {w0 w : World} {b : Nat} (h : Below B w0 w) (hb : B ≤ b) (vs : List Nat) : Below B w0 (put4 w b vs) := below_again h hb _ _ _ _
theorem put4_other {w : World} {b b' : Nat} {o : Obj} (h : w.heap[b']? = some o) (hb : b ≠ b') (vs : List Nat) : (put4 w b vs).heap[b']? = some o := by
  unfold put4
  exact heap_set_other (heap_set_other (heap_set_other (heap_set_other h hb 0 _) hb 1 _) hb 2 _) hb 3 _
set_option maxHeartbeats 400000 in
theorem not_any (ws : List Nat) (w : World) (h : Wf ws) :
    Calls Tryd.prog 24 #[SV ws] w fun e w' => e = .returned (SV (notW ws)) ∧ Below w.heap.size w w' := by
  have HSV0 := Lib.hid (SV_eq h)
  go_enter Tryd.func24, Tryd.ntmps24
  go_wp2
  go_loopw [3, 4] (fun _ i wr => ∃ k : Nat, k ≤ 4 ∧ i = .int .i64 (k : Int) ∧ SB wr w.heap.size (notK ws k) ∧ SB wr (w.heap.size + 1) zeroW ∧ Below w.heap.size w wr) (fun _ i _ => 4 - (intOf i).toNat)
  case atStart => exact ⟨0, Nat.zero_le _, rfl, (two_new w _ _).1, (two_new w _ _).2, ((Below.refl _ w).alloc (Nat.le_refl _) _).alloc (alloc_le _ _) _⟩
  case round =>
    obtain ⟨k, hk, rfl, hS, hZ, hB⟩ := hrel
    have hw := (notK_spec h k hk).1
    have HSN := Lib.hid (show notK ws (k + 1) = (notK ws k).set k (2 ^ 64 - 1 - word (notK ws k) k) from rfl)
    have HN4 := Lib.hid (notK_four h)
    by_cases hlt : k < 4
    · have c1 := hS.cell hw hlt
      have f1 := Lib.frozen_of_heap hS k
      have hx := word_lt hw k
      have hI : (k : Int) < 4 := by omega
      generalize hv : notK ws k = vs at *
      go_wp2
      go_roundw
      case rel => exact ⟨k + 1, by omega, by go_num, by rw [HSN.out, not_word _ hx]; exact SB.set hS _ _, heap_set_other hZ (by omega) _ _, hB.setCell (Nat.le_refl _) _⟩
      case measure => simp [intOf]; omega
    · obtain rfl : k = 4 := by omega
      generalize hvs : notK ws 4 = vs at *
      have HVS := Lib.hid hvs
      clear hvs
      have g0 := hS.cell hw (i := 0) (by omega)
      have g1 := hS.cell hw (i := 1) (by omega)
      have g2 := hS.cell hw (i := 2) (by omega)
      have g3 := hS.cell hw (i := 3) (by omega)
      have f0 := Lib.frozen_of_heap hZ 0
      have f1 := Lib.frozen_of_heap hZ 1
      have f2 := Lib.frozen_of_heap hZ 2
      have f3 := Lib.frozen_of_heap hZ 3
      have c0 := SB.cell hZ wf_zero (i := 0) (by omega)
      have c1 := SB.cell hZ wf_zero (i := 1) (by omega)
      have c2 := SB.cell hZ wf_zero (i := 2) (by omega)
      have c3 := SB.cell hZ wf_zero (i := 3) (by omega)
      have HSV := Lib.hid (SV_eq hw)
      have hS4 := SB.put hZ wf_zero hw
      have hB4 := put4_below hB (Nat.le_succ _) vs
      clear hS hZ HSV0
      go_wp2
      rw [put4_eq]
      generalize put4 wr (w.heap.size + 1) vs = W at *
      have k0 := hS4.cell hw (i := 0) (by omega)
      have k1 := hS4.cell hw (i := 1) (by omega)
      have k2 := hS4.cell hw (i := 2) (by omega)
      have k3 := hS4.cell hw (i := 3) (by omega)
      exact bodyPost_ret (v := SV vs) (by rw [HSV.out]; simp [results, Tryd.results24, go_sem, k0, k1, k2, k3]) rfl ⟨by rw [← HN4.out], hB4⟩
end Go.Proofs.YtmlgbjdohijlnaaDoor.St
