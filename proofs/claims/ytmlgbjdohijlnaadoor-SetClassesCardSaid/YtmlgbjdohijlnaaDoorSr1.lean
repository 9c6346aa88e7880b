/- The reference's sets: Told. -/
import Derived.Test.YtmlgbjdohijlnaaDoorSr0
namespace Go.Proofs.YtmlgbjdohijlnaaDoor.St
open Go.RowKit
set_option linter.unusedVariables false
set_option linter.unusedSimpArgs false
/-- The words after k rounds: each is halved by each of its bytes. -/
def toldK (ws : List Nat) : Nat → List Nat
  | 0 => ws
  | k + 1 => (toldK ws k).set (k / 64) (word (toldK ws k) (k / 64) / 2)
theorem toldK_spec {ws : List Nat} (h : Wf ws) : ∀ k, k ≤ 256 → Wf (toldK ws k) ∧ ∀ j, j < 4 → word (toldK ws k) j = word ws j / 2 ^ (min (k - 64 * j) 64)
  | 0, _ => ⟨h, fun j _ => by rw [toldK]; simp⟩
  | k + 1, hk => by
    obtain ⟨h1, h2⟩ := toldK_spec h k (by omega)
    have hlt := word_lt h1 (k / 64)
    refine ⟨wf_set h1 _ _ (by omega), fun j hj => ?_⟩
    rw [toldK, word_set h1 _ _ _ (by omega)]
    by_cases he : j = k / 64
    · rw [if_pos he, ← he, h2 j hj, Nat.div_div_eq_div_mul, ← Nat.pow_succ]
      congr 2; omega
    · rw [if_neg he, h2 j hj]
      congr 2; omega
theorem told_bit {ws : List Nat} (h : Wf ws) {k : Nat} (hk : k < 256) : (word (toldK ws k) (k / 64) % 2 == 1) = mem ws k := by
  rw [(toldK_spec h k (by omega)).2 (k / 64) (by omega), show min (k - 64 * (k / 64)) 64 = k % 64 from by omega]
  unfold mem
  rw [Nat.testBit_eq_decide_div_mod_eq]
  rfl
def toldB (ws : List Nat) (k : Nat) : Nat → Bool := fun i => decide (i < k) && mem ws i
abbrev S4 (w : World) (b : Nat) (ws : List Nat) : Prop := w.heap[b]? = some (.cells (wc ws) 24 (0, 0))
theorem S4.cell {w : World} {b : Nat} {ws : List Nat} (h : S4 w b ws) (hw : Wf ws) {i : Nat} (hi : i < 4) : w.cell? ⟨b, i, none⟩ = some (.int .u64 (word ws i : Int)) := by
  rw [Lib.cell_of_heap h]; simp [word_get hw hi]
theorem S4.set {w : World} {b : Nat} {ws : List Nat} (h : S4 w b ws) (i v : Nat) : S4 (w.setCell ⟨b, i, none⟩ (.int .u64 (v : Int))) b (ws.set i v) := by
  unfold S4
  rw [heap_set_at h]
  simp [wc, List.map_set]
abbrev FF : Nat → Bool := fun _ => false
theorem alloc_raw {W : World} {b : Nat} {o : Obj} (h : W.heap[b]? = some o) (o' : Obj) : (W.alloc o').heap[b]? = some o := (heap_alloc_old _ _ (Array.getElem?_eq_some_iff.1 h).1).trans h
set_option maxRecDepth 100000 in
set_option maxHeartbeats 400000 in
theorem told_any (ws : List Nat) (w : World) (h : Wf ws) :
    Calls Tryd.prog 30 #[SV ws] w fun e w' => e = .returned (BV (mem ws)) ∧ Below w.heap.size w w' := by
  have hz := zero_at
  go_enter Tryd.func30, Tryd.ntmps30
  refine wp_seq_k fun K0 hK => ?_
  have HK := Lib.hid hK; clear hK
  go_wp2
  refine HK.out _ _ ?_
  clear HK K0
  have HW := Lib.hid (show S4 ((w.alloc (Obj.cells (wc ws) 24)).alloc (Obj.cells (bc fun x => false) 29)) w.heap.size ws from (two_new w _ _).1)
  have HA := Lib.hid (show BB ((w.alloc (Obj.cells (wc ws) 24)).alloc (Obj.cells (bc fun x => false) 29)) (w.heap.size + 1) FF from (two_new w _ _).2)
  have HB := Lib.hid (((Below.refl w.heap.size w).alloc (Nat.le_refl _) (Obj.cells (wc ws) 24)).alloc (alloc_le _ _) (Obj.cells (bc fun x => false) 29))
  generalize (w.alloc (Obj.cells (wc ws) 24)).alloc (Obj.cells (bc fun x => false) 29) = W0 at *
  refine wp_seq_k fun K1 hK => ?_
  have HK := Lib.hid hK; clear hK
  have hsc := run_storeCells_new (P := Tryd.prog) W0 29 (bc FF) (bc FF) (by rw [bc_size]; kernel_rfl) rfl (bc_one _)
  have hn := bc_size FF
  go_wp2
  refine HK.out _ _ ?_
  clear HK K1 hsc hn
  have HO := Lib.hid (show BB (W0.alloc (Obj.cells (bc FF) 29)) W0.heap.size (toldB ws 0) from by
    have : bc FF = bc (toldB ws 0) := bc_congr fun i _ => by simp [FF, toldB]
    rw [this]; exact bb_new _ _)
  have HA2 := Lib.hid (alloc_raw HA.out (Obj.cells (bc FF) 29))
  have HW2 := Lib.hid (alloc_raw HW.out (Obj.cells (bc FF) 29))
  have HB2 := Lib.hid (HB.out.alloc HB.out.size (Obj.cells (bc FF) 29))
  have hlt : w.heap.size + 1 < W0.heap.size := (Array.getElem?_eq_some_iff.1 HA.out).1
  clear HA HW HB
  generalize W0.alloc (Obj.cells (bc FF) 29) = W1 at *
  generalize W0.heap.size = bo at *
  refine wp_seq_k fun K2 hK => ?_
  have HK := Lib.hid hK; clear hK
  go_wp2
  go_loopw [4] (fun i wr => ∃ k : Nat, k ≤ 256 ∧ i = .int .i64 k ∧ S4 wr w.heap.size (toldK ws k) ∧ BB wr (w.heap.size + 1) FF ∧ BB wr bo (toldB ws k) ∧ Below w.heap.size w wr) (fun i _ => 256 - (intOf i).toNat)
  case atStart => exact ⟨0, Nat.zero_le _, rfl, HW2.out, HA2.out, HO.out, HB2.out⟩
  case round =>
    obtain ⟨k, hk, rfl, hS, hA, hO, hB⟩ := hrel
    by_cases hlt : k < 256
    · have hw := (toldK_spec h k (by omega)).1
      have HBIT := Lib.hid (told_bit h hlt)
      have c1 := hS.cell hw (i := k / 64) (by omega)
      have f1 := Lib.frozen_of_heap hS (k / 64)
      have c2 := hO.cell hlt
      have f2 := Lib.frozen_of_heap hO k
      have HS := Lib.hid hS
      have HA3 := Lib.hid hA
      have HO3 := Lib.hid hO
      have HB3 := Lib.hid hB
      clear hS hA hO hB hz
      go_wp2
      go_roundw
      case rel =>
        have ew : IntKind.u64.wrap ((word (toldK ws k) (k / 64) : Int) / 2) = ((word (toldK ws k) (k / 64) / 2 : Nat) : Int) := by
          have := word_lt hw (k / 64)
          rw [IntKind.wrap_u64]; omega
        have eb : ((word (toldK ws k) (k / 64) : Int) % 2 == 1) = mem ws k := by
          rw [← HBIT.out, Bool.eq_iff_iff, beq_iff_eq, beq_iff_eq]; omega
        rw [ew, eb]
        refine ⟨k + 1, by omega, by go_num, ?_, ?_, ?_, ?_⟩
        · exact S4.set (heap_set_other HS.out (by omega) _ _) _ _
        · exact heap_set_other (heap_set_other HA3.out (by omega) _ _) (by omega) _ _
        · exact heap_set_other (BB.put HO3.out (fun i hi => by
            unfold toldB
            by_cases he : i = k
            · subst he; simp
            · rw [if_neg he]
              congr 1
              rw [Bool.eq_iff_iff, decide_eq_true_eq, decide_eq_true_eq]; omega)) (by omega) _ _
        · exact (HB3.out.setCell (p := ⟨bo, k, none⟩) (by show w.heap.size ≤ bo; omega) _).setCell (p := ⟨w.heap.size, k / 64, none⟩) (Nat.le_refl _) _
      case measure => simp [intOf]; omega
    · obtain rfl : k = 256 := by omega
      have hE : toldB ws 256 = fun i => decide (i < 256) && mem ws i := rfl
      have hO' : BB wr bo (mem ws) := by
        have : bc (toldB ws 256) = bc (mem ws) := bc_congr fun i hi => by simp [toldB, hi]
        rw [BB, ← this]; exact hO
      have HO4 := Lib.hid hO'
      have HA4 := Lib.hid hA
      have HR := Lib.hid (BB.row hA (mem ws))
      have HB3 := Lib.hid (below_setRow hB (Nat.le_succ _) (bc (mem ws)))
      clear hS hA hO hB hz hE hO'
      go_wp2
      refine HK.out _ _ ?_
      clear HK
      refine wp_seq_k fun K3 hK => ?_
      refine tail_row rfl rfl rfl rfl rfl rfl rfl rfl rfl HO4.out HA4.out ?_
      refine hK _ _ ?_
      go_wp2
      refine bodyPost_ret (v := BV (mem ws)) ?_ ?_ ?_
      · exact answer rfl rfl HR.out
      · rfl
      · exact ⟨rfl, HB3.out⟩
end Go.Proofs.YtmlgbjdohijlnaaDoor.St
