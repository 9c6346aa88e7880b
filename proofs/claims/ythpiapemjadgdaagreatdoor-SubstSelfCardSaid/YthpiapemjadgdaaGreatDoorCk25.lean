/- The texts M6s FnP FnW FnV FnI. -/
import Derived.Deep.LoopGhost
import Derived.RangeFuncBox
import Derived.Maps.AppendAt
import Derived.Maps.OwnIn
import Derived.LoopIn
import Derived.LoopNIn
import Derived.TacticsInMore
import Derived.RangeFuncBound
import Derived.RangeFuncCalls
import Derived.RangeFuncLeaves
import Derived.RangeFuncNested
import Derived.OwnWalkIn
import Derived.Test.YthpiapemjadgdaaGreatDoorCk03
import Derived.Test.YthpiapemjadgdaaGreatDoorCk06
import Derived.Test.YthpiapemjadgdaaGreatDoorCk07
import Derived.Test.YthpiapemjadgdaaGreatDoorCk24
set_option linter.unusedVariables false
set_option linter.unusedSimpArgs false
set_option maxHeartbeats 6400000
set_option maxRecDepth 100000
namespace Go.Proofs.YthpiapemjadgdaaGreatDoor.Mt
open Go.RowKit Go.Shelf
open Rx
open Rx.Tr
open St (Wf word mem)
theorem nv_cells {w : World} {g : Nat} {nd : Nd} {t : TypeId} (h : w.heap[g]? = some (.cells (NC nd) t (0, 0))) : w.cell? ⟨g, 7, none⟩ = some (E nd.mn) ∧ w.cell? ⟨g, 8, none⟩ = some (E nd.mx) := ⟨(Lib.cell_of_heap h 7).trans rfl, (Lib.cell_of_heap h 8).trans rfl⟩
theorem steps_any (nd : Nd) (A : Nat → Nat → Bool) (av : Value) (M : Nat) (j : Nat) (hj : j ≤ 100) (w : World) (hA : R2 w av M M A) (hM : j < M) :
  Calls Tryz.prog 94 #[NV nd, av, E (j : Nat)] w fun e w' => ∃ r, e = .returned (SL r (j + 3)) ∧ R2n w' w.heap.size (SL r (j + 3)) (j + 3) (j + 1) (stF A nd.mn nd.mx j) ∧ Below w.heap.size w w' := by
 obtain ⟨ra, capa, rfl, hcapa, hra, hrows⟩ := hA;have HRA := Lib.hid (And.intro hra hcapa);have HRW := Lib.hid hrows;have HJ := Lib.hid (And.intro hj hM);(have hmk := fun (n : Nat) (hn : n ≤ 1000000) (W : World) => make_row n hn W);have hmk1 : ∀ W : World, (Instr.makeSlice 162 (.int .i64 ((j : Int) + 1)) (.int .i64 ((j : Int) + 1))).run Tryz.prog W = .ok (SL W.heap.size (j + 1)) (W.alloc (.cells (bcn (j + 1) fun _ => false) 4)) := fun W => by
  have := make_row (j + 1) (by omega) W
  rwa [show ((j + 1 : Nat) : Int) = (j : Int) + 1 from by omega] at this
 have hmk3 : ∀ W : World, (Instr.makeSlice 161 (.int .i64 ((j : Int) + 2 + 1)) (.int .i64 ((j : Int) + 2 + 1))).run Tryz.prog W = .ok (SL W.heap.size (j + 3)) (W.alloc (.cells (nilRow (j + 3)) 162)) := fun W => by
  have := make_rows (j + 3) (by omega) W
  rwa [show ((j + 3 : Nat) : Int) = (j : Int) + 2 + 1 from by omega] at this
 (have hw2 : IntKind.i64.wrap ((j : Int) + 2) = (j : Int) + 2 := by rw [IntKind.wrap_i64]; omega);(have hw3 : IntKind.i64.wrap ((j : Int) + 2 + 1) = (j : Int) + 2 + 1 := by rw [IntKind.wrap_i64]; omega);(have hw1 : IntKind.i64.wrap ((j : Int) + 1) = (j : Int) + 1 := by rw [IntKind.wrap_i64]; omega);clear hmk hrows hra hcapa;go_enter Tryz.func94, Tryz.ntmps94;go_wp2;obtain ⟨W1, hW1⟩ : ∃ W1, w.alloc (.cells (NC nd) 81) = W1 := ⟨_, rfl⟩;(have hs1 : W1.heap.size = w.heap.size + 1 := by rw [← hW1]; simp);have HB1 := Lib.hid (show Below w.heap.size w W1 from by rw [← hW1]; exact (Below.refl _ _).alloc (Nat.le_refl _) _);have HBX := Lib.hid (show W1.heap[w.heap.size]? = some (.cells (NC nd) 81 (0, 0)) from by rw [← hW1]; exact heap_alloc_new _ _);obtain ⟨F, hF⟩ : ∃ F, stF A nd.mn nd.mx j = F := ⟨_, rfl⟩;have HFj := Lib.hid (show ∀ c, c ≤ j + 2 → F c j = (decide (nd.mn ≤ (c : Int)) || A j j) from fun c hc => by rw [← hF]; exact stF_at A nd.mn nd.mx j c hc);have HFe := Lib.hid (show ∀ c p, c ≤ j + 2 → p ≠ j → F c p = accK A (decide (c < j + 2) && (decide (nd.mx = -1) || decide ((c : Int) < nd.mx))) (F (c + 1)) p (j + 1) from fun c p hc hp => by rw [← hF]; exact stF_else A nd.mn nd.mx j c p hc hp);have HFF := Lib.hid hF;have HR0 := Lib.hid (show R2m W1 (W1.alloc (.cells (nilRow (j + 3)) 162)) W1.heap.size (j + 3) (j + 1) (j + 3) F from r2m_start _ _ _);have HRW2 := Lib.hid (fun (wr : World) (hb : Below W1.heap.size W1 wr) (p : Nat) (hp : p < M) => show ∃ qa, wr.cell? ⟨ra, p, none⟩ = some (SL qa M) ∧ RB wr qa M (A p) ∧ qa < W1.heap.size from by
  obtain ⟨qa, h1, h2⟩ := HRW.out p hp;have hb2 := HB1.out.trans (hb.mono HB1.out.size);exact ⟨qa, (hb2.cell HRA.out.1).trans h1, h2.keep (hb2.block qa h2.lt), Nat.lt_of_lt_of_le h2.lt HB1.out.size⟩)
 have HBX2 := Lib.hid (fun (wr : World) (hb : Below W1.heap.size W1 wr) => nv_cells ((hb.block w.heap.size (by rw [hs1]; omega)).trans HBX.out));have HBL := Lib.hid (show w.heap.size < W1.heap.size ∧ ra < W1.heap.size from by have := HRA.out.1; omega);rw [hW1];rw [← hs1];obtain ⟨b3, hb3⟩ : ∃ b3, w.heap.size = b3 := ⟨_, rfl⟩;rw [hb3] at HBX2 HBL ⊢;clear hW1 hs1 hF hb3 HRW hj hM;go_loopw [9] (fun cv wr => ∃ C : Nat, C ≤ j + 3 ∧ cv = .int .i64 ((C : Int) - 1) ∧ Hid (R2m W1 wr W1.heap.size (j + 3) (j + 1) C F)) (fun cv _ => (intOf cv + 1).toNat);(case atStart => exact ⟨j + 3, Nat.le_refl _, by congr 1; omega, HR0⟩);case round =>
  clear HR0;obtain ⟨C, hC, rfl, HR⟩ := hrel;by_cases hC0 : 0 < C
  ·
   obtain ⟨c, rfl⟩ : ∃ c, C = c + 1 := ⟨C - 1, by omega⟩;rw [show (((c + 1 : Nat) : Int) - 1) = (c : Int) from by omega];(have hc0 : (0 : Int) ≤ (c : Int) := by omega);(have hc1 : (c : Int) < (j : Int) + 3 := by omega);(have hc1n : c < j + 3 := by omega);(have hwc : IntKind.i64.wrap ((c : Int) - 1) = (c : Int) - 1 := by rw [IntKind.wrap_i64]; have := HJ.out; omega);(have hwc1 : IntKind.i64.wrap ((c : Int) + 1) = (c : Int) + 1 := by rw [IntKind.wrap_i64]; have := HJ.out; omega);obtain ⟨cs, g1, g2, g3⟩ := HR.out.row;have ha : (wr.alloc (.cells (bcn (j + 1) fun _ => false) 4)).heap[W1.heap.size]? = some (.cells cs 162 (0, 0)) := (Below.heap_alloc _ _ _ (lt_heap' g1)).trans g1;obtain ⟨z, hz⟩ : ∃ z, cs[c]? = some z := ⟨cs[c]'(by omega), Array.getElem?_eq_getElem (by omega)⟩;(have hcc : (wr.alloc (.cells (bcn (j + 1) fun _ => false) 4)).cell? ⟨W1.heap.size, c, none⟩ = some z := by rw [Lib.cell_of_heap ha]; exact hz);(have hff : (wr.alloc (.cells (bcn (j + 1) fun _ => false) 4)).frozen? ⟨W1.heap.size, c, none⟩ = false := by simp [World.frozen?, ha]);have hlay := HR.out.lay hc1n (fun _ => false);have HQ0 := Lib.hid (show W1.heap.size ≤ wr.heap.size from HR.out.bel.size);have HQ1 := Lib.hid (show W1.heap.size ≠ wr.heap.size from by have := lt_heap' g1; omega);have HC := Lib.hid hc1n;clear g1 g2 g3 ha hz hC hC0;go_wp2;generalize hW2 : World.setCell _ _ _ = W2 at hlay ⊢;clear hcc hff hW2;generalize hq : wr.heap.size = q at hlay HQ0 HQ1 ⊢;obtain ⟨l1, l2, l3, l4⟩ := hlay;have HL1 := Lib.hid l1;have HL3 := Lib.hid l3;have HL4 := Lib.hid l4;have HBW := Lib.hid l1.bel;have HG0 := Lib.hid (l2.congr (g := fun i => decide (j + 1 ≤ i) && F c i) (fun i hi => by rw [decide_eq_false (by omega)]; rfl));clear l1 l2 l3 l4 hq HR;go_loopw [10] (fun pv wr => ∃ P : Nat, P ≤ j + 1 ∧ pv = .int .i64 ((P : Int) - 1) ∧ Hid (Rk W2 q wr) ∧ Hid (RB wr q (j + 1) (fun i => decide (P ≤ i) && F c i))) (fun pv _ => (intOf pv + 1).toNat);(case atStart => exact ⟨j + 1, Nat.le_refl _, by congr 1; omega, Lib.hid (Rk.refl _ _), HG0⟩);case round =>
    clear HG0;obtain ⟨P, hP, rfl, HK, HG⟩ := hrel;by_cases hP0 : 0 < P
    ·
     obtain ⟨p, rfl⟩ : ∃ p, P = p + 1 := ⟨P - 1, by omega⟩;rw [show (((p + 1 : Nat) : Int) - 1) = (p : Int) from by omega];(have hp0 : (0 : Int) ≤ (p : Int) := by omega);(have hpj : p ≤ j := by omega);(have hp1 : (p : Int) < (j : Int) + 1 := by omega);(have hwp : IntKind.i64.wrap ((p : Int) - 1) = (p : Int) - 1 := by rw [IntKind.wrap_i64]; have := HJ.out; omega);(have hwp1 : IntKind.i64.wrap ((p : Int) + 1) = (p : Int) + 1 := by rw [IntKind.wrap_i64]; have := HJ.out; omega);have HPJ := Lib.hid hpj;have HBR := Lib.hid (HBW.out.trans (HK.out.below HQ0.out));by_cases hpe : p = j
     ·
      (have hq1 : ((p : Int) == (j : Int)) = true := by rw [hpe]; simp);have h1 := HK.out.cell HQ1.out HL3.out;have h2 := HG.out.cell (i := p) (by omega);have h3 := HG.out.fz p;obtain ⟨qa, h4, h5, _⟩ := HRW2.out _ HBR.out j HJ.out.2;have h6 := h5.cell (i := j) HJ.out.2;have h7 := (HBX2.out _ HBR.out).1;(have hjM : (j : Int) < (M : Int) := by have := HJ.out; omega);(have hj0 : (0 : Int) ≤ (j : Int) := by omega);have hFv := HFj.out c (by omega);have HPE := Lib.hid hpe;have HNX := Lib.hid (fun (v : Bool) (hv : v = F c j) => HG.out.put (k := p) (v := v) (g := fun i => decide (p ≤ i) && F c i) (fun i hi => by
       by_cases e : i = p
       · rw [if_pos e, e, decide_eq_true (Nat.le_refl p), Bool.true_and, hv, hpe]
       · rw [if_neg e]; congr 1; rw [decide_eq_decide]; omega))
      by_cases hmn : nd.mn ≤ (c : Int)
      · have hmd := decide_eq_true hmn;rw [decide_eq_true hmn, Bool.true_or] at hFv;have HQ := Lib.hid (HNX.out true hFv.symm);clear hpj hP hP0 hpe h5 hFv;go_wp2;go_region;go_wp2;go_roundw;(case rel => exact ⟨p, by have := HPJ.out; omega, rfl, Lib.hid ((HK.out.set _ _).drew), HQ⟩);case measure => simp [intOf]
      ·
       have hmd := decide_eq_false hmn;cases hAj : A j j with
       | true =>
        rw [hAj] at h6 hFv;rw [Bool.or_true] at hFv;have HQ := Lib.hid (HNX.out true hFv.symm);clear hpj hP hP0 hpe h5 hFv hAj;go_wp2;go_region;go_wp2;go_roundw;(case rel => exact ⟨p, by have := HPJ.out; omega, rfl, Lib.hid ((HK.out.set _ _).drew), HQ⟩);case measure => simp [intOf]
       | false =>
        rw [hAj] at h6 hFv;rw [Bool.or_false, decide_eq_false hmn] at hFv;have HQ := Lib.hid (HNX.out false hFv.symm);clear hpj hP hP0 hpe h5 hFv hAj;go_wp2;go_region;go_wp2;go_roundw;(case rel => exact ⟨p, by have := HPJ.out; omega, rfl, Lib.hid ((HK.out.set _ _).drew), HQ⟩);case measure => simp [intOf]
     ·
      (have hq1 : ((p : Int) == (j : Int)) = false := by rw [beq_eq_false_iff_ne]; omega);have HPL := Lib.hid (show p < j from by omega);have hFe := HFe.out c p (by omega) hpe;(have hjp : (p : Int) + 1 ≤ (j : Int) := by omega);clear hpe hpj hP hP0;by_cases hc2 : c < j + 2
      ·
       (have hc2i : (c : Int) < (j : Int) + 2 := by omega);have HCL := Lib.hid hc2;rw [decide_eq_true hc2, Bool.true_and] at hFe;by_cases hmx : nd.mx = -1
       ·
        (have hm1 : (nd.mx == -1) = true := by rw [hmx]; rfl);rw [decide_eq_true hmx, Bool.true_or] at hFe;have HFV := Lib.hid hFe;clear hFe hmx hc2
        skip
        go_wp2;go_loopw [11] (fun kv wr3 => ∃ K : Nat, p + 1 ≤ K ∧ K ≤ j + 1 ∧ kv = .int .i64 (K : Nat) ∧ Hid (Rk W2 q wr3) ∧ Hid (RB wr3 q (j + 1) (fun i => if i = p then accK A true (F (c + 1)) p K else (decide (p + 1 ≤ i) && F c i)))) (fun kv _ => j + 1 - (intOf kv).toNat);case atStart => exact ⟨p + 1, Nat.le_refl _, by omega, by congr 1, HK, Lib.hid (HG.out.congr (fun i hi => by
         by_cases e : i = p
         · rw [if_pos e, acc_start, e, decide_eq_false (by omega), Bool.false_and]
         · rw [if_neg e]))⟩
        case round =>
         clear HK HG HBR;obtain ⟨K, hK1, hK2, rfl, HK, HG⟩ := hrel;have HBR := Lib.hid (HBW.out.trans (HK.out.below HQ0.out));by_cases hKj : K ≤ j
         ·
          (have hkj : (K : Int) ≤ (j : Int) := by omega);(have hK0 : (0 : Int) ≤ (K : Int) := by omega);(have hKn : (K : Int) < (j : Int) + 1 := by omega);(have hKM : (K : Int) < (M : Int) := by have := HJ.out; omega);(have hpM : (p : Int) < (M : Int) := by have := HJ.out; have := HPL.out; omega);(have hwK : IntKind.i64.wrap ((K : Int) + 1) = (K : Int) + 1 := by rw [IntKind.wrap_i64]; have := HJ.out; omega);(have hc13 : (c : Int) + 1 < (j : Int) + 3 := by have := HCL.out; omega);(have hc10 : (0 : Int) ≤ (c : Int) + 1 := by omega);have h1 := HK.out.cell HQ1.out HL3.out;have h2 := HG.out.cell (i := p) (by have := HPL.out; omega);rw [if_pos rfl] at h2;have h3 := HG.out.fz p;obtain ⟨qa, h4, h5, _⟩ := HRW2.out _ HBR.out p (by have := HJ.out; have := HPL.out; omega);have h6 := h5.cell (i := K) (by have := HJ.out; omega);have h7 := (HBX2.out _ HBR.out).2;obtain ⟨cs2, g1, g2, g3⟩ := HL1.out.row;obtain ⟨q1, k1, k2, k3, k4⟩ := g3 (c + 1) (Nat.le_refl _) (by have := HCL.out; omega);(have k5 : W2.cell? ⟨W1.heap.size, c + 1, none⟩ = some (SL q1 (j + 1)) := by rw [Lib.cell_of_heap g1]; exact k1);have k6 := HL4.out (c + 1) (Nat.lt_succ_self c) (by have := HCL.out; omega) q1 k5;have h8 := HK.out.cell HQ1.out k5;have h9 := (k4.keep (HK.out.far q1 k6)).cell (i := K) (by omega);have HKB := Lib.hid (show p + 1 ≤ K ∧ K ≤ j from ⟨hK1, hKj⟩);have hnx := acc_next A (F (c + 1)) (show p < K by omega);have HNX := Lib.hid (fun (v : Bool) (hv : v = accK A true (F (c + 1)) p (K + 1)) => HG.out.put (k := p) (v := v) (g := fun i => if i = p then accK A true (F (c + 1)) p (K + 1) else (decide (p + 1 ≤ i) && F c i)) (fun i hi => by
           by_cases e : i = p
           · rw [if_pos e, if_pos e, hv]
           · rw [if_neg e, if_neg e, if_neg e]))
          clear h5 g1 g2 g3 k1 k2 k3 k4 k5 k6 hK1 hK2 hKj;cases hacc : accK A true (F (c + 1)) p K with
          | true =>
           rw [hacc] at h2 hnx;rw [Bool.true_or] at hnx;have HQ := Lib.hid (HNX.out true hnx.symm);clear hnx hacc;go_wp2;go_region;go_wp2;go_roundw;(case rel => exact ⟨K + 1, by have := HKB.out; omega, by have := HKB.out; omega, by go_num, Lib.hid ((HK.out.set _ _).drew), HQ⟩);case measure => have := HKB.out; simp [intOf]; omega
          | false =>
           rw [hacc] at h2 hnx;rw [Bool.false_or] at hnx;cases hA : A p K with
           | false =>
            rw [hA] at h6 hnx;rw [Bool.false_and] at hnx;have HQ := Lib.hid (HNX.out false hnx.symm);clear hnx hacc hA;go_wp2;go_region;go_wp2;go_roundw;(case rel => exact ⟨K + 1, by have := HKB.out; omega, by have := HKB.out; omega, by go_num, Lib.hid ((HK.out.set _ _).drew), HQ⟩);case measure => have := HKB.out; simp [intOf]; omega
           | true =>
            rw [hA] at h6 hnx;rw [Bool.true_and] at hnx;cases hf : F (c + 1) K with
            | false =>
             rw [hf] at h9 hnx;have HQ := Lib.hid (HNX.out false hnx.symm);clear hnx hacc hA hf;go_wp2;go_region;go_wp2;go_roundw;(case rel => exact ⟨K + 1, by have := HKB.out; omega, by have := HKB.out; omega, by go_num, Lib.hid ((HK.out.set _ _).drew), HQ⟩);case measure => have := HKB.out; simp [intOf]; omega
            | true =>
             rw [hf] at h9 hnx;have HQ := Lib.hid (HNX.out true hnx.symm);clear hnx hacc hA hf;go_wp2;go_region;go_wp2;go_roundw;(case rel => exact ⟨K + 1, by have := HKB.out; omega, by have := HKB.out; omega, by go_num, Lib.hid ((HK.out.set _ _).drew), HQ⟩);case measure => have := HKB.out; simp [intOf]; omega
         ·
          (obtain rfl : K = j + 1 := by omega);(have hkj : ¬ ((j + 1 : Nat) : Int) ≤ (j : Int) := by omega);have HN := Lib.hid (HG.out.congr (g := fun i => decide (p ≤ i) && F c i) (fun i hi => by
           by_cases e : i = p
           · rw [if_pos e, e, decide_eq_true (Nat.le_refl p), Bool.true_and, HFV.out]
           · rw [if_neg e]; congr 1; rw [decide_eq_decide]; omega))
          clear hK1 hK2 hKj;go_wp2;go_roundw;(case rel => exact ⟨p, by have := HPL.out; omega, rfl, HK, HN⟩);case measure => simp [intOf]
       ·
        (have hm1 : (nd.mx == -1) = false := by rw [beq_eq_false_iff_ne]; exact hmx);rw [decide_eq_false hmx, Bool.false_or] at hFe;by_cases hcm : (c : Int) < nd.mx
        ·
         have hcd := decide_eq_true hcm;rw [hcd] at hFe;have HFV := Lib.hid hFe;clear hFe hmx hc2
         skip
         go_wp2;go_loopw [11] (fun kv wr3 => ∃ K : Nat, p + 1 ≤ K ∧ K ≤ j + 1 ∧ kv = .int .i64 (K : Nat) ∧ Hid (Rk W2 q wr3) ∧ Hid (RB wr3 q (j + 1) (fun i => if i = p then accK A true (F (c + 1)) p K else (decide (p + 1 ≤ i) && F c i)))) (fun kv _ => j + 1 - (intOf kv).toNat);case atStart => exact ⟨p + 1, Nat.le_refl _, by omega, by congr 1, HK, Lib.hid (HG.out.congr (fun i hi => by
          by_cases e : i = p
          · rw [if_pos e, acc_start, e, decide_eq_false (by omega), Bool.false_and]
          · rw [if_neg e]))⟩
         case round =>
          clear HK HG HBR;obtain ⟨K, hK1, hK2, rfl, HK, HG⟩ := hrel;have HBR := Lib.hid (HBW.out.trans (HK.out.below HQ0.out));by_cases hKj : K ≤ j
          ·
           (have hkj : (K : Int) ≤ (j : Int) := by omega);(have hK0 : (0 : Int) ≤ (K : Int) := by omega);(have hKn : (K : Int) < (j : Int) + 1 := by omega);(have hKM : (K : Int) < (M : Int) := by have := HJ.out; omega);(have hpM : (p : Int) < (M : Int) := by have := HJ.out; have := HPL.out; omega);(have hwK : IntKind.i64.wrap ((K : Int) + 1) = (K : Int) + 1 := by rw [IntKind.wrap_i64]; have := HJ.out; omega);(have hc13 : (c : Int) + 1 < (j : Int) + 3 := by have := HCL.out; omega);(have hc10 : (0 : Int) ≤ (c : Int) + 1 := by omega);have h1 := HK.out.cell HQ1.out HL3.out;have h2 := HG.out.cell (i := p) (by have := HPL.out; omega);rw [if_pos rfl] at h2;have h3 := HG.out.fz p;obtain ⟨qa, h4, h5, _⟩ := HRW2.out _ HBR.out p (by have := HJ.out; have := HPL.out; omega);have h6 := h5.cell (i := K) (by have := HJ.out; omega);have h7 := (HBX2.out _ HBR.out).2;obtain ⟨cs2, g1, g2, g3⟩ := HL1.out.row;obtain ⟨q1, k1, k2, k3, k4⟩ := g3 (c + 1) (Nat.le_refl _) (by have := HCL.out; omega);(have k5 : W2.cell? ⟨W1.heap.size, c + 1, none⟩ = some (SL q1 (j + 1)) := by rw [Lib.cell_of_heap g1]; exact k1);have k6 := HL4.out (c + 1) (Nat.lt_succ_self c) (by have := HCL.out; omega) q1 k5;have h8 := HK.out.cell HQ1.out k5;have h9 := (k4.keep (HK.out.far q1 k6)).cell (i := K) (by omega);have HKB := Lib.hid (show p + 1 ≤ K ∧ K ≤ j from ⟨hK1, hKj⟩);have hnx := acc_next A (F (c + 1)) (show p < K by omega);have HNX := Lib.hid (fun (v : Bool) (hv : v = accK A true (F (c + 1)) p (K + 1)) => HG.out.put (k := p) (v := v) (g := fun i => if i = p then accK A true (F (c + 1)) p (K + 1) else (decide (p + 1 ≤ i) && F c i)) (fun i hi => by
            by_cases e : i = p
            · rw [if_pos e, if_pos e, hv]
            · rw [if_neg e, if_neg e, if_neg e]))
           clear h5 g1 g2 g3 k1 k2 k3 k4 k5 k6 hK1 hK2 hKj;cases hacc : accK A true (F (c + 1)) p K with
           | true =>
            rw [hacc] at h2 hnx;rw [Bool.true_or] at hnx;have HQ := Lib.hid (HNX.out true hnx.symm);clear hnx hacc;go_wp2;go_region;go_wp2;go_roundw;(case rel => exact ⟨K + 1, by have := HKB.out; omega, by have := HKB.out; omega, by go_num, Lib.hid ((HK.out.set _ _).drew), HQ⟩);case measure => have := HKB.out; simp [intOf]; omega
           | false =>
            rw [hacc] at h2 hnx;rw [Bool.false_or] at hnx;cases hA : A p K with
            | false =>
             rw [hA] at h6 hnx;rw [Bool.false_and] at hnx;have HQ := Lib.hid (HNX.out false hnx.symm);clear hnx hacc hA;go_wp2;go_region;go_wp2;go_roundw;(case rel => exact ⟨K + 1, by have := HKB.out; omega, by have := HKB.out; omega, by go_num, Lib.hid ((HK.out.set _ _).drew), HQ⟩);case measure => have := HKB.out; simp [intOf]; omega
            | true =>
             rw [hA] at h6 hnx;rw [Bool.true_and] at hnx;cases hf : F (c + 1) K with
             | false =>
              rw [hf] at h9 hnx;have HQ := Lib.hid (HNX.out false hnx.symm);clear hnx hacc hA hf;go_wp2;go_region;go_wp2;go_roundw;(case rel => exact ⟨K + 1, by have := HKB.out; omega, by have := HKB.out; omega, by go_num, Lib.hid ((HK.out.set _ _).drew), HQ⟩);case measure => have := HKB.out; simp [intOf]; omega
             | true =>
              rw [hf] at h9 hnx;have HQ := Lib.hid (HNX.out true hnx.symm);clear hnx hacc hA hf;go_wp2;go_region;go_wp2;go_roundw;(case rel => exact ⟨K + 1, by have := HKB.out; omega, by have := HKB.out; omega, by go_num, Lib.hid ((HK.out.set _ _).drew), HQ⟩);case measure => have := HKB.out; simp [intOf]; omega
          ·
           (obtain rfl : K = j + 1 := by omega);(have hkj : ¬ ((j + 1 : Nat) : Int) ≤ (j : Int) := by omega);have HN := Lib.hid (HG.out.congr (g := fun i => decide (p ≤ i) && F c i) (fun i hi => by
            by_cases e : i = p
            · rw [if_pos e, e, decide_eq_true (Nat.le_refl p), Bool.true_and, HFV.out]
            · rw [if_neg e]; congr 1; rw [decide_eq_decide]; omega))
           clear hK1 hK2 hKj;go_wp2;go_roundw;(case rel => exact ⟨p, by have := HPL.out; omega, rfl, HK, HN⟩);case measure => simp [intOf]
        ·
         have hcd := decide_eq_false hcm;rw [hcd] at hFe;have HFV := Lib.hid hFe;clear hFe hmx hc2
         skip
         go_wp2;go_loopw [11] (fun kv wr3 => ∃ K : Nat, p + 1 ≤ K ∧ K ≤ p + 1 ∧ kv = .int .i64 (K : Nat) ∧ Hid (Rk W2 q wr3) ∧ Hid (RB wr3 q (j + 1) (fun i => if i = p then accK A false (F (c + 1)) p K else (decide (p + 1 ≤ i) && F c i)))) (fun kv _ => j + 1 - (intOf kv).toNat);case atStart => exact ⟨p + 1, Nat.le_refl _, by omega, by congr 1, HK, Lib.hid (HG.out.congr (fun i hi => by
          by_cases e : i = p
          · rw [if_pos e, acc_start, e, decide_eq_false (by omega), Bool.false_and]
          · rw [if_neg e]))⟩
         case round =>
          clear HK HG;obtain ⟨K, hK1, hK2, rfl, HK, HG⟩ := hrel;(obtain rfl : K = p + 1 := by omega);have h7 := (HBX2.out _ (HBW.out.trans (HK.out.below HQ0.out))).2;have HN := Lib.hid (HG.out.congr (g := fun i => decide (p ≤ i) && F c i) (fun i hi => by
           by_cases e : i = p
           · rw [if_pos e, e, decide_eq_true (Nat.le_refl p), Bool.true_and, HFV.out, acc_off, acc_off]
           · rw [if_neg e]; congr 1; rw [decide_eq_decide]; omega))
          (have hkj : ((p + 1 : Nat) : Int) ≤ (j : Int) := by have := HPL.out; omega);clear hK1 hK2;go_wp2;go_roundw;(case rel => exact ⟨p, by have := HPL.out; omega, rfl, HK, HN⟩);case measure => simp [intOf]
      ·
       (have hc2i : ¬ (c : Int) < (j : Int) + 2 := by omega);rw [decide_eq_false hc2, Bool.false_and] at hFe;have HFV := Lib.hid hFe;clear hFe hc2
       skip
       go_wp2;go_loopw [11] (fun kv wr3 => ∃ K : Nat, p + 1 ≤ K ∧ K ≤ p + 1 ∧ kv = .int .i64 (K : Nat) ∧ Hid (Rk W2 q wr3) ∧ Hid (RB wr3 q (j + 1) (fun i => if i = p then accK A false (F (c + 1)) p K else (decide (p + 1 ≤ i) && F c i)))) (fun kv _ => j + 1 - (intOf kv).toNat);case atStart => exact ⟨p + 1, Nat.le_refl _, by omega, by congr 1, HK, Lib.hid (HG.out.congr (fun i hi => by
        by_cases e : i = p
        · rw [if_pos e, acc_start, e, decide_eq_false (by omega), Bool.false_and]
        · rw [if_neg e]))⟩
       case round =>
        clear HK HG;obtain ⟨K, hK1, hK2, rfl, HK, HG⟩ := hrel;(obtain rfl : K = p + 1 := by omega);have HN := Lib.hid (HG.out.congr (g := fun i => decide (p ≤ i) && F c i) (fun i hi => by
         by_cases e : i = p
         · rw [if_pos e, e, decide_eq_true (Nat.le_refl p), Bool.true_and, HFV.out, acc_off, acc_off]
         · rw [if_neg e]; congr 1; rw [decide_eq_decide]; omega))
        (have hkj : ((p + 1 : Nat) : Int) ≤ (j : Int) := by have := HPL.out; omega);clear hK1 hK2;go_wp2;go_roundw;(case rel => exact ⟨p, by have := HPL.out; omega, rfl, HK, HN⟩);case measure => simp [intOf]
    · (obtain rfl : P = 0 := by omega);(have hn0 : ¬ (0 : Int) ≤ ((0 : Nat) : Int) - 1 := by omega);have HR2 := Lib.hid (HL1.out.put HL3.out (Ne.symm HQ1.out) HQ0.out HL4.out HK.out (HG.out.congr (g := F c) (fun i hi => by simp)));go_wp2;go_roundw;(case rel => exact ⟨c, by have := HC.out; omega, rfl, HR2⟩);case measure => simp [intOf]
  · (obtain rfl : C = 0 := by omega);(have hn0 : ¬ (0 : Int) ≤ ((0 : Nat) : Int) - 1 := by omega);go_wp2;go_ret;exact ⟨_, rfl, by rw [HFF.out]; exact HR.out.done HB1.out.size, HB1.out.trans (HR.out.bel.mono HB1.out.size)⟩
end Go.Proofs.YthpiapemjadgdaaGreatDoor.Mt
namespace Go.Proofs.YthpiapemjadgdaaGreatDoor.Fn
open Mt
def from0 (c : Caps) : Nat := match gr c 0 with
 | some (a, _) => a
 | none => 0
def to0 (c : Caps) : Nat := match gr c 0 with
 | some (_, b) => b
 | none => 0
/-- What may be found at places. -/
structure FOk (N : Nat) (F : Nat → Option Caps) : Prop where
 caps : ∀ i c, F i = some c → CapsOk N c
 at0 : ∀ i c, F i = some c → from0 c = i
 gr0 : ∀ i c, F i = some c → gr c 0 = some (from0 c, to0 c)
 to : ∀ i c, F i = some c → from0 c ≤ to0 c ∧ to0 c ≤ N
def upF (F : Nat → Option Caps) : Nat → Nat → Option Caps
 | _, 0 => none
 | i, n + 1 => match F i with
  | some c => some c
  | none => upF F (i + 1) n
def firstF (F : Nat → Option Caps) (N i : Nat) : Option Caps := upF F i (N + 1 - i)
theorem first_step (F : Nat → Option Caps) {N i : Nat} (h : i ≤ N) : firstF F N i = match F i with
  | some c => some c
  | none => firstF F N (i + 1) := by
 unfold firstF;rw [show N + 1 - i = (N + 1 - (i + 1)) + 1 by omega];rfl
theorem first_end (F : Nat → Option Caps) {N i : Nat} (h : N < i) : firstF F N i = none := by
 unfold firstF;rw [show N + 1 - i = 0 by omega];rfl
theorem up_some {F : Nat → Option Caps} {c : Caps} : ∀ {n i : Nat}, upF F i n = some c → ∃ k, i ≤ k ∧ k < i + n ∧ F k = some c ∧ ∀ r, i ≤ r → r < k → F r = none
 | 0, i, h => by cases h
 | n + 1, i, h => by
  unfold upF at h;cases hF : F i with
  | some d => rw [hF] at h; cases h; exact ⟨i, Nat.le_refl _, by omega, hF, fun r h1 h2 => by omega⟩
  | none =>
   rw [hF] at h;obtain ⟨k, h1, h2, h3, h4⟩ := up_some h;refine ⟨k, by omega, by omega, h3, fun r h5 h6 => ?_⟩;rcases Nat.lt_or_ge r (i + 1) with q | q
   · (obtain rfl : r = i := by omega);exact hF
   · exact h4 r q h6
theorem first_some {F : Nat → Option Caps} {N i : Nat} {c : Caps} (h : firstF F N i = some c) : ∃ k, i ≤ k ∧ k ≤ N ∧ F k = some c ∧ ∀ r, i ≤ r → r < k → F r = none := by
 obtain ⟨k, h1, h2, h3, h4⟩ := up_some h;exact ⟨k, h1, by omega, h3, h4⟩
/-- What is found, from a place on, is in its place. -/
theorem first_at {F : Nat → Option Caps} {N i : Nat} {c : Caps} (hF : FOk N F) (h : firstF F N i = some c) : i ≤ from0 c ∧ F (from0 c) = some c ∧ (∀ r, i ≤ r → r < from0 c → F r = none) ∧ CapsOk N c ∧ gr c 0 = some (from0 c, to0 c) ∧ from0 c ≤ to0 c ∧ to0 c ≤ N := by
 obtain ⟨k, h1, h2, h3, h4⟩ := first_some h;have e := hF.at0 k c h3;rw [e];exact ⟨h1, h3, h4, hF.caps k c h3, by rw [← e]; exact hF.gr0 k c h3, by rw [← e]; exact (hF.to k c h3).1, (hF.to k c h3).2⟩
/-- The finds, one behind the other: la is one more than where the last one ended (0: there is none). -/
def finF (F : Nat → Option Caps) (N : Nat) : Nat → Nat → Nat → List Caps
 | 0, _, _ => []
 | f + 1, la, i => match firstF F N i with
  | none => []
  | some c => if to0 c = from0 c ∧ from0 c + 1 = la then finF F N f la la else c :: finF F N f (to0 c + 1) (to0 c)
def muF (N la i : Nat) : Nat := 2 * (N + 1 - i) + (if la = i + 1 then 0 else 1)
def allF (F : Nat → Option Caps) (N : Nat) : List Caps := finF F N (2 * (N + 1) + 1) 0 0
theorem mu_skip {F : Nat → Option Caps} {N la i f : Nat} {c : Caps} (hF : FOk N F) (h : firstF F N i = some c) (hm : muF N la i ≤ f + 1) (hs : to0 c = from0 c ∧ from0 c + 1 = la) : muF N la la ≤ f := by
 obtain ⟨h1, _, _, _, _, h2, h3⟩ := first_at hF h;unfold muF at hm ⊢;split at hm <;> split <;> omega
theorem mu_next {F : Nat → Option Caps} {N la i f : Nat} {c : Caps} (hF : FOk N F) (h : firstF F N i = some c) (hm : muF N la i ≤ f + 1) (hs : ¬ (to0 c = from0 c ∧ from0 c + 1 = la)) : muF N (to0 c + 1) (to0 c) ≤ f := by
 obtain ⟨h1, _, _, _, _, h2, h3⟩ := first_at hF h;unfold muF at hm ⊢;rw [if_pos rfl];split at hm <;> omega
theorem fin_len (F : Nat → Option Caps) (N : Nat) : ∀ f la i, (finF F N f la i).length ≤ f
 | 0, _, _ => Nat.le_refl _
 | f + 1, la, i => by
  unfold finF;split
  · simp
  ·
   split
   · have := fin_len F N f la la; omega
   · have := fin_len F N f (to0 (by assumption) + 1) (to0 (by assumption)); simp; omega
end Go.Proofs.YthpiapemjadgdaaGreatDoor.Fn
namespace Go.Proofs.YthpiapemjadgdaaGreatDoor.Mt
open Go.RowKit Go.Shelf
open Rx
open Go.Proofs.YthpiapemjadgdaaGreatDoor.Fn
open St (Wf word mem)
/-- What is the longest one at each place. -/
def LongOk (w : World) (v : Value) (T : List UInt8) (F : Nat → Option Caps) : Prop := ∀ (W : World) (i : Nat), Below w.heap.size w W → i ≤ T.length →
 Calls Tryz.prog 23 #[v, S T, E (i : Nat)] W fun e w' => e = .returned (ansC (F i)) ∧ Below W.heap.size W w'
theorem LongOk.below {w w1 : World} {v : Value} {T : List UInt8} {F : Nat → Option Caps} (h : LongOk w v T F) (hb : Below w.heap.size w w1) : LongOk w1 v T F := fun W i hW hi => h W i (hb.trans (hW.mono hb.size)) hi
/-- What answers that nothing is found. -/
def NoneOk : Prop := ∀ W : World, Calls Tryz.prog 40 #[] W fun e w' => e = .returned (CV nones) ∧ Below W.heap.size W w'
theorem first_from (hna : NoneOk) (v : Value) (T : List UInt8) (hT : T.length ≤ 100000) (F : Nat → Option Caps) (w : World) (hlo : LongOk w v T F) (at0 : Int) (s : Nat) (hs : (s = 0 ∧ at0 < 0) ∨ at0 = (s : Nat)) (hs2 : at0 ≤ 9223372036854775807) (R : Option Caps) (hR : R = firstF F T.length s) :
  Calls Tryz.prog 14 #[v, S T, E at0] w fun e w' => e = .returned (ansC R) ∧ Below w.heap.size w w' := by
 have HZ := Lib.hid (heap_alloc_new w (.cells CZ 27));have HB0 := Lib.hid ((Below.refl w.heap.size w).alloc (Nat.le_refl _) (.cells CZ 27));have HLO := Lib.hid hlo;have HNA := Lib.hid hna;have HRR := Lib.hid hR;have HT := Lib.hid hT;have hmx : (if (0 : Int) ≤ at0 then at0 else 0) = (s : Int) := by
  rcases hs with ⟨h1, h2⟩ | h
  · rw [if_neg (by omega)]; omega
  · rw [if_pos (by omega), h]
 (have hmx2 : max at0 0 = (s : Int) := by omega);have HS := Lib.hid (show (s : Int) ≤ 9223372036854775807 from by omega);clear hlo hR hT hs hs2 hna;go_enter Tryz.func14, Tryz.ntmps14;go_wp2;go_loopg [8] (T.length + 1 - s) (fun m kv wr => ∃ k : Nat, m = T.length + 1 - k ∧ (k : Int) ≤ 9223372036854775807 ∧ kv = .int .i64 (k : Nat) ∧ Hid (R = firstF F T.length k) ∧ Hid (Below w.heap.size w wr) ∧ Hid (wr.heap[w.heap.size]? = some (.cells CZ 27 (0, 0))));(case atStart => exact ⟨s, rfl, HS.out, rfl, HRR, HB0, HZ⟩);case round =>
  clear HB0 HZ HRR;obtain ⟨k, hm, hk, rfl, HR, HB, HL⟩ := hrel;subst hm;by_cases hlt : k ≤ T.length
  ·
   (have hle : (k : Int) ≤ (T.length : Int) := by omega);(have hwk : IntKind.i64.wrap ((k : Int) + 1) = (k : Int) + 1 := by rw [IntKind.wrap_i64]; have := HT.out; omega);have HK := Lib.hid hlt;have hst := first_step F hlt;(have hloq := fun (W : World) (hb : Below w.heap.size w W) => HLO.out W k hb hlt);clear hlt hk;cases hF : F k with
   | none =>
    rw [hF] at hst hloq;have HST := Lib.hid hst;have HLQ := Lib.hid hloq;clear hst hloq;go_wp2_with (first
     | (go_at_call 23; refine (HLQ.out _ HB.out).mono ?_; rintro e w3 ⟨he, hb⟩; rw [show ansC none = .tuple #[CV nones, .bool false] from rfl] at he; subst he; have HB3 := Lib.hid (HB.out.trans (hb.mono HB.out.size)); have HL3 := Lib.hid ((hb.block _ (lt_heap' HL.out)).trans HL.out); clear hb)
     | (refine wpList_store_row rfl 27 (.tmp 9) (.tmp 24) rfl _ (CC nones) rfl rfl _ CZ (heap_alloc_new _ _) (by kernel_rfl) rfl (cc_one nones) ?_; simp only [Act.put, List.setIfInBounds_toArray, List.set_cons_zero, List.set_cons_succ]; rw [box_laid]; have hbb := (Below.refl w3.heap.size w3).alloc (Nat.le_refl _) (.cells (CC nones) 27); have HB4 := Lib.hid (HB3.out.trans (hbb.mono HB3.out.size)); have HL4 := Lib.hid ((hbb.block _ (lt_heap' HL3.out)).trans HL3.out); clear hbb HB3 HL3; generalize World.alloc _ _ = W4 at HB4 HL4 ⊢))
    go_roundg (T.length - k);(case measure => have := HK.out; omega);case rel => exact ⟨k + 1, by omega, by have := HK.out; have := HT.out; omega, by go_num, Lib.hid (by rw [HR.out, HST.out]), HB4, HL4⟩
   | some a1 =>
    rw [hF] at hst hloq;have HST := Lib.hid hst;have HLQ := Lib.hid hloq;clear hst hloq;go_wp2_with (first
     | (go_at_call 23; refine (HLQ.out _ HB.out).mono ?_; rintro e w3 ⟨he, hb⟩; rw [show ansC (some a1) = .tuple #[CV a1, .bool true] from rfl] at he; subst he; have HB3 := Lib.hid (HB.out.trans (hb.mono HB.out.size)); have HL3 := Lib.hid ((hb.block _ (lt_heap' HL.out)).trans HL.out); clear hb)
     | (refine wpList_store_row rfl 27 (.tmp 9) (.tmp 24) rfl _ (CC a1) rfl rfl _ CZ (heap_alloc_new _ _) (by kernel_rfl) rfl (cc_one a1) ?_; simp only [Act.put, List.setIfInBounds_toArray, List.set_cons_zero, List.set_cons_succ]; rw [box_laid]; have hbb := (Below.refl w3.heap.size w3).alloc (Nat.le_refl _) (.cells (CC a1) 27); have HB4 := Lib.hid (HB3.out.trans (hbb.mono HB3.out.size)); have HL4 := Lib.hid ((hbb.block _ (lt_heap' HL3.out)).trans HL3.out); have HX4 := Lib.hid (heap_alloc_new w3 (.cells (CC a1) 27)); clear hbb HB3 HL3; generalize World.alloc _ _ = W4 at HB4 HL4 HX4 ⊢)
     | (refine wpList_load_row rfl 27 (.tmp 9) rfl w3.heap.size rfl _ (CC a1) (0, 0) _ HX4.out Tryz.underlying27 rfl (by kernel_rfl) ?_; simp only [Act.put, List.setIfInBounds_toArray, List.set_cons_zero, List.set_cons_succ])
     | (refine wpList_store_row rfl 27 (.tmp 6) (.tmp 27) rfl w.heap.size (CC a1) rfl rfl _ CZ HL4.out (by kernel_rfl) rfl (cc_one a1) ?_; simp only [Act.put, List.setIfInBounds_toArray, List.set_cons_zero, List.set_cons_succ]; have HRS := Lib.hid (And.intro (setRow_heap _ _ _ (CC a1) _ _ HL4.out) (below_setRow (B := w.heap.size) HB4.out (g := w.heap.size) (Nat.le_refl _) (CC a1))); generalize World.setRow _ _ _ = W9 at HRS ⊢))
    refine bodyPost_ret (res_caps rfl rfl HRS.out.1 rfl) rfl ?_;refine ⟨?_, HRS.out.2⟩;rw [HR.out, HST.out]; rfl
  ·
   (have hle : ¬ (k : Int) ≤ (T.length : Int) := by omega);have HEND := Lib.hid (first_end F (show T.length < k from by omega));clear hlt hk;go_wp2_with (first
    | (go_at_call 40; refine (HNA.out _).mono ?_; rintro e w8 ⟨rfl, hb⟩; have HB8 := Lib.hid (HB.out.trans (hb.mono HB.out.size)); have HR8 := Lib.hid ((hb.block _ (lt_heap' HL.out)).trans HL.out); clear hb)
    | (refine wpList_store_row rfl 27 (.tmp 6) (.tmp 28) rfl w.heap.size (CC nones) rfl rfl _ CZ HR8.out (by kernel_rfl) rfl (cc_one nones) ?_; simp only [Act.put, List.setIfInBounds_toArray, List.set_cons_zero, List.set_cons_succ]; have HRS := Lib.hid (And.intro (setRow_heap _ _ _ (CC nones) _ _ HR8.out) (below_setRow (B := w.heap.size) HB8.out (g := w.heap.size) (Nat.le_refl _) (CC nones))); generalize World.setRow _ _ _ = W9 at HRS ⊢))
   refine bodyPost_ret (res_caps rfl rfl HRS.out.1 rfl) rfl ?_;refine ⟨?_, HRS.out.2⟩;rw [HR.out, HEND.out]; rfl
/-- The first one, from any place on. -/
theorem first_any (hna : NoneOk) (v : Value) (T : List UInt8) (hT : T.length ≤ 100000) (F : Nat → Option Caps) (w : World) (hlo : LongOk w v T F) (at0 : Int) (h2 : at0 ≤ 9223372036854775807) (R : Option Caps) (hR : R = firstF F T.length at0.toNat) :
  Calls Tryz.prog 14 #[v, S T, E at0] w fun e w' => e = .returned (ansC R) ∧ Below w.heap.size w w' :=
 first_from hna v T hT F w hlo at0 at0.toNat (by omega) h2 R hR
theorem has_any (hna : NoneOk) (v : Value) (T : List UInt8) (hT : T.length ≤ 100000) (F : Nat → Option Caps) (w : World) (hlo : LongOk w v T F) (R : Bool) (hR : R = (firstF F T.length 0).isSome) :
  Calls Tryz.prog 17 #[v, S T] w fun e w' => e = .returned (.bool R) ∧ Below w.heap.size w w' := by
 have HF := Lib.hid (first_from hna v T hT F w hlo 0 0 (Or.inr rfl) (by decide) _ rfl);have HRR := Lib.hid hR;clear hna hT hlo hR;generalize firstF F T.length 0 = q at *;cases q with
 | none =>
  go_enter Tryz.func17, Tryz.ntmps17;go_wp2_with (first
   | (go_at_call 14; refine HF.out.mono ?_; rintro e w3 ⟨he, hb⟩; rw [show ansC none = .tuple #[CV nones, .bool false] from rfl] at he; subst he; have HB3 := Lib.hid hb; clear hb)
   | (refine wpList_store_row rfl 27 (.tmp 5) (.tmp 11) rfl _ (CC nones) rfl rfl _ CZ (heap_alloc_new _ _) (by kernel_rfl) rfl (cc_one nones) ?_; simp only [Act.put, List.setIfInBounds_toArray, List.set_cons_zero, List.set_cons_succ]; rw [box_laid]; have HB4 := Lib.hid (HB3.out.alloc HB3.out.size (.cells (CC nones) 27)); generalize World.alloc _ _ = W4 at HB4 ⊢))
  go_ret;exact ⟨by rw [HRR.out]; rfl, HB4.out⟩
 | some a1 =>
  go_enter Tryz.func17, Tryz.ntmps17;go_wp2_with (first
   | (go_at_call 14; refine HF.out.mono ?_; rintro e w3 ⟨he, hb⟩; rw [show ansC (some a1) = .tuple #[CV a1, .bool true] from rfl] at he; subst he; have HB3 := Lib.hid hb; clear hb)
   | (refine wpList_store_row rfl 27 (.tmp 5) (.tmp 11) rfl _ (CC a1) rfl rfl _ CZ (heap_alloc_new _ _) (by kernel_rfl) rfl (cc_one a1) ?_; simp only [Act.put, List.setIfInBounds_toArray, List.set_cons_zero, List.set_cons_succ]; rw [box_laid]; have HB4 := Lib.hid (HB3.out.alloc HB3.out.size (.cells (CC a1) 27)); generalize World.alloc _ _ = W4 at HB4 ⊢))
  go_ret;exact ⟨by rw [HRR.out]; rfl, HB4.out⟩
open Sp Fl
theorem len_cap {N : Nat} (hN : N ≤ 999999999) {i j : Nat} (h : CapOk N (some (i, j))) (w : World) : Calls Tryz.prog 24 #[capV (some (i, j))] w fun e w' => e = .returned (E ((j - i : Nat) : Int)) ∧ w = w' := by
 have := Sp.len_any (fi i) (fi j) w;obtain ⟨_, e1, e2, _⟩ := fi_in (inB_of (a := (i : Int)) (b := (j : Int)) (by omega) (by have := h.1; omega) (by have := h.2; omega));rw [e1, e2, show (j : Int) - (i : Int) = ((j - i : Nat) : Int) from by have := h.1; omega] at this;exact this
attribute [local go_sem] Oper.semAt_some
section
variable {F : Fence} {n : Nat} {P : Program} {ops : Array Oper} {Q : Exit → Act → World → Prop} {a : Act} {w : World} {rest : List Oper} {o : Oper}
/-- A row is laid, within a fence. -/
theorem inStore_row (hgd : o.guard = none) (ty : TypeId) (x y : Operand) (ho : o.op = .store ty x y)
  (g : Nat) (cells : Array Value) (hx : a.eval x = .pointer (some ⟨g, 0, none⟩)) (hy : a.eval y = .agg cells)
  (t : TypeId) (old : Array Value) (hg : w.heap[g]? = some (.cells old t (0, 0))) (hi : (P.info? ty).map (·.size) = some cells.size)
  (hold : old.size = cells.size) (h1 : cells.all (·.oneCell') = true)
  (h : wpListIn F n P ops Q rest (a.put o.dst undef) (w.setRow g cells)) : wpListIn F n P ops Q (o :: rest) a w := by
 (refine wpListIn_plain hgd fun K hK => ?_);unfold Oper.wpIn;refine ⟨by simp [Oper.about, ho], ?_⟩;rw [Oper.semAt_plain F _ _ (by rw [ho]; intro c hc'; cases hc')];unfold execOp;simp only [ho, hx, hy, Instr.storeAt, Instr.sureAddr, Sem.run_bind, Sem.run_pure, Result.andThen_ok, run_storeVar_row w g t ty old cells hg hi hold h1];exact hK _ _ h
/-- A row is loaded, within a fence. -/
theorem inLoad_row (hgd : o.guard = none) (ty : TypeId) (x : Operand) (ho : o.op = .load ty x)
  (g : Nat) (hx : a.eval x = .pointer (some ⟨g, 0, none⟩)) (t : TypeId) (cs : Array Value) (fr : Nat × Nat) (d : TypeDesc) (hg : w.heap[g]? = some (.cells cs t fr))
  (hu : P.underlying ty = some d) (hd : (match d with | .struct _ | .array _ _ => true | _ => false) = true) (hi : (P.info? ty).map (·.size) = some cs.size)
  (h : wpListIn F n P ops Q rest (a.put o.dst (.agg cs)) w) : wpListIn F n P ops Q (o :: rest) a w := by
 (refine wpListIn_plain hgd fun K hK => ?_);unfold Oper.wpIn;refine ⟨by simp [Oper.about, ho], ?_⟩;rw [Oper.semAt_plain F _ _ (by rw [ho]; intro c hc'; cases hc')];unfold execOp;simp only [ho, hx, Instr.loadAt, Instr.sureAddr, Sem.run_bind, Sem.run_pure, Result.andThen_ok, run_loadVar_row w g t ty cs fr d hg hu hd hi];exact hK _ _ h
end
theorem grown_none {W W' : World} (hb : Below W.heap.size W W') : W.grownBy W' none := ⟨hb.os, hb.tape, hb.output, hb.size, fun k hk _ => hb.block k hk⟩
/-- Whether two numbers are apart. -/
def dl (a b : Int) : Nat := if a = b then 0 else 1
theorem dl_le (a b : Int) : dl a b ≤ 1 := by unfold dl; split <;> omega
theorem dl_self (a : Int) : dl a a = 0 := by unfold dl; rw [if_pos rfl]
theorem dl_ne {a b : Int} (h : a ≠ b) : dl a b = 1 := by unfold dl; rw [if_neg h]
theorem finds_stops (hna : NoneOk) (n : Nat) (hn : 2 ≤ n) (ao : Option Addr) (nn cc : Nat) (T : List UInt8) (hT : T.length ≤ 100000) (F : Nat → Option Caps) (hF : FOk T.length F) (bt bl : Nat) (w : World) (Kp : World → World → Prop) (Ft : World → Prop)
  (hfact : ∀ W, Below w.heap.size w W → Ft W) (hFb : ∀ W W', Ft W → Below W.heap.size W W' → Ft W') (hFK : ∀ W W', Kp W W' → Ft W → Ft W')
  (hFt : ∀ W, Ft W → LongOk W (.slice ao nn cc) T F ∧ Boxed W bt 9 (S T) ∧ Boxed W bl 22 (.slice ao nn cc))
  (hnew : ∀ W (cs : Array Value) W', Ft W → Kp (W.alloc (.cells cs 27)) W' → W'.heap[W.heap.size]? = some (.cells cs 27 (0, 0))) :
  SeqStopsK Fence.wide n Tryz.prog 67 #[PT bt, PT bl] (fun c : Caps => #[CV c]) Kp (fun xs => xs = allF F T.length) (fun _ => True) (2 * (T.length + 1) + 1) w := fun l J Jx W hW hJ hJx hY h0 => by
 have HFT0 := Lib.hid (hfact W hW);have HJ0 := Lib.hid h0;have HT := Lib.hid hT;have HFO := Lib.hid hF;have HJA := Lib.hid hJ;have HYL := Lib.hid hY;have HFB := Lib.hid hFb;have HFK := Lib.hid hFK;have HFT := Lib.hid hFt;have HNW := Lib.hid hnew;clear hfact h0 hT hF hJ hY hFb hFK hFt hnew hJx;refine callsIn_of_wp Tryz.func67 rfl trivial ?_ rfl;simp only [Tryz.ntmps67, List.size_toArray, List.length_cons, List.length_nil, Nat.reduceAdd, Nat.reduceSub, Array.replicate_succ, Array.replicate_zero, List.push_toArray, List.append_toArray, List.nil_append, List.cons_append];gi_wp2
 gi_loopw [4, 5] (fun lv iv wr => ∃ la i f : Nat, lv = .int .i64 ((la : Int) - 1) ∧ iv = .int .i64 (i : Nat) ∧ la ≤ T.length + 1 ∧ i ≤ T.length + 1 ∧ muF T.length la i ≤ f ∧ Hid (Ft wr) ∧ ∃ pre : List Caps, Hid (pre ++ finF F T.length f la i = allF F T.length) ∧ Hid (J pre wr)) (fun lv iv _ => 2 * (T.length + 1 - (intOf iv).toNat) + dl (intOf lv) (intOf iv))
 (case atStart => exact ⟨0, 0, 2 * (T.length + 1) + 1, rfl, rfl, by omega, by omega, by unfold muF; split <;> omega, HFT0, [], Lib.hid rfl, HJ0⟩);case round =>
  clear HFT0 HJ0;obtain ⟨la, i, f, rfl, rfl, hla, hi, hmu, HF, pre, HP, HJ⟩ := hrel;have HMU := Lib.hid hmu;have HLA := Lib.hid hla;obtain ⟨hlo, ht1, ht2⟩ := HFT.out _ HF.out;have c1 := ht1.cell;have c2 := ht2.cell;have HLO := Lib.hid hlo;clear hlo ht1 ht2;by_cases hlt : i ≤ T.length
  ·
   obtain ⟨f, rfl⟩ : ∃ f', f = f' + 1 := ⟨f - 1, by unfold muF at hmu; omega⟩;have hst : finF F T.length (f + 1) la i = match firstF F T.length i with
     | none => []
     | some c => if to0 c = from0 c ∧ from0 c + 1 = la then finF F T.length f la la else c :: finF F T.length f (to0 c + 1) (to0 c) := rfl
   (have hle : (i : Int) ≤ (T.length : Int) := by omega);have HLT := Lib.hid hlt;clear hlt hla hi hmu;cases hR : firstF F T.length i with
   | none =>
    rw [hR] at hst;have HST := Lib.hid hst;have HFI := Lib.hid (first_from hna (.slice ao nn cc) T HT.out F _ HLO.out (i : Nat) i (Or.inr rfl) (by have := HLT.out; have := HT.out; omega) none hR.symm);clear hst hR HLO;gi_wp2;refine ⟨trivial, fun h => (by cases h), ?_⟩;refine (callsIn_wide.2 HFI.out).mono ?_;rintro e w3 ⟨he, hb⟩;rw [show ansC none = .tuple #[CV nones, .bool false] from rfl] at he;subst he;have HJ3 := Lib.hid (HJA.out _ _ _ none HJ.out (grown_none hb) (by simp));clear c1 c2 hb
    gi_wp2_with (refine inStore_row rfl 27 (.tmp 6) (.tmp 17) rfl _ (CC nones) rfl rfl _ CZ (heap_alloc_new _ _) (by kernel_rfl) rfl (cc_one nones) ?_; simp only [Act.put, List.setIfInBounds_toArray, List.set_cons_zero, List.set_cons_succ]; rw [box_laid]; have HJ4 := Lib.hid (HJA.out _ _ _ none HJ3.out (World.grownBy_alloc _ (.cells (CC nones) 27) none) (by simp)); clear HJ3; generalize World.alloc _ _ = W4 at HJ4 ⊢)
    refine bodyPost_ret (results_none rfl _ _ _) rfl ?_;refine ⟨⟨_, rfl⟩, .inl ⟨_, ?_, HJ4.out⟩⟩;have := HP.out;rw [HST.out, List.append_nil] at this;exact this
   | some c =>
    rw [hR] at hst;have HST := Lib.hid hst;have HFI := Lib.hid (first_from hna (.slice ao nn cc) T HT.out F _ HLO.out (i : Nat) i (Or.inr rfl) (by have := HLT.out; have := HT.out; omega) (some c) hR.symm);have HMS := Lib.hid (fun q => mu_skip HFO.out hR HMU.out q);have HMN := Lib.hid (fun q => mu_next HFO.out hR HMU.out q);obtain ⟨g1, g2, g3, hcaps, hgr, g4, g5⟩ := first_at HFO.out hR;have HAT := Lib.hid (show i ≤ from0 c ∧ from0 c ≤ to0 c ∧ to0 c ≤ T.length from ⟨g1, g4, g5⟩);(have hok : CapOk T.length (some (from0 c, to0 c)) := by rw [← hgr]; exact hcaps.at 0);have HN9 := Lib.hid (show T.length ≤ 999999999 from by have := HT.out; omega);have HGR := Lib.hid hgr;have HLEN := Lib.hid (fun W => len_cap HN9.out hok W);have HFRM := Lib.hid (fun W => from_cap HN9.out hok W);have HTO := Lib.hid (fun W => to_cap HN9.out hok W);clear g1 g2 g3 hcaps hgr g4 g5 hok hst hR HLO;have hst2 := HST.out;have hms2 := HMS.out;have hmn2 := HMN.out;have hat2 := HAT.out;have hgr2 := HGR.out;have hl2 := HLEN.out;have hf2 := HFRM.out;have ht2 := HTO.out;clear HST HMS HMN HAT HGR HLEN HFRM HTO;obtain ⟨A, hA⟩ : ∃ A, from0 c = A := ⟨_, rfl⟩;obtain ⟨B, hB⟩ : ∃ B, to0 c = B := ⟨_, rfl⟩;simp only [hA, hB] at hst2 hms2 hmn2 hat2 hgr2 hl2 hf2 ht2;have HST := Lib.hid hst2;have HMS := Lib.hid hms2;have HMN := Lib.hid hmn2;have HAT := Lib.hid hat2;have HGR := Lib.hid hgr2;have HLEN := Lib.hid hl2;have HFRM := Lib.hid hf2;have HTO := Lib.hid ht2;clear hA hB hst2 hms2 hmn2 hat2 hgr2 hl2 hf2 ht2;gi_wp2;refine ⟨trivial, fun h => (by cases h), ?_⟩;refine (callsIn_wide.2 HFI.out).mono ?_;rintro e w3 ⟨he, hb⟩;rw [show ansC (some c) = .tuple #[CV c, .bool true] from rfl] at he;subst he;have HJ3 := Lib.hid (HJA.out _ _ _ none HJ.out (grown_none hb) (by simp));have HF3 := Lib.hid (HFB.out _ _ HF.out hb);clear c1 c2 hb;(have hwl : IntKind.i64.wrap ((la : Int) - 1 + 1) = (la : Int) := by rw [IntKind.wrap_i64]; have := HLA.out; have := HT.out; omega);(have hwl2 : IntKind.i64.wrap (la : Int) = (la : Int) := by rw [IntKind.wrap_i64]; have := HLA.out; have := HT.out; omega);by_cases hsk : B = A ∧ A + 1 = la
    ·
     (have hz : (((B - A : Nat) : Int) == 0) = true := by rw [beq_iff_eq]; omega);(have hq : ((A : Int) == (la : Int) - 1) = true := by rw [beq_iff_eq]; omega);have HSK := Lib.hid hsk;clear hsk
     gi_wp2_with (refine inStore_row rfl 27 (.tmp 6) (.tmp 17) rfl _ (CC c) rfl rfl _ CZ (heap_alloc_new _ _) (by kernel_rfl) rfl (cc_one c) ?_; simp only [Act.put, List.setIfInBounds_toArray, List.set_cons_zero, List.set_cons_succ]; rw [box_laid]; have HJ4 := Lib.hid (HJA.out _ _ _ none HJ3.out (World.grownBy_alloc _ (.cells (CC c) 27) none) (by simp)); have HF4 := Lib.hid (HFB.out _ _ HF3.out ((Below.refl _ _).alloc (Nat.le_refl _) (.cells (CC c) 27))); have HX4 := Lib.hid (heap_alloc_new w3 (.cells (CC c) 27)); have HNK := Lib.hid (fun W' => HNW.out w3 (CC c) W' HF3.out); generalize World.alloc _ _ = W4 at HJ4 HF4 HX4 HNK ⊢; have cx := cap_cell HX4.out (n := 0) (by decide); rw [HGR.out] at cx)
     refine ⟨trivial, fun h => (by cases h), ?_⟩;refine (callsIn_wide.2 (HLEN.out _)).mono ?_;rintro e w5 ⟨rfl, rfl⟩;gi_wp2;refine ⟨trivial, fun h => (by cases h), ?_⟩;refine (callsIn_wide.2 (HFRM.out _)).mono ?_;rintro e w5 ⟨rfl, rfl⟩;gi_wp2;go_roundw;(case rel => exact ⟨la, la, f, rfl, rfl, HLA.out, HLA.out, HMS.out HSK.out, HF4, pre, Lib.hid (by rw [← HP.out, HST.out, if_pos HSK.out]), HJ4⟩);case measure =>
      have := HAT.out;have := HLT.out;have := HSK.out;simp only [intOf, Int.toNat_natCast];have h1 := dl_le ((la : Int) - 1) (la : Int);omega
    ·
     have hno := hsk;have HLN := Lib.hid (show pre.length < 2 * (T.length + 1) + 1 from by
      have h1 := fin_len F T.length (2 * (T.length + 1) + 1) 0 0;have h2 := congrArg List.length HP.out;rw [HST.out, if_neg hno, List.length_append, List.length_cons] at h2;unfold allF at h2;omega)
     by_cases he : B = A
     ·
      (have hz : (((B - A : Nat) : Int) == 0) = true := by rw [beq_iff_eq]; omega);(have hq : ((A : Int) == (la : Int) - 1) = false := by rw [beq_eq_false_iff_ne]; omega);clear hsk he
      gi_wp2_with (refine inStore_row rfl 27 (.tmp 6) (.tmp 17) rfl _ (CC c) rfl rfl _ CZ (heap_alloc_new _ _) (by kernel_rfl) rfl (cc_one c) ?_; simp only [Act.put, List.setIfInBounds_toArray, List.set_cons_zero, List.set_cons_succ]; rw [box_laid]; have HJ4 := Lib.hid (HJA.out _ _ _ none HJ3.out (World.grownBy_alloc _ (.cells (CC c) 27) none) (by simp)); have HF4 := Lib.hid (HFB.out _ _ HF3.out ((Below.refl _ _).alloc (Nat.le_refl _) (.cells (CC c) 27))); have HX4 := Lib.hid (heap_alloc_new w3 (.cells (CC c) 27)); have HNK := Lib.hid (fun W' => HNW.out w3 (CC c) W' HF3.out); generalize World.alloc _ _ = W4 at HJ4 HF4 HX4 HNK ⊢; have cx := cap_cell HX4.out (n := 0) (by decide); rw [HGR.out] at cx)
      refine ⟨trivial, fun h => (by cases h), ?_⟩;refine (callsIn_wide.2 (HLEN.out _)).mono ?_;rintro e w5 ⟨rfl, rfl⟩;gi_wp2;refine ⟨trivial, fun h => (by cases h), ?_⟩;refine (callsIn_wide.2 (HFRM.out _)).mono ?_;rintro e w5 ⟨rfl, rfl⟩;obtain ⟨fn, tmps, assign, body, hy, hYR⟩ := HYL.out pre c W4 HJ4.out HLN.out
      gi_wp2_with (refine inLoad_row rfl 27 (.tmp 6) rfl w3.heap.size rfl _ (CC c) (0, 0) _ HX4.out Tryz.underlying27 rfl (by kernel_rfl) ?_; simp only [Act.put, List.setIfInBounds_toArray, List.set_cons_zero, List.set_cons_succ])
      refine ⟨fun h => (by cases h), hYR.mono ?_⟩;clear hy hYR;rintro e W' (⟨rfl, hJ', hk'⟩ | ⟨rfl, hJx'⟩)
      ·
       have HF5 := Lib.hid (HFK.out _ _ hk' HF4.out);have hx5 := cap_cell (HNK.out _ hk') (n := 0) (by decide);rw [HGR.out] at hx5;have HJ5 := Lib.hid hJ';clear cx hJ' hk';gi_wp2;refine ⟨trivial, fun h => (by cases h), ?_⟩;refine (callsIn_wide.2 (HTO.out _)).mono ?_;rintro e w5 ⟨rfl, rfl⟩;gi_wp2;go_roundw;(case rel => exact ⟨B + 1, B, f, by rw [show (((B + 1 : Nat) : Int) - 1) = (B : Int) from by omega], rfl, by have := HAT.out; omega, by have := HAT.out; omega, HMN.out hno, HF5, pre ++ [c], Lib.hid (by rw [← HP.out, HST.out, if_neg hno]; simp), HJ5⟩);case measure =>
        have := HAT.out;have := HLT.out;simp only [intOf, Int.toNat_natCast];rw [dl_self];by_cases hla : (la : Int) - 1 = (i : Int)
        · omega
        · rw [dl_ne hla];omega
      · clear cx;gi_wp2;refine bodyPost_ret (results_none rfl _ _ _) rfl ?_;exact ⟨⟨_, rfl⟩, .inr ⟨_, trivial, hJx'⟩⟩
     ·
      (have hz : (((B - A : Nat) : Int) == 0) = false := by rw [beq_eq_false_iff_ne]; have := HAT.out; omega);clear hsk he
      gi_wp2_with (refine inStore_row rfl 27 (.tmp 6) (.tmp 17) rfl _ (CC c) rfl rfl _ CZ (heap_alloc_new _ _) (by kernel_rfl) rfl (cc_one c) ?_; simp only [Act.put, List.setIfInBounds_toArray, List.set_cons_zero, List.set_cons_succ]; rw [box_laid]; have HJ4 := Lib.hid (HJA.out _ _ _ none HJ3.out (World.grownBy_alloc _ (.cells (CC c) 27) none) (by simp)); have HF4 := Lib.hid (HFB.out _ _ HF3.out ((Below.refl _ _).alloc (Nat.le_refl _) (.cells (CC c) 27))); have HX4 := Lib.hid (heap_alloc_new w3 (.cells (CC c) 27)); have HNK := Lib.hid (fun W' => HNW.out w3 (CC c) W' HF3.out); generalize World.alloc _ _ = W4 at HJ4 HF4 HX4 HNK ⊢; have cx := cap_cell HX4.out (n := 0) (by decide); rw [HGR.out] at cx)
      refine ⟨trivial, fun h => (by cases h), ?_⟩;refine (callsIn_wide.2 (HLEN.out _)).mono ?_;rintro e w5 ⟨rfl, rfl⟩;gi_wp2;refine ⟨trivial, ?_⟩;obtain ⟨fn, tmps, assign, body, hy, hYR⟩ := HYL.out pre c W4 HJ4.out HLN.out
      gi_wp2_with (refine inLoad_row rfl 27 (.tmp 6) rfl w3.heap.size rfl _ (CC c) (0, 0) _ HX4.out Tryz.underlying27 rfl (by kernel_rfl) ?_; simp only [Act.put, List.setIfInBounds_toArray, List.set_cons_zero, List.set_cons_succ])
      refine ⟨fun h => (by cases h), hYR.mono ?_⟩;clear hy hYR;rintro e W' (⟨rfl, hJ', hk'⟩ | ⟨rfl, hJx'⟩)
      ·
       have HF5 := Lib.hid (HFK.out _ _ hk' HF4.out);have hx5 := cap_cell (HNK.out _ hk') (n := 0) (by decide);rw [HGR.out] at hx5;have HJ5 := Lib.hid hJ';clear cx hJ' hk';gi_wp2;refine ⟨trivial, fun h => (by cases h), ?_⟩;refine (callsIn_wide.2 (HTO.out _)).mono ?_;rintro e w5 ⟨rfl, rfl⟩;gi_wp2;go_roundw;(case rel => exact ⟨B + 1, B, f, by rw [show (((B + 1 : Nat) : Int) - 1) = (B : Int) from by omega], rfl, by have := HAT.out; omega, by have := HAT.out; omega, HMN.out hno, HF5, pre ++ [c], Lib.hid (by rw [← HP.out, HST.out, if_neg hno]; simp), HJ5⟩);case measure =>
        have := HAT.out;have := HLT.out;simp only [intOf, Int.toNat_natCast];rw [dl_self];by_cases hla : (la : Int) - 1 = (i : Int)
        · omega
        · rw [dl_ne hla];omega
      · clear cx;gi_wp2;refine bodyPost_ret (results_none rfl _ _ _) rfl ?_;exact ⟨⟨_, rfl⟩, .inr ⟨_, trivial, hJx'⟩⟩
  ·
   (have hle : ¬ (i : Int) ≤ (T.length : Int) := by omega);have HEND := Lib.hid (show finF F T.length f la i = [] from by
    cases f with
    | zero => rfl
    | succ f => unfold finF; rw [first_end F (by omega)])
   clear hlt hla hi hmu HLO;gi_wp2;go_end0;have hp := HP.out;rw [HEND.out, List.append_nil] at hp;exact ⟨⟨_, rfl⟩, .inl (by rw [← hp]; exact HJ.out)⟩
end Go.Proofs.YthpiapemjadgdaaGreatDoor.Mt
