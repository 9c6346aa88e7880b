/- Sets of bytes: walks of Has, Range, Not. Sets of bytes: walks of Not, Or, Size. Sets of bytes: walks of Or, Size. Sets of bytes: walks of OnesCount64 and Size. Sets of bytes: the iterator all. -/
import Derived.Test.YtdjedjfanfbbcaaGreatDoorSt1
import Derived.Test.YtdjedjfanfbbcaaGreatDoorStPop
import Derived.Laws.Bits128
import Derived.Test.YtdjedjfanfbbcaaGreatDoorStBits
import Derived.RangeFuncNested
import Derived.RangeFuncBound
import Derived.RangeFuncCalls
import Derived.RangeFuncLeaves
import Derived.Shelf.Abstract
import Derived.Shelf.RegionOpen
import Derived.OwnWalkIn
import Derived.TacticsInMore
import Derived.LoopNIn
import Derived.LoopIn
import Derived.Shelf.Spec.TrailingZeros
namespace Go.Proofs.YtdjedjfanfbbcaaGreatDoor.St
open Go.RowKit
set_option linter.unusedVariables false
set_option linter.unusedSimpArgs false

theorem has_bits {ws : List Nat} (h : Wf ws) (b : Nat) : (bits BinOp.and IntKind.u64 ((word ws (b / 64) : Int) / 2 ^ (b % 64)) 1 == 1) = mem ws b := by
  have hx := word_lt h (b / 64)
  generalize hxe : word ws (b / 64) = x at *
  have e1 : ((x : Int) / 2 ^ (b % 64)) = ((x / 2 ^ (b % 64) : Nat) : Int) := by simp
  have h2 : x / 2 ^ (b % 64) < 18446744073709551616 := Nat.lt_of_le_of_lt (Nat.div_le_self _ _) hx
  rw [e1, show (1 : Int) = ((1 : Nat) : Int) from rfl, u64_and_nat _ _ h2 (by decide), nat_mask1]
  unfold mem
  rw [Nat.testBit_eq_decide_div_mod_eq]
  rw [show word ws (b / 64) = x from hxe]
  generalize x / 2 ^ (b % 64) = t
  rw [Bool.eq_iff_iff]
  simp only [beq_iff_eq, decide_eq_true_eq]
  omega
theorem i64_and63 (n : Int) : bits .and .i64 n 63 = n % 64 := by
  have h63 : (BitVec.ofInt 64 63).toNat = 2 ^ 6 - 1 := by decide
  have key : (BitVec.ofInt 64 n &&& BitVec.ofInt 64 63).toNat = (n % ((2 ^ 64 : Nat) : Int)).toNat % 2 ^ 6 := by
    rw [BitVec.toNat_and, BitVec.toNat_ofInt, h63, Nat.and_two_pow_sub_one_eq_mod]
  show IntKind.i64.wrap ((BitVec.ofInt 64 n &&& BitVec.ofInt 64 63).toNat : Nat) = n % 64
  rw [key, IntKind.wrap_i64]
  omega
theorem and63 (m : Nat) : bits BinOp.and IntKind.i64 (m : Int) 63 = ((m % 64 : Nat) : Int) := by
  rw [i64_and63]; omega

end Go.Proofs.YtdjedjfanfbbcaaGreatDoor.St
namespace Go.Proofs.YtdjedjfanfbbcaaGreatDoor.St
open Go.RowKit
set_option linter.unusedVariables false
set_option linter.unusedSimpArgs false

theorem two_new (w : World) (a b : Obj) : ((w.alloc a).alloc b).heap[w.heap.size]? = some a ∧ ((w.alloc a).alloc b).heap[w.heap.size + 1]? = some b := by
  have hs : (w.alloc a).heap.size = w.heap.size + 1 := by show (w.heap.push a).size = _; simp
  refine ⟨?_, ?_⟩
  · rw [heap_alloc_old _ _ (by rw [hs]; exact Nat.lt_succ_self _)]; exact heap_alloc_new w a
  · rw [← hs]; exact heap_alloc_new _ b
theorem alloc_le (w : World) (a : Obj) : w.heap.size ≤ (w.alloc a).heap.size := by show w.heap.size ≤ (w.heap.push a).size; simp
theorem not_word (x : Nat) (h : x < 2 ^ 64) : bits BinOp.xor IntKind.u64 (if IntKind.u64.signed = true then -1 else IntKind.u64.max) (x : Int) = ((2 ^ 64 - 1 - x : Nat) : Int) := by
  show bits BinOp.xor IntKind.u64 ((18446744073709551615 : Nat) : Int) (x : Int) = _
  rw [u64_xor_nat _ _ (by decide) h]
  congr 1
  apply Nat.eq_of_testBit_eq
  intro j
  rw [Nat.testBit_xor, show 18446744073709551615 = 2 ^ 64 - 1 from rfl, Nat.testBit_two_pow_sub_one, show 2 ^ 64 - 1 - x = 2 ^ 64 - (x + 1) from by omega, Nat.testBit_two_pow_sub_succ h]
  by_cases hj : j < 64
  · simp [hj]
  · have : x.testBit j = false := Nat.testBit_lt_two_pow (Nat.lt_of_lt_of_le h (Nat.pow_le_pow_right (by decide) (by omega)))
    simp [hj, this]
/-- Four words are put in a block. -/
def put4 (w : World) (b : Nat) (vs : List Nat) : World :=
  ((((w.setCell ⟨b, 0, none⟩ (.int .u64 (word vs 0 : Int))).setCell ⟨b, 1, none⟩ (.int .u64 (word vs 1 : Int))).setCell ⟨b, 2, none⟩ (.int .u64 (word vs 2 : Int))).setCell ⟨b, 3, none⟩ (.int .u64 (word vs 3 : Int)))
theorem put4_eq (w : World) (b : Nat) (vs : List Nat) : ((((w.setCell ⟨b, 0, none⟩ (.int .u64 (word vs 0 : Int))).setCell ⟨b, 1, none⟩ (.int .u64 (word vs 1 : Int))).setCell ⟨b, 2, none⟩ (.int .u64 (word vs 2 : Int))).setCell ⟨b, 3, none⟩ (.int .u64 (word vs 3 : Int))) = put4 w b vs := rfl
theorem SB.put {w : World} {b : Nat} {zs vs : List Nat} (h : SB w b zs) (hz : Wf zs) (hv : Wf vs) : SB (put4 w b vs) b vs := by
  have hq : (((zs.set 0 (word vs 0)).set 1 (word vs 1)).set 2 (word vs 2)).set 3 (word vs 3) = vs := by
    obtain ⟨hl, _⟩ := hz
    obtain ⟨hl', _⟩ := hv
    match zs, vs, hl, hl' with
    | [_, _, _, _], [_, _, _, _], _, _ => rfl
  have e := SB.set (SB.set (SB.set (SB.set h 0 (word vs 0)) 1 (word vs 1)) 2 (word vs 2)) 3 (word vs 3)
  rw [hq] at e
  unfold put4
  exact e
theorem put4_below {B : Nat} {w0 w : World} {b : Nat} (h : Below B w0 w) (hb : B ≤ b) (vs : List Nat) : Below B w0 (put4 w b vs) := below_again h hb _ _ _ _
theorem put4_other {w : World} {b b' : Nat} {o : Obj} (h : w.heap[b']? = some o) (hb : b ≠ b') (vs : List Nat) : (put4 w b vs).heap[b']? = some o := by
  unfold put4
  exact heap_set_other (heap_set_other (heap_set_other (heap_set_other h hb 0 _) hb 1 _) hb 2 _) hb 3 _
end Go.Proofs.YtdjedjfanfbbcaaGreatDoor.St
namespace Go.Proofs.YtdjedjfanfbbcaaGreatDoor.St
open Go.RowKit
set_option linter.unusedVariables false
set_option linter.unusedSimpArgs false
/-- The sets of a list lie in a block. -/
def Ls (w : World) (b : Nat) (l : List (List Nat)) : Prop := ∀ k (h : k < l.length), ∀ j, j < 4 → w.cell? ⟨b, k * 4 + j, none⟩ = some (.int .u64 (word l[k] j : Int))

theorem wc_eq {ws : List Nat} (h : Wf ws) : wc ws = #[.int .u64 (word ws 0 : Int), .int .u64 (word ws 1 : Int), .int .u64 (word ws 2 : Int), .int .u64 (word ws 3 : Int)] := by
  obtain ⟨hl, _⟩ := h
  match ws, hl with
  | [a, b, c, d], _ => rfl
set_option maxHeartbeats 400000 in
theorem or_any (l : List (List Nat)) (bk : Nat) (w : World) (h : ∀ v ∈ l, Wf v) (hl : l.length ≤ 4) (hb : bk < w.heap.size) (hc : Ls w bk l) :
    Calls Tryz.prog 57 #[.slice (some ⟨bk, 0, none⟩) l.length l.length] w fun e w' => e = .returned (SV (orL l)) ∧ Below w.heap.size w w' := by
  go_enter Tryz.func57, Tryz.ntmps57
  go_wp2
  go_loopw [4, 5, 8] (fun _ _ i wr => ∃ k : Nat, k ≤ l.length ∧ i = .int .i64 (k : Int) ∧ SB wr w.heap.size (orL (l.take k)) ∧ Below w.heap.size w wr) (fun _ _ i _ => l.length - (intOf i).toNat)
  case atStart => exact ⟨0, Nat.zero_le _, rfl, heap_alloc_new w _, (Below.refl _ w).alloc (Nat.le_refl _) _⟩
  case round =>
    obtain ⟨k, hk, rfl, hS, hB⟩ := hrel
    have hw := wf_orL (l := l.take k) (fun v hv => h v (List.mem_of_mem_take hv))
    by_cases hlt : k < l.length
    · have hv := h l[k] (List.getElem_mem hlt)
      have HSN := Lib.hid (show orL (l.take (k + 1)) = or2 (orL (l.take k)) l[k] by unfold orL; rw [List.take_succ_eq_append_getElem hlt, List.foldl_append]; rfl)
      have d0 := (hB.cell (p := ⟨bk, k * 4, none⟩) hb).trans (hc k hlt 0 (by omega))
      have d1 := (hB.cell (p := ⟨bk, k * 4 + 1, none⟩) hb).trans (hc k hlt 1 (by omega))
      have d2 := (hB.cell (p := ⟨bk, k * 4 + 2, none⟩) hb).trans (hc k hlt 2 (by omega))
      have d3 := (hB.cell (p := ⟨bk, k * 4 + 3, none⟩) hb).trans (hc k hlt 3 (by omega))
      have HL := Lib.hid (show w.heap.size < wr.heap.size from (Array.getElem?_eq_some_iff.1 hS).1)
      have hI : (k : Int) < (l.length : Int) := by omega
      generalize orL (l.take k) = ws at *
      generalize hvs : l[k] = vs at *
      clear hvs hc
      go_wp2
      go_loopw [5, 12] (fun _ i wv => ∃ j : Nat, j ≤ 4 ∧ i = .int .i64 (j : Int) ∧ SB wv w.heap.size (orK ws vs j) ∧ SB wv wr.heap.size vs ∧ Below w.heap.size w wv) (fun _ i _ => 4 - (intOf i).toNat)
      case atStart =>
        refine ⟨0, Nat.zero_le _, rfl, ?_, ?_, hB.alloc hB.size _⟩
        · exact (heap_alloc_old _ _ HL.out).trans hS
        · show (wr.alloc _).heap[wr.heap.size]? = some (.cells (wc vs) _ _)
          rw [heap_alloc_new, wc_eq hv]
      case round =>
        clear hS d0 d1 d2 d3
        obtain ⟨j, hj, rfl, hS, hV, hB'⟩ := hrel
        have hwj := (orK_spec hw hv j hj).1
        have HSJ := Lib.hid (show orK ws vs (j + 1) = (orK ws vs j).set j (word (orK ws vs j) j ||| word vs j) from rfl)
        have HO4 := Lib.hid (orK_four hw hv)
        by_cases hjl : j < 4
        · have c1 := hS.cell hwj hjl
          have f1 := Lib.frozen_of_heap hS j
          have c2 := SB.cell hV hv hjl
          have hx := u64_or_nat _ _ (word_lt hwj j) (word_lt hv j)
          have hJ : (j : Int) < 4 := by omega
          have hj' : ((j : Int)).toNat < 4 := hjl
          generalize hq : orK ws vs j = qs at *
          clear hq
          go_wp2
          go_region
          go_wp2
          go_roundw
          case rel => exact ⟨j + 1, by omega, by go_num, by rw [HSJ.out]; exact (SB.set hS _ _).drew, (heap_set_other hV (Nat.ne_of_lt HL.out) _ _), (hB'.setCell (Nat.le_refl _) _).drew⟩
          case measure => simp [intOf]; omega
        · obtain rfl : j = 4 := by omega
          have HS := Lib.hid hS
          clear hS hV hB
          go_wp2
          go_roundw
          case rel => exact ⟨k + 1, by omega, by go_num, by rw [HSN.out, ← HO4.out]; exact HS.out, hB'⟩
          case measure => simp [intOf]; omega
    · obtain rfl : k = l.length := by omega
      rw [List.take_of_length_le (Nat.le_refl _)] at *
      generalize hws : orL l = WS at *
      have HWS := Lib.hid hws
      clear hws
      have g0 := hS.cell hw (i := 0) (by omega)
      have g1 := hS.cell hw (i := 1) (by omega)
      have g2 := hS.cell hw (i := 2) (by omega)
      have g3 := hS.cell hw (i := 3) (by omega)
      have f0 := Lib.frozen_of_heap hS 0
      have f1 := Lib.frozen_of_heap hS 1
      have f2 := Lib.frozen_of_heap hS 2
      have f3 := Lib.frozen_of_heap hS 3
      have HSV := Lib.hid (SV_eq hw)
      have hS4 := hS.put hw hw
      have hB4 := put4_below hB (Nat.le_refl _) WS
      clear hS
      go_wp2
      rw [put4_eq]
      generalize put4 wr w.heap.size WS = W at *
      have k0 := hS4.cell hw (i := 0) (by omega)
      have k1 := hS4.cell hw (i := 1) (by omega)
      have k2 := hS4.cell hw (i := 2) (by omega)
      have k3 := hS4.cell hw (i := 3) (by omega)
      exact bodyPost_ret (v := SV WS) (by rw [HSV.out]; simp [results, Tryz.results57, go_sem, k0, k1, k2, k3]) rfl ⟨by rw [HWS.out], hB4⟩
end Go.Proofs.YtdjedjfanfbbcaaGreatDoor.St
namespace Go.Proofs.YtdjedjfanfbbcaaGreatDoor.St
open Go.RowKit
set_option linter.unusedVariables false
set_option linter.unusedSimpArgs false

theorem u64_and_lit (x m : Nat) (h : x < 18446744073709551616) (hm : m < 18446744073709551616) : bits BinOp.and IntKind.u64 (x : Int) (m : Int) = ((x &&& m : Nat) : Int) := u64_and_nat _ _ h hm
theorem idx_run (a b c d : Value) (w : World) : 
    (Instr.index 43 (.agg #[a, b, c, d]) (.int .i64 0)).run Tryz.prog w = .ok a w ∧ (Instr.index 43 (.agg #[a, b, c, d]) (.int .i64 1)).run Tryz.prog w = .ok b w ∧ (Instr.index 43 (.agg #[a, b, c, d]) (.int .i64 2)).run Tryz.prog w = .ok c w ∧ (Instr.index 43 (.agg #[a, b, c, d]) (.int .i64 3)).run Tryz.prog w = .ok d w := ⟨by kernel_rfl, by kernel_rfl, by kernel_rfl, by kernel_rfl⟩
theorem idx_word (ws : List Nat) {k : Nat} (hk : k < 4) (w : World) : (Instr.index 43 (.agg #[.int .u64 (word ws 0 : Int), .int .u64 (word ws 1 : Int), .int .u64 (word ws 2 : Int), .int .u64 (word ws 3 : Int)]) (.int .i64 (k : Int))).run Tryz.prog w = .ok (.int .u64 (word ws k : Int)) w := by
  obtain ⟨h0, h1, h2, h3⟩ := idx_run (.int .u64 (word ws 0 : Int)) (.int .u64 (word ws 1 : Int)) (.int .u64 (word ws 2 : Int)) (.int .u64 (word ws 3 : Int)) w
  match k, hk with
  | 0, _ => exact h0
  | 1, _ => exact h1
  | 2, _ => exact h2
  | 3, _ => exact h3
end Go.Proofs.YtdjedjfanfbbcaaGreatDoor.St
namespace Go.Proofs.YtdjedjfanfbbcaaGreatDoor.St
open Go.RowKit Go.Shelf
set_option linter.unusedVariables false
set_option linter.unusedSimpArgs false
attribute [local go_sem] Oper.semAt_some

/-- The library's table lies in its variable. -/
def Tab (w : World) : Prop := TabAt 0 Lib.deBruijn64tab w
theorem Tab.below {w w' : World} (h : Tab w) {B : Nat} (hb : Below B w w') (hB : 0 < B) : Tab w' := fun j hj => (hb.cell (p := ⟨0, j, none⟩) hB).trans (h j hj)

set_option maxHeartbeats 400000 in
theorem tz_core (x k idx : Nat) (w : World) (hx0 : ((x : Int) == 0) = false)
    (key : IntKind.u64.wrap (bits BinOp.and IntKind.u64 (x : Int) (IntKind.u64.wrap (-(x : Int))) * 285870213051353865) / 288230376151711744 = (idx : Int))
    (hi : idx < 64) (hk : k < 64) (hcell : w.cell? ⟨0, idx, none⟩ = some (.int .u8 k)) :
    Calls Tryz.prog 70 #[.int .u64 x] w fun e w' => e = .returned (.int .i64 k) ∧ w' = w := by
  go_enter Tryz.func70, Tryz.ntmps70
  go_wp2_with (simp only [key])
  go_ret
  exact ⟨rfl, rfl⟩
theorem tz_any (x : Nat) (hx : x < 18446744073709551616) (hx0 : x ≠ 0) (w : World) (hT : Tab w) :
    Calls Tryz.prog 70 #[.int .u64 x] w fun e w' => e = .returned (.int .i64 (Lib.ctz 64 x : Int)) ∧ w' = w := by
  obtain ⟨hlow, hk⟩ := Lib.lowest_bit 64 x hx0 hx
  obtain ⟨hi, htab⟩ := Lib.deBruijn64_at _ hk
  have hcell := hT _ hi
  rw [htab] at hcell
  exact tz_core x _ _ w (by simp; omega) (tz64_key x _ hx hx0 hlow) hi hk hcell

theorem all_any (ws : List Nat) (w : World) (h : Wf ws) :
    Calls Tryz.prog 52 #[SV ws] w fun e w' => e = .returned (.func (.func 69) #[] #[.pointer (some ⟨w.heap.size, 0, none⟩)]) ∧ w' = w.alloc (.cells (wc ws) 43) := by
  go_enter Tryz.func52, Tryz.ntmps52
  go_wp2
  go_ret
  exact ⟨rfl, rfl⟩
end Go.Proofs.YtdjedjfanfbbcaaGreatDoor.St
