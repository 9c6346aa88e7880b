/- Sets of bytes: walks of Or, Size. -/
import Derived.Test.YtdjedjfanfbbcaaDoorSl3
namespace Go.Proofs.YtdjedjfanfbbcaaDoor.St
open Go.RowKit
set_option linter.unusedVariables false
set_option linter.unusedSimpArgs false
/-- The sets of a list lie in a block. -/
def Ls (w : World) (b : Nat) (l : List (List Nat)) : Prop := ∀ k (h : k < l.length), ∀ j, j < 4 → w.cell? ⟨b, k * 4 + j, none⟩ = some (.int .u64 (word l[k] j : Int))

theorem wc_eq {ws : List Nat} (h : Wf ws) : wc ws = #[.int .u64 (word ws 0 : Int), .int .u64 (word ws 1 : Int), .int .u64 (word ws 2 : Int), .int .u64 (word ws 3 : Int)] := by
  obtain ⟨hl, _⟩ := h
  match ws, hl with
  | [a, b, c, d], _ => rfl
set_option maxHeartbeats 400000 in
theorem or_any (l : List (List Nat)) (bk : Nat) (w : World) (h : ∀ v ∈ l, Wf v) (hl : l.length ≤ 4) (hb : bk < w.heap.size) (hc : Ls w bk l) :
    Calls Tryd.prog 16 #[.slice (some ⟨bk, 0, none⟩) l.length l.length] w fun e w' => e = .returned (SV (orL l)) ∧ Below w.heap.size w w' := by
  go_enter Tryd.func16, Tryd.ntmps16
  go_wp2
  go_loopw [4, 5, 8] (fun _ _ i wr => ∃ k : Nat, k ≤ l.length ∧ i = .int .i64 (k : Int) ∧ SB wr w.heap.size (orL (l.take k)) ∧ Below w.heap.size w wr) (fun _ _ i _ => l.length - (intOf i).toNat)
  case atStart => exact ⟨0, Nat.zero_le _, rfl, heap_alloc_new w _, (Below.refl _ w).alloc (Nat.le_refl _) _⟩
  case round =>
    obtain ⟨k, hk, rfl, hS, hB⟩ := hrel
    have hw := wf_orL (l := l.take k) (fun v hv => h v (List.mem_of_mem_take hv))
    by_cases hlt : k < l.length
    · have hv := h l[k] (List.getElem_mem hlt)
      have HSN := Lib.hid (show orL (l.take (k + 1)) = or2 (orL (l.take k)) l[k] by unfold orL; rw [List.take_succ_eq_append_getElem hlt, List.foldl_append]; rfl)
      have d0 := (hB.cell (p := ⟨bk, k * 4, none⟩) hb).trans (hc k hlt 0 (by omega))
      have d1 := (hB.cell (p := ⟨bk, k * 4 + 1, none⟩) hb).trans (hc k hlt 1 (by omega))
      have d2 := (hB.cell (p := ⟨bk, k * 4 + 2, none⟩) hb).trans (hc k hlt 2 (by omega))
      have d3 := (hB.cell (p := ⟨bk, k * 4 + 3, none⟩) hb).trans (hc k hlt 3 (by omega))
      have HL := Lib.hid (show w.heap.size < wr.heap.size from (Array.getElem?_eq_some_iff.1 hS).1)
      have hI : (k : Int) < (l.length : Int) := by omega
      generalize orL (l.take k) = ws at *
      generalize hvs : l[k] = vs at *
      clear hvs hc
      go_wp2
      go_loopw [5, 12] (fun _ i wv => ∃ j : Nat, j ≤ 4 ∧ i = .int .i64 (j : Int) ∧ SB wv w.heap.size (orK ws vs j) ∧ SB wv wr.heap.size vs ∧ Below w.heap.size w wv) (fun _ i _ => 4 - (intOf i).toNat)
      case atStart =>
        refine ⟨0, Nat.zero_le _, rfl, ?_, ?_, hB.alloc hB.size _⟩
        · exact (heap_alloc_old _ _ HL.out).trans hS
        · show (wr.alloc _).heap[wr.heap.size]? = some (.cells (wc vs) _ _)
          rw [heap_alloc_new, wc_eq hv]
      case round =>
        clear hS d0 d1 d2 d3
        obtain ⟨j, hj, rfl, hS, hV, hB'⟩ := hrel
        have hwj := (orK_spec hw hv j hj).1
        have HSJ := Lib.hid (show orK ws vs (j + 1) = (orK ws vs j).set j (word (orK ws vs j) j ||| word vs j) from rfl)
        have HO4 := Lib.hid (orK_four hw hv)
        by_cases hjl : j < 4
        · have c1 := hS.cell hwj hjl
          have f1 := Lib.frozen_of_heap hS j
          have c2 := SB.cell hV hv hjl
          have hx := u64_or_nat _ _ (word_lt hwj j) (word_lt hv j)
          have hJ : (j : Int) < 4 := by omega
          have hj' : ((j : Int)).toNat < 4 := hjl
          generalize hq : orK ws vs j = qs at *
          clear hq
          go_wp2
          go_region
          go_wp2
          go_roundw
          case rel => exact ⟨j + 1, by omega, by go_num, by rw [HSJ.out]; exact (SB.set hS _ _).drew, (heap_set_other hV (Nat.ne_of_lt HL.out) _ _), (hB'.setCell (Nat.le_refl _) _).drew⟩
          case measure => simp [intOf]; omega
        · obtain rfl : j = 4 := by omega
          have HS := Lib.hid hS
          clear hS hV hB
          go_wp2
          go_roundw
          case rel => exact ⟨k + 1, by omega, by go_num, by rw [HSN.out, ← HO4.out]; exact HS.out, hB'⟩
          case measure => simp [intOf]; omega
    · obtain rfl : k = l.length := by omega
      rw [List.take_of_length_le (Nat.le_refl _)] at *
      generalize hws : orL l = WS at *
      have HWS := Lib.hid hws
      clear hws
      have g0 := hS.cell hw (i := 0) (by omega)
      have g1 := hS.cell hw (i := 1) (by omega)
      have g2 := hS.cell hw (i := 2) (by omega)
      have g3 := hS.cell hw (i := 3) (by omega)
      have f0 := Lib.frozen_of_heap hS 0
      have f1 := Lib.frozen_of_heap hS 1
      have f2 := Lib.frozen_of_heap hS 2
      have f3 := Lib.frozen_of_heap hS 3
      have HSV := Lib.hid (SV_eq hw)
      have hS4 := hS.put hw hw
      have hB4 := put4_below hB (Nat.le_refl _) WS
      clear hS
      go_wp2
      rw [put4_eq]
      generalize put4 wr w.heap.size WS = W at *
      have k0 := hS4.cell hw (i := 0) (by omega)
      have k1 := hS4.cell hw (i := 1) (by omega)
      have k2 := hS4.cell hw (i := 2) (by omega)
      have k3 := hS4.cell hw (i := 3) (by omega)
      exact bodyPost_ret (v := SV WS) (by rw [HSV.out]; simp [results, Tryd.results16, go_sem, k0, k1, k2, k3]) rfl ⟨by rw [HWS.out], hB4⟩
end Go.Proofs.YtdjedjfanfbbcaaDoor.St
