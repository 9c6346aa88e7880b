/- The reference's sets: Words. -/
import Derived.Test.YtmlgbjdohijlnaaDoorSr1
namespace Go.Proofs.YtmlgbjdohijlnaaDoor.St
open Go.RowKit
set_option linter.unusedVariables false
set_option linter.unusedSimpArgs false
theorem wc_size {ws : List Nat} (h : Wf ws) : (wc ws).size = 4 := by simp [wc, h.len]
theorem wc_one (ws : List Nat) : (wc ws).all (·.oneCell') = true := by
  rw [Array.all_eq_true_iff_forall_mem]
  intro v hv
  simp only [wc, List.mem_toArray, List.mem_map] at hv
  obtain ⟨j, _, rfl⟩ := hv
  rfl
theorem size_at4 : (Tryd.prog.info? 24).map (·.size) = some 4 := by kernel_rfl
theorem answer4 {fn : Func} {p : Tmp} (h : fn.results = #[.cell p 24]) {tmps : Array Value} {w : World} {g : Nat} {ws : List Nat} (hw : Wf ws) (hp : tmps.getD p undef = .pointer (some ⟨g, 0, none⟩)) (hg : S4 w g ws) : (results fn tmps).run Tryd.prog w = .ok (SV ws) w :=
  results_cell_row h tmps w g _ (wc ws) (0, 0) (.array 4 23) hp hg Tryd.underlying24 rfl (by rw [wc_size hw]; exact size_at4)
theorem tail_row4 {id : Nat} {o1 o2 : Oper} {s d k : Nat} {Q : Exit → Act → World → Prop} {a : Act} {w : World} {src dst : Nat} {f g : List Nat} (hf : Wf f) (hg : Wf g) (g1 : o1.guard = none) (g2 : o2.guard = none)
    (h1 : o1.op = .load 24 (.tmp s)) (h2 : o2.op = .store 24 (.tmp d) (.tmp k)) (hk : o1.dst = some k) (hk2 : o2.dst = none)
    (hs : a.eval (.tmp s) = .pointer (some ⟨src, 0, none⟩)) (hd : (a.put (some k) (SV f)).eval (.tmp d) = .pointer (some ⟨dst, 0, none⟩)) (hv : (a.put (some k) (SV f)).eval (.tmp k) = SV f)
    (hS : S4 w src f) (hD : S4 w dst g) (h : Q .normal (a.put (some k) (SV f)) (w.setRow dst (wc f))) : (Code.region id #[o1, o2] false).wp Tryd.prog Q a w := by
  refine wp_region_list ?_
  refine wpList_load_row g1 24 (.tmp s) h1 src hs _ (wc f) (0, 0) (.array 4 23) hS Tryd.underlying24 rfl (by rw [wc_size hf]; exact size_at4) ?_
  rw [hk]
  refine wpList_store_row g2 24 (.tmp d) (.tmp k) h2 dst (wc f) hd hv _ (wc g) hD (by rw [wc_size hf]; exact size_at4) (by rw [wc_size hf, wc_size hg]) (wc_one f) ?_
  rw [hk2]
  exact wpList_nil h
theorem toldK_full {ws : List Nat} (h : Wf ws) : toldK ws 256 = zeroW := by
  obtain ⟨h1, h2⟩ := toldK_spec h 256 (Nat.le_refl _)
  apply ext_word h1 wf_zero
  intro j hj
  rw [h2 j hj, show min (256 - 64 * j) 64 = 64 from by omega, Nat.div_eq_of_lt (word_lt h j)]
  match j, hj with
  | 0, _ => rfl
  | 1, _ => rfl
  | 2, _ => rfl
  | 3, _ => rfl
/-- One bit more from behind. -/
theorem told_back {ws : List Nat} (h : Wf ws) {n : Nat} (hn : n < 256) (v : Nat) (hv : v = if mem ws n = true then word (toldK ws (n + 1)) (n / 64) * 2 + 1 else word (toldK ws (n + 1)) (n / 64) * 2) :
    (toldK ws (n + 1)).set (n / 64) v = toldK ws n := by
  obtain ⟨h1, h2⟩ := toldK_spec h n (by omega)
  obtain ⟨h3, h4⟩ := toldK_spec h (n + 1) (by omega)
  have hb := told_bit h hn
  have key : word (toldK ws n) (n / 64) = v := by
    have e : word (toldK ws (n + 1)) (n / 64) = word (toldK ws n) (n / 64) / 2 := by
      rw [toldK, word_set h1 _ _ _ (by omega), if_pos rfl]
    rw [hv, e]
    cases hm : mem ws n
    · rw [hm, beq_eq_false_iff_ne] at hb
      rw [if_neg (by simp)]; omega
    · rw [hm, beq_iff_eq] at hb
      rw [if_pos rfl]; omega
  have hlt := word_lt h1 (n / 64)
  apply ext_word (wf_set h3 _ _ (by omega)) h1
  intro j hj
  rw [word_set h3 _ _ _ (by omega)]
  by_cases he : j = n / 64
  · rw [if_pos he, he, key]
  · rw [if_neg he, h4 j hj, h2 j hj]
    congr 2; omega
theorem word_double {ws : List Nat} (h : Wf ws) {n : Nat} (hn : n < 256) : word (toldK ws (n + 1)) (n / 64) * 2 + 1 < 2 ^ 64 := by
  obtain ⟨h1, h2⟩ := toldK_spec h n (by omega)
  have e : word (toldK ws (n + 1)) (n / 64) = word (toldK ws n) (n / 64) / 2 := by
    rw [toldK, word_set h1 _ _ _ (by omega), if_pos rfl]
  have hlt := word_lt h1 (n / 64)
  omega
set_option maxRecDepth 100000 in
set_option maxHeartbeats 400000 in
theorem refWords_any (ws : List Nat) (w : World) (h : Wf ws) :
    Calls Tryd.prog 18 #[BV (mem ws)] w fun e w' => e = .returned (SV ws) ∧ Below w.heap.size w w' := by
  go_enter Tryd.func18, Tryd.ntmps18
  refine wp_seq_k fun K0 hK => ?_
  have HK := Lib.hid hK; clear hK
  go_wp2
  refine HK.out _ _ ?_
  clear HK K0
  have HO := Lib.hid (show BB ((w.alloc (Obj.cells (bc (mem ws)) 29)).alloc (Obj.cells #[Value.int IntKind.u64 0, Value.int IntKind.u64 0, Value.int IntKind.u64 0, Value.int IntKind.u64 0] 24)) w.heap.size (mem ws) from (two_new w _ _).1)
  have HA := Lib.hid (show S4 ((w.alloc (Obj.cells (bc (mem ws)) 29)).alloc (Obj.cells #[Value.int IntKind.u64 0, Value.int IntKind.u64 0, Value.int IntKind.u64 0, Value.int IntKind.u64 0] 24)) (w.heap.size + 1) zeroW from (two_new w _ _).2)
  have HB := Lib.hid (show Below w.heap.size w ((w.alloc (Obj.cells (bc (mem ws)) 29)).alloc (Obj.cells #[Value.int IntKind.u64 0, Value.int IntKind.u64 0, Value.int IntKind.u64 0, Value.int IntKind.u64 0] 24)) from ((Below.refl w.heap.size w).alloc (Nat.le_refl _) _).alloc (alloc_le _ _) _)
  generalize (w.alloc (Obj.cells (bc (mem ws)) 29)).alloc (Obj.cells #[Value.int IntKind.u64 0, Value.int IntKind.u64 0, Value.int IntKind.u64 0, Value.int IntKind.u64 0] 24) = W0 at *
  refine wp_seq_k fun K1 hK => ?_
  have HK := Lib.hid hK; clear hK
  go_wp2
  refine HK.out _ _ ?_
  clear HK K1
  have HS := Lib.hid (show S4 (W0.alloc (Obj.cells #[Value.int IntKind.u64 0, Value.int IntKind.u64 0, Value.int IntKind.u64 0, Value.int IntKind.u64 0] 24)) W0.heap.size (toldK ws 256) from by
    rw [toldK_full h]; exact heap_alloc_new _ _)
  have HO2 := Lib.hid (alloc_raw HO.out (Obj.cells #[Value.int IntKind.u64 0, Value.int IntKind.u64 0, Value.int IntKind.u64 0, Value.int IntKind.u64 0] 24))
  have HA2 := Lib.hid (alloc_raw HA.out (Obj.cells #[Value.int IntKind.u64 0, Value.int IntKind.u64 0, Value.int IntKind.u64 0, Value.int IntKind.u64 0] 24))
  have HB2 := Lib.hid (HB.out.alloc HB.out.size (Obj.cells #[Value.int IntKind.u64 0, Value.int IntKind.u64 0, Value.int IntKind.u64 0, Value.int IntKind.u64 0] 24))
  have hlt0 : w.heap.size + 1 < W0.heap.size := (Array.getElem?_eq_some_iff.1 HA.out).1
  clear HA HB HO
  generalize W0.alloc (Obj.cells #[Value.int IntKind.u64 0, Value.int IntKind.u64 0, Value.int IntKind.u64 0, Value.int IntKind.u64 0] 24) = W1 at *
  generalize W0.heap.size = bo at *
  refine wp_seq_k fun K2 hK => ?_
  have HK := Lib.hid hK; clear hK
  go_wp2
  go_loopw [4] (fun i wr => ∃ (m : Nat) (j : Int), m ≤ 256 ∧ j = (m : Int) - 1 ∧ i = .int .i64 j ∧ BB wr w.heap.size (mem ws) ∧ S4 wr (w.heap.size + 1) zeroW ∧ S4 wr bo (toldK ws m) ∧ Below w.heap.size w wr) (fun i _ => (intOf i + 1).toNat)
  case atStart => exact ⟨256, 255, Nat.le_refl _, rfl, rfl, HO2.out, HA2.out, HS.out, HB2.out⟩
  case round =>
    obtain ⟨m, j, hm, hj, rfl, hO, hA, hS, hB⟩ := hrel
    cases m with
    | zero =>
      obtain rfl : j = -1 := by simpa using hj
      clear hj hm
      have HS4 := Lib.hid (show S4 wr bo ws from hS)
      have HA4 := Lib.hid hA
      have HR := Lib.hid (show S4 (wr.setRow (w.heap.size + 1) (wc ws)) (w.heap.size + 1) ws from heap_row_at hA _)
      have HB3 := Lib.hid (below_setRow hB (Nat.le_succ _) (wc ws))
      clear hA hO hB hS
      go_wp2
      refine HK.out _ _ ?_
      clear HK
      refine wp_seq_k fun K3 hK => ?_
      refine tail_row4 h wf_zero rfl rfl rfl rfl rfl rfl rfl rfl rfl HS4.out HA4.out ?_
      refine hK _ _ ?_
      go_wp2
      refine bodyPost_ret (v := SV ws) ?_ ?_ ?_
      · exact answer4 rfl h rfl HR.out
      · rfl
      · exact ⟨rfl, HB3.out⟩
    | succ n =>
      obtain rfl : j = (n : Int) := by omega
      have hn : n < 256 := by omega
      clear hj
      have hw := (toldK_spec h (n + 1) (by omega)).1
      have HD := Lib.hid (word_double h hn)
      have HT := Lib.hid (fun v => told_back h hn v)
      have c1 := hS.cell hw (i := n / 64) (by omega)
      have f1 := Lib.frozen_of_heap hS (n / 64)
      have c2 := hO.cell hn
      have HO3 := Lib.hid hO
      have HA3 := Lib.hid hA
      have HB3 := Lib.hid hB
      have HS3 := Lib.hid hS
      have hge : (0 : Int) ≤ (n : Int) := by omega
      have em : IntKind.u64.wrap ((word (toldK ws (n + 1)) (n / 64) : Int) * 2) = ((word (toldK ws (n + 1)) (n / 64) * 2 : Nat) : Int) := by
        have := HD.out
        rw [IntKind.wrap_u64]; omega
      have ea : IntKind.u64.wrap (((word (toldK ws (n + 1)) (n / 64) * 2 : Nat) : Int) + 1) = ((word (toldK ws (n + 1)) (n / 64) * 2 + 1 : Nat) : Int) := by
        have := HD.out
        rw [IntKind.wrap_u64]; omega
      clear hA hO hB hS
      cases hq : mem ws n
      · rw [hq] at c2
        have HQ := Lib.hid hq
        clear hq ea
        go_wp2
        go_roundw
        case rel =>
          have e0 : ((word (toldK ws (n + 1)) (n / 64) : Int) * 2) = ((word (toldK ws (n + 1)) (n / 64) * 2 : Nat) : Int) := by omega
          rw [e0]
          refine ⟨n, (n : Int) - 1, by omega, rfl, rfl, ?_, ?_, ?_, ?_⟩
          · exact heap_set_other HO3.out (by omega) _ _
          · exact heap_set_other HA3.out (by omega) _ _
          · rw [← HT.out (word (toldK ws (n + 1)) (n / 64) * 2) (by rw [HQ.out]; simp)]; exact S4.set HS3.out _ _
          · exact HB3.out.setCell (p := ⟨bo, n / 64, none⟩) (by show w.heap.size ≤ bo; omega) _
        case measure => (simp [intOf] <;> omega)
      · rw [hq] at c2
        have HQ := Lib.hid hq
        clear hq
        go_wp2
        go_roundw
        case rel =>
          have e0 : ((word (toldK ws (n + 1)) (n / 64) : Int) * 2) = ((word (toldK ws (n + 1)) (n / 64) * 2 : Nat) : Int) := by omega
          have e1 : ((word (toldK ws (n + 1)) (n / 64) : Int) * 2 + 1) = ((word (toldK ws (n + 1)) (n / 64) * 2 + 1 : Nat) : Int) := by omega
          have ew : IntKind.u64.wrap ((word (toldK ws (n + 1)) (n / 64) * 2 + 1 : Nat) : Int) = ((word (toldK ws (n + 1)) (n / 64) * 2 + 1 : Nat) : Int) := by
            have := HD.out
            rw [IntKind.wrap_u64]; omega
          rw [e1, ew, e0]
          refine ⟨n, (n : Int) - 1, by omega, rfl, rfl, ?_, ?_, ?_, ?_⟩
          · exact heap_set_other (heap_set_other HO3.out (by omega) _ _) (by omega) _ _
          · exact heap_set_other (heap_set_other HA3.out (by omega) _ _) (by omega) _ _
          · rw [← HT.out (word (toldK ws (n + 1)) (n / 64) * 2 + 1) (by rw [HQ.out]; simp), ← List.set_set (word (toldK ws (n + 1)) (n / 64) * 2)]; exact S4.set (S4.set HS3.out _ _) _ _
          · exact (HB3.out.setCell (p := ⟨bo, n / 64, none⟩) (by show w.heap.size ≤ bo; omega) _).setCell (p := ⟨bo, n / 64, none⟩) (by show w.heap.size ≤ bo; omega) _
        case measure => (simp [intOf] <;> omega)
end Go.Proofs.YtmlgbjdohijlnaaDoor.St
