/- What a replacer of three bytes builds. -/
import Derived.Test.YtinallojhkaogaaGreatDoorRqNPk
import Derived.Test.YtinallojhkaogaaGreatDoorRpBuildPk
namespace Go.Proofs.YtinallojhkaogaaGreatDoor.Rq
open Go.RowKit
open Go.Proofs.YtinallojhkaogaaGreatDoor.Rp
set_option linter.unusedVariables false
set_option linter.unusedSimpArgs false
/-- Its block lies behind B. -/
def Lo (B : Nat) (v : Value) : Prop := ∃ s n c, v = .slice (some ⟨s, 0, none⟩) n c ∧ B ≤ s
/-- The built one at q, of the bytes D. -/
structure Bq (B q : Nat) (D : List Tp) (w : World) : Prop where
  ex : ∃ M, Bs B q M (D.reverse.map fun x => S [x.o]) w ∧ (∀ c, (∀ y ∈ D, y.o ≠ c) → lk M c = noV) ∧ ∀ y ∈ D, Bytes w (lk M y.o) [y.p, y.q] ∧ Lo B (lk M y.o)
theorem Bq.drew {B q D w} (h : Bq B q D w) : Bq B q D w.drew := by
  obtain ⟨M, h1, h2, h3⟩ := h.ex
  exact ⟨M, h1.drew, h2, fun y hy => ⟨(h3 y hy).1.drew, (h3 y hy).2⟩⟩
set_option maxRecDepth 100000 in
set_option maxHeartbeats 1600000 in
theorem build_any (b d cap : Nat) (t : List Tp) (ht : t.length = 3) (hd : (t.map (·.o)).Nodup) (w : World)
    (h4 : w.cell? ⟨b, 4, none⟩ = some (.slice (some ⟨d, 0, none⟩) 6 cap)) (hc : ∀ j u, (fl t)[j]? = some u → w.cell? ⟨d, j, none⟩ = some u) :
    Calls Tryz.prog 110 #[.pointer (some ⟨b, 0, none⟩)] w fun e w' => ∃ q, e = .returned (.iface 217 (.pointer (some ⟨q, 0, none⟩))) ∧ Below w.heap.size w w' ∧ Bq w.heap.size q t w' := by
  obtain ⟨i0, hi, hz0, hz1, hz2⟩ := info_parts infoString
  have hz := zero_bsr.1
  have hsz := zero_bsr.2
  have hrz := rowZ_size
  have HCL := Lib.hid (fun (m : Nat) (hm : m < t.length) => And.intro (hc _ _ (fl_at t m hm).1) (hc _ _ (fl_at t m hm).2))
  have c0 := (HCL.out 0 (by omega)).1
  have c1 := (HCL.out 0 (by omega)).2
  have c2 := (HCL.out 1 (by omega)).1
  have c3 := (HCL.out 1 (by omega)).2
  have c4 := (HCL.out 2 (by omega)).1
  have c5 := (HCL.out 2 (by omega)).2
  have hd0 : d < w.heap.size := by
    unfold World.cell? at c0
    rcases Nat.lt_or_ge d w.heap.size with h | h
    · exact h
    · rw [Array.getElem?_eq_none h] at c0; cases c0
  have HD := Lib.hid hd
  have HT := Lib.hid ht
  clear hc hd
  simp only [Nat.mul_zero, Nat.zero_add, Nat.mul_one, show 1 + 1 = 2 from rfl, show 2 * 1 = 2 from rfl, show 2 * 2 = 4 from rfl, show 2 + 1 = 3 from rfl, show 4 + 1 = 5 from rfl] at c0 c1 c2 c3 c4 c5
  generalize t[0].o = o0 at c0
  generalize t[0].p = p0 at c1
  generalize t[0].q = q0 at c1
  generalize t[1].o = o1 at c2
  generalize t[1].p = p1 at c3
  generalize t[1].q = q1 at c3
  generalize t[2].o = o2 at c4
  generalize t[2].p = p2 at c5
  generalize t[2].q = q2 at c5
  clear ht
  go_enter Tryz.func110, Tryz.ntmps110
  go_wp2
  go_loop [4, 5] (fun a i => ∃ k : Nat, k ≤ 3 ∧ i = .int .i64 (2 * k : Nat) ∧ a = .bool (k == 0)) (fun _ i => 6 - (intOf i).toNat)
  case atStart => exact ⟨0, by omega, rfl, rfl⟩
  case round =>
    obtain ⟨k, hk, rfl, rfl⟩ := hrel
    obtain rfl | rfl | rfl | rfl : k = 0 ∨ k = 1 ∨ k = 2 ∨ k = 3 := by omega
    · go_wp2
      go_round
      case rel => exact ⟨1, by omega, rfl, rfl⟩
      case measure => simp [intOf]
    · go_wp2
      go_round
      case rel => exact ⟨2, by omega, rfl, rfl⟩
      case measure => simp [intOf]
    · go_wp2
      go_round
      case rel => exact ⟨3, by omega, rfl, rfl⟩
      case measure => simp [intOf]
    · go_wp2_with (at_make; refine wpList_make_own _ rfl _ _ 133 rfl w.heap.size 9 i0 _ 1 Tryz.underlying133 hi hz0 hz1 _ _ _ 3 rfl rfl (by decide) (by rw [hz2]; decide) (by unfold maxLen; omega) (Nat.le_refl _) ?_)
      intro w1 hown hgrow
      clear c0 c1 c2 c3 c4 c5
      have hst := rowT_store w1 (some ⟨w.heap.size, 0, none⟩) 0 3 hsz
      have HB0 := (Below.refl w.heap.size w).grown hgrow (Nat.le_refl _) (fun k hk => by cases hk)
      have hlt1 : w.heap.size < w1.heap.size := by
        rcases hown.2 with ⟨h, _⟩ | ⟨g, cp, cur, hv, _, hb, _⟩
        · cases h
        · have e : g = w.heap.size := by simp at hv; exact hv.1.symm
          subst e
          rcases Nat.lt_or_ge w.heap.size w1.heap.size with h | h
          · exact h
          · rw [Array.getElem?_eq_none h] at hb; cases hb
      have HS0 := Bs.start (w := w1) HB0.size hown ⟨_, _, _, rfl, hlt1⟩ (w' := w1.alloc (.cells (rowT (.slice (some ⟨w.heap.size, 0, none⟩) 0 3)) 216)) (heap_alloc_new w1 _) (fun k hk => heap_alloc_old w1 _ hk)
      have HS : Bq w.heap.size w1.heap.size (t.drop 3) (w1.alloc (.cells (rowT (.slice (some ⟨w.heap.size, 0, none⟩) 0 3)) 216)) := by
        rw [List.drop_eq_nil_of_le (by have := HT.out; omega)]
        exact ⟨[], HS0, fun _ _ => rfl, fun y hy => by cases hy⟩
      have HB1 := HB0.alloc HB0.size (.cells (rowT (.slice (some ⟨w.heap.size, 0, none⟩) 0 3)) 216)
      clear hgrow hown HS0
      go_wp2
      go_loopw [12] (fun i wr => ∃ k : Nat, k ≤ 3 ∧ i = .int .i64 (2 * (k : Int) - 2) ∧ Below w.heap.size w wr ∧ Bq w.heap.size w1.heap.size (t.drop k) wr) (fun i _ => (intOf i + 2).toNat)
      case atStart => exact ⟨3, by omega, rfl, HB1, HS⟩
      case round =>
        clear HS HB0 HB1 hst
        obtain ⟨k, hk, rfl, HB, HQ⟩ := hrel
        cases k with
        | zero =>
          have HF1 := Lib.hid HB
          have HF2 := Lib.hid (show Bq w.heap.size w1.heap.size t wr from HQ)
          clear HB HQ
          rw [show 2 * ((0 : Nat) : Int) - 2 = -2 from rfl]
          go_wp2
          go_ret
          exact ⟨w1.heap.size, rfl, HF1.out, HF2.out⟩
        | succ m =>
          have hm : m < t.length := by have := HT.out; omega
          have hdr : t.drop m = t[m] :: t.drop (m + 1) := List.drop_eq_getElem_cons hm
          have hno : ∀ y ∈ t.drop (m + 1), y.o ≠ t[m].o := by
            have h1 : ((t.drop m).map (·.o)).Nodup := by rw [List.map_drop]; exact HD.out.sublist (List.drop_sublist _ _)
            rw [hdr, List.map_cons] at h1
            exact fun y hy e => (List.nodup_cons.1 h1).1 (e ▸ List.mem_map.2 ⟨y, hy, rfl⟩)
          have hcl := HCL.out m hm
          rw [show 2 * ((m + 1 : Nat) : Int) - 2 = 2 * (m : Int) from by omega]
          generalize t[m] = x at *
          have HDR := Lib.hid hdr
          have hcO : wr.cell? ⟨d, 2 * m, none⟩ = some (S [x.o]) := (HB.cell (p := ⟨d, 2 * m, none⟩) hd0).trans hcl.1
          have hcN : wr.cell? ⟨d, 2 * m + 1, none⟩ = some (S [x.p, x.q]) := (HB.cell (p := ⟨d, 2 * m + 1, none⟩) hd0).trans hcl.2
          obtain ⟨M, HS, hM, hY⟩ := HQ.ex
          have hwd : w.heap.size ≤ wr.heap.size := HB.size
          have hMx : lk M x.o = noV := hM _ hno
          have hq0 : wr.cell? ⟨w1.heap.size, x.o.toNat, none⟩ = some noV := by rw [HS.cell x.o, hMx]
          obtain ⟨tv, hl, ho, hn⟩ := HS.last
          have HM := Lib.hid hM
          have HY := Lib.hid hY
          have HNO := Lib.hid hno
          clear hcl hdr HQ hM hY hno
          have hlD0 : (t.drop (m + 1)).length ≤ 3 := by rw [List.length_drop]; have := HT.out; omega
          generalize t.drop (m + 1) = D at *
          obtain ⟨o, p, q⟩ := x
          dsimp only at hcO hcN hq0 hMx HNO
          have hob := UInt8.toNat_lt o
          have hob' : ((o.toNat : Nat) : Int) < 256 := by omega
          have cv := conv1 o
          have hx : ((ByteArray.mk #[o])[0]'(Nat.zero_lt_one)) = o := rfl
          have heq : ∀ w, (binOp .eql 96 noV noV).run Tryz.prog w = .ok (.bool true) w := eq_nil
          have hm0 : (0 : Int) ≤ 2 * (m : Int) := by omega
          have hm1 : 2 * (m : Int) < 6 := by omega
          have hm2 : 2 * (m : Int) + 1 < 6 := by omega
          have hm3 : (0 : Int) ≤ 2 * (m : Int) + 1 := by omega
          have hkt : (2 * (m : Int)).toNat = 2 * m := by omega
          have hkt1 : (2 * (m : Int) + 1).toNat = 2 * m + 1 := by omega
          have hwr1 : IntKind.i64.wrap (2 * (m : Int) + 1) = 2 * (m : Int) + 1 := by rw [IntKind.wrap_i64]; omega
          have hwr2 : IntKind.i64.wrap (2 * (m : Int) - 2) = 2 * (m : Int) - 2 := by rw [IntKind.wrap_i64]; omega
          have HO := Lib.hid ho
          have HL := Lib.hid hl
          clear ho hn
          have hnew : ((wr.alloc (.cells #[.int .u8 (o.toNat : Int)] 5)).alloc (.cells #[S [o]] 9)).heap[wr.heap.size + 1]? = some (.cells #[S [o]] 9 (0, 0)) := by
            have := heap_alloc_new (wr.alloc (.cells #[.int .u8 (o.toNat : Int)] 5)) (.cells #[S [o]] 9)
            simpa using this
          have HNEW := Lib.hid (one_cell hnew)
          have hszB : w.heap.size ≤ ((wr.alloc (.cells #[.int .u8 (o.toNat : Int)] 5)).alloc (.cells #[S [o]] 9)).heap.size := by simp; omega
          have hlD : (D.reverse.map fun x => S [x.o]).length + 1 ≤ 100 := by rw [List.length_map, List.length_reverse]; omega
          clear hnew
          go_wp2_with (at_builtin; refine wpList_append_own _ rfl _ _ 133 rfl w.heap.size 9 i0 _ 1 16 Tryz.underlying133 hi hz0 hz1 hz2 rfl (by decide) _ _ _ rfl ((HO.out.alloc _).alloc _) ⟨wr.heap.size + 1, 0, none⟩ 1 1 [S [o]] rfl rfl HNEW.out (one_one _) (by unfold maxLen; omega) (by omega) hszB ?_)
          rintro v' w3 hown0 hgrow' -
          have hown' : w3.ownsRow w.heap.size 9 1 v' ((D.reverse.map fun x => S [x.o]).length + 1) (D.reverse.map (fun x => S [x.o]) ++ [S [o]]) := by rw [List.map_reverse, List.length_reverse, List.length_map]; exact hown0
          clear hown0
          have HS2 := (HS.alloc (.cells #[.int .u8 (o.toNat : Int)] 5)).alloc (.cells #[S [o]] 9)
          have hl2 := cell_past (HS.alloc (.cells #[.int .u8 (o.toNat : Int)] 5)).lt (cell_past HS.lt HL.out (.cells #[.int .u8 (o.toNat : Int)] 5)) (.cells #[S [o]] 9)
          have YA := fun y hy => (((HY.out y hy).1.alloc (.cells #[.int .u8 (o.toNat : Int)] 5)).alloc (.cells #[S [o]] 9)).more HS2 hl2 hgrow' (u := v')
          obtain ⟨HS3, cq, fq⟩ := HS2.more hszB hl2 (x := S [o]) hown' hgrow'
          have HB2 := (HB.alloc hwd (.cells #[.int .u8 (o.toNat : Int)] 5)).alloc (by simp; omega) (.cells #[S [o]] 9)
          have HB3 := ((HB2.grown hgrow' hszB (own_ge (HO.out))).setCell (p := ⟨w1.heap.size, 256, none⟩) HS.le v')
          obtain ⟨ao, n', cap', rfl⟩ := own_slice hown'
          have hcv := run_bytes_of_string (P := Tryz.prog) (w3.setCell ⟨w1.heap.size, 256, none⟩ (.slice ao n' cap')) 9 96 5 ⟨#[p, q]⟩ Tryz.underlying9 Tryz.underlying96 Tryz.underlying5
          obtain ⟨gc, hgc⟩ : ∃ gc, grownCap (w3.setCell ⟨w1.heap.size, 256, none⟩ (.slice ao n' cap')) (ByteArray.mk #[p, q]).size 0 5 = gc := ⟨_, rfl⟩
          rw [hgc] at hcv
          have hz4 : w.heap.size ≤ (w3.setCell ⟨w1.heap.size, 256, none⟩ (.slice ao n' cap')).heap.size := HB3.size
          have HZ5 := Lib.hid (show w.heap.size ≤ w3.heap.size from by rw [Deep.nblk_setCell] at hz4; exact hz4)
          have HS4 := HS3.alloc (.cells (bytesRow ⟨#[p, q]⟩ gc) 5 ((bytesRow ⟨#[p, q]⟩ gc).size, (bytesRow ⟨#[p, q]⟩ gc).size + 1))
          have HB4 := HB3.alloc hz4 (.cells (bytesRow ⟨#[p, q]⟩ gc) 5 ((bytesRow ⟨#[p, q]⟩ gc).size, (bytesRow ⟨#[p, q]⟩ gc).size + 1))
          have cq4 : ((w3.setCell ⟨w1.heap.size, 256, none⟩ (.slice ao n' cap')).alloc (.cells (bytesRow ⟨#[p, q]⟩ gc) 5 ((bytesRow ⟨#[p, q]⟩ gc).size, (bytesRow ⟨#[p, q]⟩ gc).size + 1))).cell? ⟨w1.heap.size, o.toNat, none⟩ = some noV := by rw [HS4.cell o, hMx]
          have fq4 := HS4.frozen o.toNat
          have Y := bytes_new (w3.setCell ⟨w1.heap.size, 256, none⟩ (.slice ao n' cap')) p q gc
          rw [Deep.nblk_setCell] at Y
          have HF1 := Lib.hid (HB4.setCell (p := ⟨w1.heap.size, o.toNat, none⟩) HS.le (.slice (some ⟨w3.heap.size, 0, none⟩) 2 gc)).drew
          have HF2 := HS4.put o (.slice (some ⟨w3.heap.size, 0, none⟩) 2 gc)
          have HF3 := Y.put HS4 o (.slice (some ⟨w3.heap.size, 0, none⟩) 2 gc)
          have HF4 := fun y hy => ((YA y hy).alloc (.cells (bytesRow ⟨#[p, q]⟩ gc) 5 ((bytesRow ⟨#[p, q]⟩ gc).size, (bytesRow ⟨#[p, q]⟩ gc).size + 1))).put HS4 o (.slice (some ⟨w3.heap.size, 0, none⟩) 2 gc)
          have HF := Lib.hid (Bq.drew (⟨(o, _) :: M, (by rw [List.reverse_cons, List.map_append]; exact HF2), fun c hc => (by rw [lk, if_neg (fun e => hc _ (List.mem_cons_self ..) e.symm)]; exact HM.out c fun y hy => hc y (List.mem_cons_of_mem _ hy)), fun y hy => (by
            rcases List.mem_cons.1 hy with rfl | hy'
            · rw [lk, if_pos rfl]; exact ⟨HF3, _, _, _, rfl, HZ5.out⟩
            · rw [lk, if_neg (HNO.out y hy')]; exact ⟨HF4 y hy', (HY.out y hy').2⟩)⟩ : Bq w.heap.size w1.heap.size (⟨o, p, q⟩ :: D) _))
          have hob3 : ((ByteArray.mk #[p, q]).size) = 2 := rfl
          clear YA HS HS2 HS3 HS4 HB HB2 HB3 HB4 Y hown' hgrow' HNEW hl2 HF2 HF3 HF4
          go_wp2
          go_roundw
          case rel => exact ⟨m, by omega, by go_num, HF1.out, by rw [HDR.out]; exact HF.out⟩
          case measure => simp [intOf]; omega
end Go.Proofs.YtinallojhkaogaaGreatDoor.Rq
