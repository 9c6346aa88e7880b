/- The built replacer's Replace. -/
import Derived.Test.YtinallojhkaogaaGreatDoorRqDPk
import Derived.Test.YtinallojhkaogaaGreatDoorRpPlainPk
import Derived.Test.YtinallojhkaogaaGreatDoorShCPk
import Derived.Deep.QuietTactic
import Derived.BigQuiet
import Derived.RegionTactic
import Derived.BigRegion
import Derived.Laws.CopyRow
namespace Go.Proofs.YtinallojhkaogaaGreatDoor.Rq
open Go.RowKit
open Go.Proofs.YtinallojhkaogaaGreatDoor.Rp (S noV lk heap_set_same bv Fill Bytes ret1 lt_of_heap)
set_option linter.unusedVariables false
set_option linter.unusedSimpArgs false
theorem infoByte : (Tryz.prog.info? 5).map (fun i => (i.zero, i.size, i.bytes)) = some (some (.int .u8 0), 1, 1) := by kernel_rfl
theorem heap_row_at {w : World} {b : Nat} {c : Array Value} {t : TypeId} {f : Nat × Nat} (h : w.heap[b]? = some (.cells c t f)) (c' : Array Value) : (w.setRow b c').heap[b]? = some (.cells c' t f) := by
  simp only [World.setRow, Array.getElem?_modify, if_true, h]; rfl
theorem below_row {B b : Nat} {w0 w : World} (h : Below B w0 w) (hb : B ≤ b) (c : Array Value) : Below B w0 (w.setRow b c) where
  os := h.os
  tape := h.tape
  output := h.output
  size := by simpa [World.setRow] using h.size
  block := by
    intro k hk
    simp only [World.setRow, Array.getElem?_modify]
    rw [if_neg (by omega)]
    exact h.block k hk
theorem below_drewN {B : Nat} {a w : World} (h : Below B a w) (n : Nat) : Below B a (w.drewN n) := ⟨h.os, h.tape, h.output, h.size, h.block⟩
theorem byte_of {B q : Nat} {t : List Tp} {w : World} (h : Bq B q t w) : q < w.heap.size ∧ ∀ c : UInt8, (at1 t c = none ∧ w.cell? ⟨q, c.toNat, none⟩ = some noV) ∨
    ∃ x s k cs fz, at1 t c = some x ∧ x ∈ t ∧ x.o = c ∧ w.cell? ⟨q, c.toNat, none⟩ = some (.slice (some ⟨s, 0, none⟩) 2 k) ∧ w.heap[s]? = some (.cells cs 5 fz) ∧ cs[0]? = some (bv x.p) ∧ cs[1]? = some (bv x.q) := by
  obtain ⟨M, h1, h2, h3⟩ := h.ex
  refine ⟨h1.lt, fun c => ?_⟩
  cases e : at1 t c with
  | none =>
    refine Or.inl ⟨rfl, ?_⟩
    rw [h1.cell c, h2 c (at1_none e)]
  | some x =>
    obtain ⟨m1, m2⟩ := at1_some e
    obtain ⟨s, k, cs, fz, hv, hs, hb⟩ := (h3 x m1).1
    rw [m2] at hv
    exact Or.inr ⟨x, s, k, cs, fz, rfl, m1, m2, by rw [h1.cell c, hv]; rfl, hs, hb 0 (by simp), hb 1 (by simp)⟩
set_option maxRecDepth 100000 in
set_option maxHeartbeats 1600000 in
theorem bsr_any (B q : Nat) (t : List Tp) (ht3 : t.length = 3) (hnd : (t.map (·.o)).Nodup) (l : List UInt8) (w : World) (HQ : Bq B q t w) (hl : l.length ≤ 100000) :
    Calls Tryz.prog 226 #[.pointer (some ⟨q, 0, none⟩), S l] w fun e w' => e = .returned (S (rep t l)) ∧ Below w.heap.size w w' := by
  obtain ⟨i0, hi, hz0, hz1, hz2⟩ := info_parts infoByte
  have hsz : (ByteArray.mk l.toArray).size = l.length := by simp [ByteArray.size]
  obtain ⟨hql, hat⟩ := byte_of HQ
  obtain ⟨M, HS, -, -⟩ := HQ.ex
  obtain ⟨tv, htv, ho, hn⟩ := HS.last
  have hl3 : (t.reverse.map fun x => S [x.o]).length = 3 := by simp [ht3]
  rw [hl3] at ho
  obtain ⟨g, cap, cur, rfl, hgB, hg, hc1, hc2, hc3, hc4⟩ : ∃ g cap cur, tv = .slice (some ⟨g, 0, none⟩) 3 cap ∧ B ≤ g ∧ w.heap[g]? = some (.cells cur 9 (0, 0)) ∧ 3 ≤ cap ∧ cap ≤ maxLen ∧ cur.size = cap * 1 ∧ cur.toList.take (3 * 1) = t.reverse.map fun x => S [x.o] := by
    rcases ho.2 with ⟨_, h⟩ | h
    · simp at h
    · exact h
  have hcg : ∀ k (hk : k < t.reverse.length), w.cell? ⟨g, k, none⟩ = some (S [(t.reverse[k]).o]) := fun k hk => by
    have hk3 : k < 3 * 1 := by simp at hk; omega
    rw [Lib.cell_of_heap hg, ← Array.getElem?_toList]
    have := congrArg (fun z => z[k]?) hc4
    simp only [List.getElem?_take, if_pos hk3, List.getElem?_map, List.getElem?_eq_getElem hk, Option.map_some] at this
    exact this
  have hgl := lt_of_heap hg
  have HAT := Lib.hid hat
  have HCG := Lib.hid hcg
  have HT := Lib.hid ht3
  have HND := Lib.hid hnd
  clear hat ho hc3 hc4 hg hn hc2 hc1 hcg hl3 HS HQ hnd M
  by_cases hA : 24 ≤ l.length
  · have hA' : (24 : Int) ≤ l.length := by omega
    go_enter Tryz.func226, Tryz.ntmps226
    go_wp2
    go_loopw [5, 6, 32] (fun ns an i wr => ∃ k : Nat, k ≤ 3 ∧ i = .int .i64 (k : Nat) ∧ ns = .int .i64 ((l.length + cnt t l k : Nat)) ∧ an = .bool (decide (cnt t l k ≠ 0)) ∧ Below w.heap.size w wr ∧ wr.heap.size = w.heap.size) (fun _ _ i _ => 3 - (intOf i).toNat)
    case atStart => exact ⟨0, by omega, rfl, by simp [cnt], by simp [cnt], Below.refl _ _, rfl⟩
    case round =>
      obtain ⟨k, hk, rfl, rfl, rfl, HB, hszr⟩ := hrel
      by_cases hk3 : k < 3
      · have hkl : k < t.reverse.length := by rw [List.length_reverse, HT.out]; exact hk3
        have hck := HCG.out k hkl
        have hcn := cnt_next l hkl
        have hbase : cnt t l k ≤ l.length := cnt_le HND.out l (by have := HT.out; omega)
        have hxt : t.reverse[k] ∈ t := List.mem_reverse.1 (List.getElem_mem hkl)
        generalize t.reverse[k] = y at *
        rcases HAT.out y.o with ⟨hno, _⟩ | ⟨x, s, kc, cs, fz, hso, hxm, hxo, hc0, hs, hp0, hp1⟩
        · exact absurd rfl (at1_none hno y hxt)
        obtain ⟨yo, yp, yq⟩ := y
        dsimp only at hck hcn hc0
        have cO : wr.cell? ⟨g, k, none⟩ = some (S [yo]) := (HB.cell (p := ⟨g, k, none⟩) hgl).trans hck
        have cS : wr.cell? ⟨q, yo.toNat, none⟩ = some (.slice (some ⟨s, 0, none⟩) 2 kc) := (HB.cell (p := ⟨q, yo.toNat, none⟩) hql).trans hc0
        have hob := UInt8.toNat_lt yo
        have hob' : ((yo.toNat : Nat) : Int) < 256 := by omega
        have hx : ((ByteArray.mk #[yo])[0]'(Nat.zero_lt_one)) = yo := rfl
        have hcb : Lib.countByte (ByteArray.mk l.toArray).data.toList yo = l.count yo := by simp [Lib.countByte]
        have hcl := List.count_le_length (a := yo) (l := l)
        have HCN := Lib.hid hcn
        have hk0 : (0 : Int) ≤ (k : Int) := by omega
        have hk1 : (k : Int) < 3 := by omega
        clear hck hcn hxt hso hxm hxo hc0 hs hp0 hp1
        generalize cnt t l k = b0 at *
        have HCB := Lib.hid hcb
        clear hcb
        generalize l.count yo = m at *
        by_cases hm : m = 0
        · subst hm
          go_wp2_with (go_at_call 228; refine (Tryz.strings_Count_one ⟨l.toArray⟩ yo _).mono ?_; rintro e w' ⟨rfl, hw⟩; have hw2 := hw.symm; clear hw; subst hw2; rw [HCB.out])
          go_roundw
          case rel => exact ⟨k + 1, by omega, by go_num, by rw [HCN.out]; simp, by rw [HCN.out]; simp, HB, hszr⟩
          case measure => simp [intOf]; omega
        · have hm' : (((m : Nat) : Int) == 0) = false := by rw [beq_eq_false_iff_ne]; omega
          go_wp2_with (go_at_call 228; refine (Tryz.strings_Count_one ⟨l.toArray⟩ yo _).mono ?_; rintro e w' ⟨rfl, hw⟩; have hw2 := hw.symm; clear hw; subst hw2; rw [HCB.out])
          go_quiet (fail)
          go_wp2
          go_roundw
          case rel => exact ⟨k + 1, by omega, by go_num, by rw [HCN.out]; go_num, by rw [HCN.out]; simp [hm], below_drewN HB nq, hszr⟩
          case measure => simp [intOf]; omega
      · obtain rfl : k = 3 := by omega
        have HBr := HB
        have hm : cnt t l 3 = l.countP (hit t) := by have := cnt_all HND.out l; rwa [HT.out] at this
        have hmk : cnt t l 3 ≤ l.length := by rw [hm]; exact List.countP_le_length
        generalize cnt t l 3 = m at *
        replace hm := hm.symm
        by_cases h0 : m = 0
        · subst h0
          have HM := Lib.hid hm
          clear hm
          go_wp2
          go_ret
          exact ⟨ret1 (by rw [rep_none HM.out]; rfl), HBr⟩
        · go_wp2_with (at_make; refine wpList_make_full _ rfl _ _ 96 rfl w.heap.size 5 i0 _ 1 Tryz.underlying96 hi hz0 hz1 _ _ _ _ (l.length + m) rfl rfl (by omega) (by omega) (by rw [hz2]; omega) (by unfold maxLen; omega) (by omega) ?_)
          intro w2 hown hgrow
          try simp only [hszr] at hown
          have HN0 := Lib.hid (show (rep t l).length = l.length + m from by rw [rep_len, hm])
          have HB0 := HBr.grown hgrow (by omega) (fun k hk => by cases hk)
          obtain ⟨cur, hcur, hcs⟩ : ∃ cur, w2.heap[w.heap.size]? = some (.cells cur 5 (0, 0)) ∧ cur.size = l.length + m := by
            rcases hown.2 with ⟨h, _⟩ | ⟨g', cp, cur, hv, _, hb, _, _, hs, _⟩
            · cases h
            · simp at hv
              obtain ⟨rfl, rfl⟩ := hv
              exact ⟨cur, hb, by omega⟩
          have HF0 : Hid (∃ cur, w2.heap[w.heap.size]? = some (.cells cur 5 (0, 0)) ∧ Fill cur (l.length + m) (rep t (l.take 0))) := Lib.hid ⟨cur, hcur, hcs, by simp [rep]⟩
          clear hown hgrow hcur hcs hm
          go_wp2
          go_loopw [13, 14] (fun j i wr => ∃ k, k ≤ l.length ∧ i = .int .i64 (k : Nat) ∧ j = .int .i64 ((rep t (l.take k)).length : Nat) ∧ Below w.heap.size w wr ∧ Hid (∃ cur, wr.heap[w.heap.size]? = some (.cells cur 5 (0, 0)) ∧ Fill cur (l.length + m) (rep t (l.take k)))) (fun _ i _ => l.length - (intOf i).toNat)
          case atStart => exact ⟨0, Nat.zero_le _, rfl, rfl, HB0, HF0⟩
          case round =>
            clear HB0 HF0
            obtain ⟨k, hk, rfl, rfl, HB, HF⟩ := hrel
            by_cases hlt : k < l.length
            · have hx : ((ByteArray.mk l.toArray)[k]'hlt) = l[k] := rfl
              have RT := rep_take t hlt
              have FITS := rep_fits t hlt
              rw [HN0.out] at FITS
              generalize rep t (l.take k) = r at *
              generalize l[k] = c at *
              have hcb := UInt8.toNat_lt c
              have hcb' : ((c.toNat : Nat) : Int) < 256 := by omega
              rcases HAT.out c with ⟨hno, hc0⟩ | ⟨x, s, kc, cs, fz, hso, hxm, hxo, hc0, hs, hp0, hp1⟩
              · have hc : wr.cell? ⟨q, c.toNat, none⟩ = some noV := (HB.cell (p := ⟨q, c.toNat, none⟩) hql).trans hc0
                rw [rp_none hno] at RT FITS
                obtain ⟨cur, hcur, hfill⟩ := HF.out
                have hfit : r.length < l.length + m := by simp at FITS; omega
                have hcj : wr.cell? ⟨w.heap.size, r.length, none⟩ = some (cur[r.length]'(by rw [hfill.1]; exact hfit)) := by rw [Lib.cell_of_heap hcur]; exact Array.getElem?_eq_getElem _
                have hfj : wr.frozen? ⟨w.heap.size, r.length, none⟩ = false := Lib.frozen_of_heap hcur _
                have hfit' : ((r.length : Nat) : Int) < ((l.length : Nat) : Int) + ((m : Nat) : Int) := by omega
                generalize cur[r.length]'(by rw [hfill.1]; exact hfit) = old at hcj
                have RTH := Lib.hid RT
                have HFN := Lib.hid (hfill.one hfit c)
                have HROW := Lib.hid (heap_set_same (i := r.length) (v := .int .u8 (c.toNat : Int)) hcur)
                have HBN := Lib.hid (HB.setCell (p := ⟨w.heap.size, r.length, none⟩) (Nat.le_refl _) (.int .u8 (c.toNat : Int)))
                clear RT hfill hcur HF hno hc0
                go_wp2
                go_roundw
                case rel => exact ⟨k + 1, by omega, by go_num, by rw [RTH.out, List.length_append]; go_num, HBN.out, Lib.hid ⟨_, HROW.out, by rw [RTH.out]; exact HFN.out⟩⟩
                case measure => simp [intOf]; omega
              · have hc : wr.cell? ⟨q, c.toNat, none⟩ = some (.slice (some ⟨s, 0, none⟩) 2 kc) := (HB.cell (p := ⟨q, c.toNat, none⟩) hql).trans hc0
                rw [rp_some hso] at RT FITS
                obtain ⟨cur, hcur, hfill⟩ := HF.out
                have hsn : s < w.heap.size := lt_of_heap hs
                have hsrc : ∀ j v, [bv x.p, bv x.q][j]? = some v → wr.drew.cell? ((⟨s, 0, none⟩ : Addr).add j) = some v := by
                  intro j v hj
                  rw [Addr.add_lit, World.cell?_drew, HB.cell (p := ⟨s, 0 + j, none⟩) hsn, Lib.cell_of_heap hs]
                  match j, hj with
                  | 0, hj => exact hp0.trans hj
                  | 1, hj => exact hp1.trans hj
                have hfit : r.length + 2 ≤ l.length + m := by simpa using FITS
                have hcopy := run_copy_row (P := Tryz.prog) wr.drew 96 96 3 5 w.heap.size r.length (l.length + m - r.length) (l.length + m - r.length) ⟨s, 0, none⟩ 2 kc cur 5 [bv x.p, bv x.q] Tryz.underlying96 (by rw [hi]; simp [hz1]) hcur (by show 2 = min 2 (l.length + m - r.length); omega) hsrc (by simp; have := hfill.1; omega) (by simp [bv, Value.oneCell'])
                have RTH := Lib.hid RT
                have erow : cur.toList.take r.length ++ [bv x.p, bv x.q] ++ cur.toList.drop (r.length + 2) = cur.toList.take r.length ++ bv x.p :: bv x.q :: cur.toList.drop (r.length + 2) := by simp
                have hfn := hfill.two x.p x.q hfit
                rw [erow] at hfn
                have HFN := Lib.hid hfn
                have HROW := Lib.hid (heap_row_at (w := wr.drew) hcur (cur.toList.take r.length ++ bv x.p :: bv x.q :: cur.toList.drop (r.length + 2)).toArray)
                have HBN := Lib.hid (below_row HB.drew (Nat.le_refl w.heap.size) (cur.toList.take r.length ++ bv x.p :: bv x.q :: cur.toList.drop (r.length + 2)).toArray)
                clear RT hfill hfn hcur HF erow hso hxm hxo hc0 hs hp0 hp1
                go_wp2
                go_region
                go_wp2
                go_roundw
                case rel => exact ⟨k + 1, by omega, by go_num, by rw [RTH.out, List.length_append]; go_num, HBN.out, Lib.hid ⟨_, HROW.out, by rw [RTH.out]; exact HFN.out⟩⟩
                case measure => simp [intOf]; omega
            · obtain rfl : k = l.length := by omega
              have hF := HF.out
              rw [List.take_length] at hF
              obtain ⟨cur, hcur, hfill⟩ := hF
              have hN := HN0.out
              have hcv := run_convert_bytes_back (P := Tryz.prog) wr 96 9 5 ⟨w.heap.size, 0, none⟩ (l.length + m) (rep t l) Tryz.underlying96 Tryz.underlying5 Tryz.underlying9 (by
                intro j hj
                rw [Addr.add_lit, Lib.cell_of_heap hcur, Nat.zero_add]
                exact hfill.cell hj)
              rw [hN] at hcv
              have HBH := Lib.hid HB
              clear hN HF hfill hcur HB
              go_wp2
              go_ret
              exact ⟨rfl, HBH.out⟩
  · have hA' : ¬ (24 : Int) ≤ l.length := by omega
    go_enter Tryz.func226, Tryz.ntmps226
    go_wp2
    go_loop [5, 6, 10] (fun ns an i => ∃ k, k ≤ l.length ∧ i = .int .i64 (k : Nat) ∧ ns = .int .i64 ((l.length + (l.take k).countP (hit t) : Nat)) ∧ an = .bool (decide ((l.take k).countP (hit t) ≠ 0))) (fun _ _ i => l.length - (intOf i).toNat)
    case atStart => exact ⟨0, Nat.zero_le _, rfl, by simp, by simp⟩
    case round =>
      obtain ⟨k, hk, rfl, rfl, rfl⟩ := hrel
      generalize hm : (l.take k).countP (hit t) = m
      have hmk : m ≤ k := by rw [← hm]; exact Nat.le_trans List.countP_le_length (by simp; omega)
      by_cases hlt : k < l.length
      · have hx : ((ByteArray.mk l.toArray)[k]'hlt) = l[k] := rfl
        have CT := count_take t hlt
        rw [hm] at CT
        clear hm
        generalize l[k] = c at *
        have hcb := UInt8.toNat_lt c
        have hcb' : ((c.toNat : Nat) : Int) < 256 := by omega
        rcases HAT.out c with ⟨hno, hc⟩ | ⟨x, s, kc, cs, fz, hso, hxm, hxo, hc, hs, hp0, hp1⟩
        · rw [hit_none hno] at CT
          have CTH := Lib.hid (show _ = m from CT)
          clear CT hno
          go_wp2
          go_round
          case rel => exact ⟨k + 1, by omega, by go_num, by rw [CTH.out], by rw [CTH.out]⟩
          case measure => simp [intOf]; omega
        · rw [hit_some hso] at CT
          have CTH := Lib.hid (show _ = m + 1 from CT)
          clear CT hso hxm hxo hs hp0 hp1
          go_wp2
          go_round
          case rel => exact ⟨k + 1, by omega, by go_num, by rw [CTH.out]; go_num, by rw [CTH.out]; simp⟩
          case measure => simp [intOf]; omega
      · obtain rfl : k = l.length := by omega
        rw [List.take_length] at hm
        have HBr := Below.refl w.heap.size w
        by_cases h0 : m = 0
        · subst h0
          have HM := Lib.hid hm
          clear hm
          go_wp2
          go_ret
          exact ⟨ret1 (by rw [rep_none HM.out]; rfl), HBr⟩
        · go_wp2_with (at_make; refine wpList_make_full _ rfl _ _ 96 rfl w.heap.size 5 i0 _ 1 Tryz.underlying96 hi hz0 hz1 _ _ _ _ (l.length + m) rfl rfl (by omega) (by omega) (by rw [hz2]; omega) (by unfold maxLen; omega) (by omega) ?_)
          intro w2 hown hgrow
          have HN0 := Lib.hid (show (rep t l).length = l.length + m from by rw [rep_len, hm])
          have HB0 := HBr.grown hgrow (by omega) (fun k hk => by cases hk)
          obtain ⟨cur, hcur, hcs⟩ : ∃ cur, w2.heap[w.heap.size]? = some (.cells cur 5 (0, 0)) ∧ cur.size = l.length + m := by
            rcases hown.2 with ⟨h, _⟩ | ⟨g', cp, cur, hv, _, hb, _, _, hs, _⟩
            · cases h
            · simp at hv
              obtain ⟨rfl, rfl⟩ := hv
              exact ⟨cur, hb, by omega⟩
          have HF0 : Hid (∃ cur, w2.heap[w.heap.size]? = some (.cells cur 5 (0, 0)) ∧ Fill cur (l.length + m) (rep t (l.take 0))) := Lib.hid ⟨cur, hcur, hcs, by simp [rep]⟩
          clear hown hgrow hcur hcs hm
          go_wp2
          go_loopw [13, 14] (fun j i wr => ∃ k, k ≤ l.length ∧ i = .int .i64 (k : Nat) ∧ j = .int .i64 ((rep t (l.take k)).length : Nat) ∧ Below w.heap.size w wr ∧ Hid (∃ cur, wr.heap[w.heap.size]? = some (.cells cur 5 (0, 0)) ∧ Fill cur (l.length + m) (rep t (l.take k)))) (fun _ i _ => l.length - (intOf i).toNat)
          case atStart => exact ⟨0, Nat.zero_le _, rfl, rfl, HB0, HF0⟩
          case round =>
            clear HB0 HF0
            obtain ⟨k, hk, rfl, rfl, HB, HF⟩ := hrel
            by_cases hlt : k < l.length
            · have hx : ((ByteArray.mk l.toArray)[k]'hlt) = l[k] := rfl
              have RT := rep_take t hlt
              have FITS := rep_fits t hlt
              rw [HN0.out] at FITS
              generalize rep t (l.take k) = r at *
              generalize l[k] = c at *
              have hcb := UInt8.toNat_lt c
              have hcb' : ((c.toNat : Nat) : Int) < 256 := by omega
              rcases HAT.out c with ⟨hno, hc0⟩ | ⟨x, s, kc, cs, fz, hso, hxm, hxo, hc0, hs, hp0, hp1⟩
              · have hc : wr.cell? ⟨q, c.toNat, none⟩ = some noV := (HB.cell (p := ⟨q, c.toNat, none⟩) hql).trans hc0
                rw [rp_none hno] at RT FITS
                obtain ⟨cur, hcur, hfill⟩ := HF.out
                have hfit : r.length < l.length + m := by simp at FITS; omega
                have hcj : wr.cell? ⟨w.heap.size, r.length, none⟩ = some (cur[r.length]'(by rw [hfill.1]; exact hfit)) := by rw [Lib.cell_of_heap hcur]; exact Array.getElem?_eq_getElem _
                have hfj : wr.frozen? ⟨w.heap.size, r.length, none⟩ = false := Lib.frozen_of_heap hcur _
                have hfit' : ((r.length : Nat) : Int) < ((l.length : Nat) : Int) + ((m : Nat) : Int) := by omega
                generalize cur[r.length]'(by rw [hfill.1]; exact hfit) = old at hcj
                have RTH := Lib.hid RT
                have HFN := Lib.hid (hfill.one hfit c)
                have HROW := Lib.hid (heap_set_same (i := r.length) (v := .int .u8 (c.toNat : Int)) hcur)
                have HBN := Lib.hid (HB.setCell (p := ⟨w.heap.size, r.length, none⟩) (Nat.le_refl _) (.int .u8 (c.toNat : Int)))
                clear RT hfill hcur HF hno hc0
                go_wp2
                go_roundw
                case rel => exact ⟨k + 1, by omega, by go_num, by rw [RTH.out, List.length_append]; go_num, HBN.out, Lib.hid ⟨_, HROW.out, by rw [RTH.out]; exact HFN.out⟩⟩
                case measure => simp [intOf]; omega
              · have hc : wr.cell? ⟨q, c.toNat, none⟩ = some (.slice (some ⟨s, 0, none⟩) 2 kc) := (HB.cell (p := ⟨q, c.toNat, none⟩) hql).trans hc0
                rw [rp_some hso] at RT FITS
                obtain ⟨cur, hcur, hfill⟩ := HF.out
                have hsn : s < w.heap.size := lt_of_heap hs
                have hsrc : ∀ j v, [bv x.p, bv x.q][j]? = some v → wr.drew.cell? ((⟨s, 0, none⟩ : Addr).add j) = some v := by
                  intro j v hj
                  rw [Addr.add_lit, World.cell?_drew, HB.cell (p := ⟨s, 0 + j, none⟩) hsn, Lib.cell_of_heap hs]
                  match j, hj with
                  | 0, hj => exact hp0.trans hj
                  | 1, hj => exact hp1.trans hj
                have hfit : r.length + 2 ≤ l.length + m := by simpa using FITS
                have hcopy := run_copy_row (P := Tryz.prog) wr.drew 96 96 3 5 w.heap.size r.length (l.length + m - r.length) (l.length + m - r.length) ⟨s, 0, none⟩ 2 kc cur 5 [bv x.p, bv x.q] Tryz.underlying96 (by rw [hi]; simp [hz1]) hcur (by show 2 = min 2 (l.length + m - r.length); omega) hsrc (by simp; have := hfill.1; omega) (by simp [bv, Value.oneCell'])
                have RTH := Lib.hid RT
                have erow : cur.toList.take r.length ++ [bv x.p, bv x.q] ++ cur.toList.drop (r.length + 2) = cur.toList.take r.length ++ bv x.p :: bv x.q :: cur.toList.drop (r.length + 2) := by simp
                have hfn := hfill.two x.p x.q hfit
                rw [erow] at hfn
                have HFN := Lib.hid hfn
                have HROW := Lib.hid (heap_row_at (w := wr.drew) hcur (cur.toList.take r.length ++ bv x.p :: bv x.q :: cur.toList.drop (r.length + 2)).toArray)
                have HBN := Lib.hid (below_row HB.drew (Nat.le_refl w.heap.size) (cur.toList.take r.length ++ bv x.p :: bv x.q :: cur.toList.drop (r.length + 2)).toArray)
                clear RT hfill hfn hcur HF erow hso hxm hxo hc0 hs hp0 hp1
                go_wp2
                go_region
                go_wp2
                go_roundw
                case rel => exact ⟨k + 1, by omega, by go_num, by rw [RTH.out, List.length_append]; go_num, HBN.out, Lib.hid ⟨_, HROW.out, by rw [RTH.out]; exact HFN.out⟩⟩
                case measure => simp [intOf]; omega
            · obtain rfl : k = l.length := by omega
              have hF := HF.out
              rw [List.take_length] at hF
              obtain ⟨cur, hcur, hfill⟩ := hF
              have hN := HN0.out
              have hcv := run_convert_bytes_back (P := Tryz.prog) wr 96 9 5 ⟨w.heap.size, 0, none⟩ (l.length + m) (rep t l) Tryz.underlying96 Tryz.underlying5 Tryz.underlying9 (by
                intro j hj
                rw [Addr.add_lit, Lib.cell_of_heap hcur, Nat.zero_add]
                exact hfill.cell hj)
              rw [hN] at hcv
              have HBH := Lib.hid HB
              clear hN HF hfill hcur HB
              go_wp2
              go_ret
              exact ⟨rfl, HBH.out⟩
end Go.Proofs.YtinallojhkaogaaGreatDoor.Rq
