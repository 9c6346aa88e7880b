/- The built replacer's Replace. -/
import Derived.Test.YtpgglnibfojdgaaGreatDoorRpDo
import Derived.Test.YtpgglnibfojdgaaGreatDoorRpPlain
import Derived.Test.YtpgglnibfojdgaaGreatDoorShelf
import Derived.Deep.QuietTactic
import Derived.BigQuiet
import Derived.RegionTactic
import Derived.BigRegion
import Derived.Laws.CopyRow
namespace Go.Proofs.YtpgglnibfojdgaaGreatDoor.Rp
open Go.RowKit
set_option linter.unusedVariables false
set_option linter.unusedSimpArgs false

theorem infoByte : (Tryz.prog.info? 5).map (fun i => (i.zero, i.size, i.bytes)) = some (some (.int .u8 0), 1, 1) := by kernel_rfl
theorem heap_row_at {w : World} {b : Nat} {c : Array Value} {t : TypeId} {f : Nat × Nat} (h : w.heap[b]? = some (.cells c t f)) (c' : Array Value) : (w.setRow b c').heap[b]? = some (.cells c' t f) := by
  simp only [World.setRow, Array.getElem?_modify, if_true, h]; rfl
theorem below_row {B b : Nat} {w0 w : World} (h : Below B w0 w) (hb : B ≤ b) (c : Array Value) : Below B w0 (w.setRow b c) where
  os := h.os
  tape := h.tape
  output := h.output
  size := by simpa [World.setRow] using h.size
  block := by
    intro k hk
    simp only [World.setRow, Array.getElem?_modify]
    rw [if_neg (by omega)]
    exact h.block k hk
theorem below_drewN {B : Nat} {a w : World} (h : Below B a w) (n : Nat) : Below B a (w.drewN n) := ⟨h.os, h.tape, h.output, h.size, h.block⟩
/-- What stands for a byte of a text. -/
theorem at_byte {B q : Nat} {t : Two} {v1 v2 : Value} {xs : List Value} {w : World} (h : Bs B q [(t.o1, v1), (t.o2, v2)] xs w) (c : UInt8) :
    w.cell? ⟨q, c.toNat, none⟩ = some (if c = t.o1 then v1 else if c = t.o2 then v2 else noV) := by
  rw [h.cell c]; simp [lk]
set_option maxRecDepth 100000 in
set_option maxHeartbeats 1600000 in
theorem bsr_any (B q : Nat) (t : Two) (v1 v2 : Value) (l : List UInt8) (w : World) (HS : Bs B q [(t.o1, v1), (t.o2, v2)] [S [t.o2], S [t.o1]] w)
    (Y1 : Bytes w v1 [t.p1, t.q1]) (Y2 : Bytes w v2 [t.p2, t.q2]) (hl : l.length ≤ 100000) :
    Calls Tryz.prog 127 #[.pointer (some ⟨q, 0, none⟩), S l] w fun e w' => e = .returned (S (t.rep l)) ∧ Below w.heap.size w w' := by
  obtain ⟨i0, hi, hz0, hz1, hz2⟩ := info_parts infoByte
  have hsz : (ByteArray.mk l.toArray).size = l.length := by simp [ByteArray.size]
  obtain ⟨tv, ht, ho, hn⟩ := HS.last
  obtain ⟨g, cap, cur, rfl, hgB, hg, hc1, hc2, hc3, hc4⟩ : ∃ g cap cur, tv = .slice (some ⟨g, 0, none⟩) 2 cap ∧ B ≤ g ∧ w.heap[g]? = some (.cells cur 9 (0, 0)) ∧ 2 ≤ cap ∧ cap ≤ maxLen ∧ cur.size = cap * 1 ∧ cur.toList.take (2 * 1) = [S [t.o2], S [t.o1]] := by
    rcases ho.2 with ⟨_, h⟩ | h
    · simp at h
    · exact h
  have hat := at_byte HS
  obtain ⟨s1, k1, cs1, fz1, rfl, hs1, hb1⟩ := Y1
  obtain ⟨s2, k2, cs2, fz2, rfl, hs2, hb2⟩ := Y2
  have HAT := Lib.hid hat
  have HC4 := Lib.hid hc4
  have HS1 := Lib.hid hs1
  have HS2 := Lib.hid hs2
  have HB1 := Lib.hid hb1
  have HB2 := Lib.hid hb2
  have HG := Lib.hid hg
  have HN := Lib.hid hn
  clear hat ho hc3 hc4 hs1 hs2 hb1 hb2 hg hn hc2 hc1
  by_cases hA : 16 ≤ l.length
  · have hA' : (16 : Int) ≤ l.length := by omega
    have hgl : g < w.heap.size := lt_of_heap HG.out
    have hg0 : w.cell? ⟨g, 0, none⟩ = some (S [t.o2]) := by
      rw [Lib.cell_of_heap HG.out, ← Array.getElem?_toList]
      have := congrArg (fun z => z[0]?) HC4.out
      simpa using this
    have hg1 : w.cell? ⟨g, 1, none⟩ = some (S [t.o1]) := by
      rw [Lib.cell_of_heap HG.out, ← Array.getElem?_toList]
      have := congrArg (fun z => z[1]?) HC4.out
      simpa using this
    go_enter Tryz.func127, Tryz.ntmps127
    go_wp2
    go_loopw [5, 6, 32] (fun ns an i wr => ∃ k : Nat, k ≤ 2 ∧ i = .int .i64 (k : Nat) ∧ ns = .int .i64 ((l.length + t.cnt l k : Nat)) ∧ an = .bool (decide (t.cnt l k ≠ 0)) ∧ Below w.heap.size w wr ∧ wr.heap.size = w.heap.size) (fun _ _ i _ => 2 - (intOf i).toNat)
    case atStart => exact ⟨0, by omega, rfl, by simp [Two.cnt], by simp [Two.cnt], Below.refl _ _, rfl⟩
    case round =>
     obtain ⟨k, hk, rfl, rfl, rfl, HB, hszr⟩ := hrel
     obtain rfl | rfl | rfl : k = 0 ∨ k = 1 ∨ k = 2 := by omega
     · have c0 : wr.cell? ⟨g, 0, none⟩ = some (S [t.o2]) := (HB.cell hgl).trans hg0
       have cS : wr.cell? ⟨q, t.o2.toNat, none⟩ = some (.slice (some ⟨s2, 0, none⟩) 2 k2) := by rw [HB.cell (p := ⟨q, t.o2.toNat, none⟩) HS.lt, HAT.out t.o2, if_neg (Ne.symm t.ne), if_pos rfl]; rfl
       have hob := UInt8.toNat_lt t.o2
       have hob' : ((t.o2.toNat : Nat) : Int) < 256 := by omega
       have hx : ((ByteArray.mk #[t.o2])[0]'(Nat.zero_lt_one)) = t.o2 := rfl
       have hcb : Lib.countByte (ByteArray.mk l.toArray).data.toList t.o2 = l.count t.o2 := by simp [Lib.countByte]
       have hcl := List.count_le_length (a := t.o2) (l := l)
       have HCN := Lib.hid (show t.cnt l 1 = t.cnt l 0 + l.count t.o2 from by simp [Two.cnt])
       have hbase : t.cnt l 0 ≤ l.length := by simp [Two.cnt]
       generalize t.cnt l 0 = b0 at *
       have HCB := Lib.hid hcb
       clear hcb
       generalize l.count t.o2 = m at *
       by_cases hm : m = 0
       · subst hm
         go_wp2_with (go_at_call 129; refine (Tryz.strings_Count_one ⟨l.toArray⟩ t.o2 _).mono ?_; rintro e w' ⟨rfl, hw⟩; have hw2 := hw.symm; clear hw; subst hw2; rw [HCB.out])
         go_roundw
         case rel => exact ⟨1, by omega, rfl, by rw [HCN.out]; simp, by rw [HCN.out]; simp, HB, hszr⟩
         case measure => simp [intOf]
       · have hm' : (((m : Nat) : Int) == 0) = false := by rw [beq_eq_false_iff_ne]; omega
         go_wp2_with (go_at_call 129; refine (Tryz.strings_Count_one ⟨l.toArray⟩ t.o2 _).mono ?_; rintro e w' ⟨rfl, hw⟩; have hw2 := hw.symm; clear hw; subst hw2; rw [HCB.out])
         go_quiet (fail)
         go_wp2
         go_roundw
         case rel => exact ⟨1, by omega, rfl, by rw [HCN.out]; go_num, by rw [HCN.out]; simp [hm], below_drewN HB nq, hszr⟩
         case measure => simp [intOf]
     · have c0 : wr.cell? ⟨g, 1, none⟩ = some (S [t.o1]) := (HB.cell hgl).trans hg1
       have cS : wr.cell? ⟨q, t.o1.toNat, none⟩ = some (.slice (some ⟨s1, 0, none⟩) 2 k1) := by rw [HB.cell (p := ⟨q, t.o1.toNat, none⟩) HS.lt, HAT.out t.o1, if_pos rfl]; rfl
       have hob := UInt8.toNat_lt t.o1
       have hob' : ((t.o1.toNat : Nat) : Int) < 256 := by omega
       have hx : ((ByteArray.mk #[t.o1])[0]'(Nat.zero_lt_one)) = t.o1 := rfl
       have hcb : Lib.countByte (ByteArray.mk l.toArray).data.toList t.o1 = l.count t.o1 := by simp [Lib.countByte]
       have hcl := List.count_le_length (a := t.o1) (l := l)
       have HCN := Lib.hid (show t.cnt l 2 = t.cnt l 1 + l.count t.o1 from by simp [Two.cnt])
       have hbase : t.cnt l 1 ≤ l.length := by exact List.count_le_length
       generalize t.cnt l 1 = b0 at *
       have HCB := Lib.hid hcb
       clear hcb
       generalize l.count t.o1 = m at *
       by_cases hm : m = 0
       · subst hm
         go_wp2_with (go_at_call 129; refine (Tryz.strings_Count_one ⟨l.toArray⟩ t.o1 _).mono ?_; rintro e w' ⟨rfl, hw⟩; have hw2 := hw.symm; clear hw; subst hw2; rw [HCB.out])
         go_roundw
         case rel => exact ⟨2, by omega, rfl, by rw [HCN.out]; simp, by rw [HCN.out]; simp, HB, hszr⟩
         case measure => simp [intOf]
       · have hm' : (((m : Nat) : Int) == 0) = false := by rw [beq_eq_false_iff_ne]; omega
         go_wp2_with (go_at_call 129; refine (Tryz.strings_Count_one ⟨l.toArray⟩ t.o1 _).mono ?_; rintro e w' ⟨rfl, hw⟩; have hw2 := hw.symm; clear hw; subst hw2; rw [HCB.out])
         go_quiet (fail)
         go_wp2
         go_roundw
         case rel => exact ⟨2, by omega, rfl, by rw [HCN.out]; go_num, by rw [HCN.out]; simp [hm], below_drewN HB nq, hszr⟩
         case measure => simp [intOf]
     · have HBr := HB
       have hm : t.cnt l 2 = l.countP t.hit := t.count_two l
       have hmk : t.cnt l 2 ≤ l.length := by rw [hm]; exact List.countP_le_length
       generalize t.cnt l 2 = m at *
       replace hm := hm.symm
       by_cases h0 : m = 0
       · subst h0
         have HM := Lib.hid hm
         clear hm
         go_wp2
         go_ret
         exact ⟨ret1 (by rw [t.rep_none HM.out]; rfl), HBr⟩
       · go_wp2_with (at_make; refine wpList_make_full _ rfl _ _ 36 rfl w.heap.size 5 i0 _ 1 Tryz.underlying36 hi hz0 hz1 _ _ _ _ (l.length + m) rfl rfl (by omega) (by omega) (by rw [hz2]; omega) (by unfold maxLen; omega) (by omega) ?_)
         intro w2 hown hgrow
         try simp only [hszr] at hown
         have HN0 := Lib.hid (show (t.rep l).length = l.length + m from by rw [t.rep_len, hm])
         have HB0 := HBr.grown hgrow (by omega) (fun k hk => by cases hk)
         obtain ⟨cur, hcur, hcs⟩ : ∃ cur, w2.heap[w.heap.size]? = some (.cells cur 5 (0, 0)) ∧ cur.size = l.length + m := by
           rcases hown.2 with ⟨h, _⟩ | ⟨g', cp, cur, hv, _, hb, _, _, hs, _⟩
           · cases h
           · simp at hv
             obtain ⟨rfl, rfl⟩ := hv
             exact ⟨cur, hb, by omega⟩
         have HF0 : Hid (∃ cur, w2.heap[w.heap.size]? = some (.cells cur 5 (0, 0)) ∧ Fill cur (l.length + m) (t.rep (l.take 0))) := Lib.hid ⟨cur, hcur, hcs, by simp [Two.rep]⟩
         clear hown hgrow hcur hcs hm
         go_wp2
         go_loopw [13, 14] (fun j i wr => ∃ k, k ≤ l.length ∧ i = .int .i64 (k : Nat) ∧ j = .int .i64 ((t.rep (l.take k)).length : Nat) ∧ Below w.heap.size w wr ∧ Hid (∃ cur, wr.heap[w.heap.size]? = some (.cells cur 5 (0, 0)) ∧ Fill cur (l.length + m) (t.rep (l.take k)))) (fun _ i _ => l.length - (intOf i).toNat)
         case atStart => exact ⟨0, Nat.zero_le _, rfl, rfl, HB0, HF0⟩
         case round =>
           clear HB0 HF0
           obtain ⟨k, hk, rfl, rfl, HB, HF⟩ := hrel
           by_cases hlt : k < l.length
           · have hx : ((ByteArray.mk l.toArray)[k]'hlt) = l[k] := rfl
             have RT := t.rep_take hlt
             have FITS := t.rep_fits hlt
             rw [HN0.out] at FITS
             generalize t.rep (l.take k) = r at *
             generalize l[k] = c at *
             have hcb := UInt8.toNat_lt c
             have hcb' : ((c.toNat : Nat) : Int) < 256 := by omega
             by_cases h1 : c = t.o1
             · have hc : wr.cell? ⟨q, c.toNat, none⟩ = some (.slice (some ⟨s1, 0, none⟩) 2 k1) := by rw [HB.cell (p := ⟨q, c.toNat, none⟩) HS.lt, HAT.out c, if_pos h1]; rfl
               have hrp : t.rp c = [t.p1, t.q1] := by unfold Two.rp; rw [if_pos h1]
               rw [hrp] at RT FITS
               obtain ⟨cur, hcur, hfill⟩ := HF.out
               have hsn : s1 < w.heap.size := lt_of_heap HS1.out
               have hsrc : ∀ j v, [bv t.p1, bv t.q1][j]? = some v → wr.drew.cell? ((⟨s1, 0, none⟩ : Addr).add j) = some v := by
                 intro j v hj
                 rw [Addr.add_lit, World.cell?_drew, HB.cell (p := ⟨s1, 0 + j, none⟩) hsn, Lib.cell_of_heap HS1.out]
                 match j, hj with
                 | 0, hj => exact (HB1.out 0 (by simp)).trans hj
                 | 1, hj => exact (HB1.out 1 (by simp)).trans hj
               have hfit : r.length + 2 ≤ l.length + m := by simpa using FITS
               have hcopy := run_copy_row (P := Tryz.prog) wr.drew 36 36 3 5 w.heap.size r.length (l.length + m - r.length) (l.length + m - r.length) ⟨s1, 0, none⟩ 2 k1 cur 5 [bv t.p1, bv t.q1] Tryz.underlying36 (by rw [hi]; simp [hz1]) hcur (by show 2 = min 2 (l.length + m - r.length); omega) hsrc (by simp; have := hfill.1; omega) (by simp [bv, Value.oneCell'])
               have RTH := Lib.hid RT
               have erow : cur.toList.take r.length ++ [bv t.p1, bv t.q1] ++ cur.toList.drop (r.length + 2) = cur.toList.take r.length ++ bv t.p1 :: bv t.q1 :: cur.toList.drop (r.length + 2) := by simp
               have hfn := hfill.two t.p1 t.q1 hfit
               rw [erow] at hfn
               have HFN := Lib.hid hfn
               have HROW := Lib.hid (heap_row_at (w := wr.drew) hcur (cur.toList.take r.length ++ bv t.p1 :: bv t.q1 :: cur.toList.drop (r.length + 2)).toArray)
               have HBN := Lib.hid (below_row HB.drew (Nat.le_refl w.heap.size) (cur.toList.take r.length ++ bv t.p1 :: bv t.q1 :: cur.toList.drop (r.length + 2)).toArray)
               clear RT hfill hfn hcur HF erow h1
               go_wp2
               go_region
               go_wp2
               go_roundw
               case rel => exact ⟨k + 1, by omega, by go_num, by rw [RTH.out, List.length_append]; go_num, HBN.out, Lib.hid ⟨_, HROW.out, by rw [RTH.out]; exact HFN.out⟩⟩
               case measure => simp [intOf]; omega
             by_cases h2 : c = t.o2
             · have hc : wr.cell? ⟨q, c.toNat, none⟩ = some (.slice (some ⟨s2, 0, none⟩) 2 k2) := by rw [HB.cell (p := ⟨q, c.toNat, none⟩) HS.lt, HAT.out c, if_neg h1, if_pos h2]; rfl
               have hrp : t.rp c = [t.p2, t.q2] := by unfold Two.rp; rw [if_neg h1, if_pos h2]
               rw [hrp] at RT FITS
               obtain ⟨cur, hcur, hfill⟩ := HF.out
               have hsn : s2 < w.heap.size := lt_of_heap HS2.out
               have hsrc : ∀ j v, [bv t.p2, bv t.q2][j]? = some v → wr.drew.cell? ((⟨s2, 0, none⟩ : Addr).add j) = some v := by
                 intro j v hj
                 rw [Addr.add_lit, World.cell?_drew, HB.cell (p := ⟨s2, 0 + j, none⟩) hsn, Lib.cell_of_heap HS2.out]
                 match j, hj with
                 | 0, hj => exact (HB2.out 0 (by simp)).trans hj
                 | 1, hj => exact (HB2.out 1 (by simp)).trans hj
               have hfit : r.length + 2 ≤ l.length + m := by simpa using FITS
               have hcopy := run_copy_row (P := Tryz.prog) wr.drew 36 36 3 5 w.heap.size r.length (l.length + m - r.length) (l.length + m - r.length) ⟨s2, 0, none⟩ 2 k2 cur 5 [bv t.p2, bv t.q2] Tryz.underlying36 (by rw [hi]; simp [hz1]) hcur (by show 2 = min 2 (l.length + m - r.length); omega) hsrc (by simp; have := hfill.1; omega) (by simp [bv, Value.oneCell'])
               have RTH := Lib.hid RT
               have erow : cur.toList.take r.length ++ [bv t.p2, bv t.q2] ++ cur.toList.drop (r.length + 2) = cur.toList.take r.length ++ bv t.p2 :: bv t.q2 :: cur.toList.drop (r.length + 2) := by simp
               have hfn := hfill.two t.p2 t.q2 hfit
               rw [erow] at hfn
               have HFN := Lib.hid hfn
               have HROW := Lib.hid (heap_row_at (w := wr.drew) hcur (cur.toList.take r.length ++ bv t.p2 :: bv t.q2 :: cur.toList.drop (r.length + 2)).toArray)
               have HBN := Lib.hid (below_row HB.drew (Nat.le_refl w.heap.size) (cur.toList.take r.length ++ bv t.p2 :: bv t.q2 :: cur.toList.drop (r.length + 2)).toArray)
               clear RT hfill hfn hcur HF erow h1 h2
               go_wp2
               go_region
               go_wp2
               go_roundw
               case rel => exact ⟨k + 1, by omega, by go_num, by rw [RTH.out, List.length_append]; go_num, HBN.out, Lib.hid ⟨_, HROW.out, by rw [RTH.out]; exact HFN.out⟩⟩
               case measure => simp [intOf]; omega
             · have hc : wr.cell? ⟨q, c.toNat, none⟩ = some noV := by rw [HB.cell (p := ⟨q, c.toNat, none⟩) HS.lt, HAT.out c, if_neg h1, if_neg h2]
               have hrp : t.rp c = [c] := by unfold Two.rp; rw [if_neg h1, if_neg h2]
               rw [hrp] at RT FITS
               obtain ⟨cur, hcur, hfill⟩ := HF.out
               have hfit : r.length < l.length + m := by simp at FITS; omega
               have hcj : wr.cell? ⟨w.heap.size, r.length, none⟩ = some (cur[r.length]'(by rw [hfill.1]; exact hfit)) := by rw [Lib.cell_of_heap hcur]; exact Array.getElem?_eq_getElem _
               have hfj : wr.frozen? ⟨w.heap.size, r.length, none⟩ = false := Lib.frozen_of_heap hcur _
               have hfit' : ((r.length : Nat) : Int) < ((l.length : Nat) : Int) + ((m : Nat) : Int) := by omega
               generalize cur[r.length]'(by rw [hfill.1]; exact hfit) = old at hcj
               have RTH := Lib.hid RT
               have HFN := Lib.hid (hfill.one hfit c)
               have HROW := Lib.hid (heap_set_same (i := r.length) (v := .int .u8 (c.toNat : Int)) hcur)
               have HBN := Lib.hid (HB.setCell (p := ⟨w.heap.size, r.length, none⟩) (Nat.le_refl _) (.int .u8 (c.toNat : Int)))
               clear RT hfill hcur HF h1 h2
               go_wp2
               go_roundw
               case rel => exact ⟨k + 1, by omega, by go_num, by rw [RTH.out, List.length_append]; go_num, HBN.out, Lib.hid ⟨_, HROW.out, by rw [RTH.out]; exact HFN.out⟩⟩
               case measure => simp [intOf]; omega
           · obtain rfl : k = l.length := by omega
             have hF := HF.out
             rw [List.take_length] at hF
             obtain ⟨cur, hcur, hfill⟩ := hF
             have hN := HN0.out
             have hcv := run_convert_bytes_back (P := Tryz.prog) wr 36 9 5 ⟨w.heap.size, 0, none⟩ (l.length + m) (t.rep l) Tryz.underlying36 Tryz.underlying5 Tryz.underlying9 (by
               intro j hj
               rw [Addr.add_lit, Lib.cell_of_heap hcur, Nat.zero_add]
               exact hfill.cell hj)
             rw [hN] at hcv
             have HBH := Lib.hid HB
             clear hN HF hfill hcur HB
             go_wp2
             go_ret
             exact ⟨rfl, HBH.out⟩
  · have hA' : ¬ (16 : Int) ≤ l.length := by omega
    go_enter Tryz.func127, Tryz.ntmps127
    go_wp2
    go_loop [5, 6, 10] (fun ns an i => ∃ k, k ≤ l.length ∧ i = .int .i64 (k : Nat) ∧ ns = .int .i64 ((l.length + (l.take k).countP t.hit : Nat)) ∧ an = .bool (decide ((l.take k).countP t.hit ≠ 0))) (fun _ _ i => l.length - (intOf i).toNat)
    case atStart => exact ⟨0, Nat.zero_le _, rfl, by simp, by simp⟩
    case round =>
      obtain ⟨k, hk, rfl, rfl, rfl⟩ := hrel
      generalize hm : (l.take k).countP t.hit = m
      have hmk : m ≤ k := by rw [← hm]; exact Nat.le_trans List.countP_le_length (by simp; omega)
      by_cases hlt : k < l.length
      · have hx : ((ByteArray.mk l.toArray)[k]'hlt) = l[k] := rfl
        have CT := Lib.hid (t.count_take hlt)
        rw [hm] at CT
        clear hm
        generalize l[k] = c at *
        have hcb := UInt8.toNat_lt c
        have hcb' : ((c.toNat : Nat) : Int) < 256 := by omega
        by_cases h1 : c = t.o1
        · have hc := HAT.out c
          rw [if_pos h1] at hc
          have CT' : (l.take (k + 1)).countP t.hit = m + 1 := by rw [CT.out, show t.hit c = true from by unfold Two.hit; simp [h1]]; rfl
          have CTH := Lib.hid CT'
          clear CT' h1
          go_wp2
          go_round
          case rel => exact ⟨k + 1, by omega, by go_num, by rw [CTH.out]; go_num, by rw [CTH.out]; simp⟩
          case measure => simp [intOf]; omega
        by_cases h2 : c = t.o2
        · have hc := HAT.out c
          rw [if_neg h1, if_pos h2] at hc
          have CT' : (l.take (k + 1)).countP t.hit = m + 1 := by rw [CT.out, show t.hit c = true from by unfold Two.hit; simp [h2]]; rfl
          have CTH := Lib.hid CT'
          clear CT' h1 h2
          go_wp2
          go_round
          case rel => exact ⟨k + 1, by omega, by go_num, by rw [CTH.out]; go_num, by rw [CTH.out]; simp⟩
          case measure => simp [intOf]; omega
        · have hc := HAT.out c
          rw [if_neg h1, if_neg h2] at hc
          have CT' : (l.take (k + 1)).countP t.hit = m := by rw [CT.out, show t.hit c = false from by unfold Two.hit; simp [h1, h2]]; rfl
          have CTH := Lib.hid CT'
          clear CT' h1 h2
          go_wp2
          go_round
          case rel => exact ⟨k + 1, by omega, by go_num, by rw [CTH.out], by rw [CTH.out]⟩
          case measure => simp [intOf]; omega
      · obtain rfl : k = l.length := by omega
        rw [List.take_length] at hm
        have HBr := Below.refl w.heap.size w
        by_cases h0 : m = 0
        · subst h0
          have HM := Lib.hid hm
          clear hm
          go_wp2
          go_ret
          exact ⟨ret1 (by rw [t.rep_none HM.out]; rfl), HBr⟩
        · go_wp2_with (at_make; refine wpList_make_full _ rfl _ _ 36 rfl w.heap.size 5 i0 _ 1 Tryz.underlying36 hi hz0 hz1 _ _ _ _ (l.length + m) rfl rfl (by omega) (by omega) (by rw [hz2]; omega) (by unfold maxLen; omega) (by omega) ?_)
          intro w2 hown hgrow
          have HN0 := Lib.hid (show (t.rep l).length = l.length + m from by rw [t.rep_len, hm])
          have HB0 := HBr.grown hgrow (by omega) (fun k hk => by cases hk)
          obtain ⟨cur, hcur, hcs⟩ : ∃ cur, w2.heap[w.heap.size]? = some (.cells cur 5 (0, 0)) ∧ cur.size = l.length + m := by
            rcases hown.2 with ⟨h, _⟩ | ⟨g', cp, cur, hv, _, hb, _, _, hs, _⟩
            · cases h
            · simp at hv
              obtain ⟨rfl, rfl⟩ := hv
              exact ⟨cur, hb, by omega⟩
          have HF0 : Hid (∃ cur, w2.heap[w.heap.size]? = some (.cells cur 5 (0, 0)) ∧ Fill cur (l.length + m) (t.rep (l.take 0))) := Lib.hid ⟨cur, hcur, hcs, by simp [Two.rep]⟩
          clear hown hgrow hcur hcs hm
          go_wp2
          go_loopw [13, 14] (fun j i wr => ∃ k, k ≤ l.length ∧ i = .int .i64 (k : Nat) ∧ j = .int .i64 ((t.rep (l.take k)).length : Nat) ∧ Below w.heap.size w wr ∧ Hid (∃ cur, wr.heap[w.heap.size]? = some (.cells cur 5 (0, 0)) ∧ Fill cur (l.length + m) (t.rep (l.take k)))) (fun _ i _ => l.length - (intOf i).toNat)
          case atStart => exact ⟨0, Nat.zero_le _, rfl, rfl, HB0, HF0⟩
          case round =>
            clear HB0 HF0
            obtain ⟨k, hk, rfl, rfl, HB, HF⟩ := hrel
            by_cases hlt : k < l.length
            · have hx : ((ByteArray.mk l.toArray)[k]'hlt) = l[k] := rfl
              have RT := t.rep_take hlt
              have FITS := t.rep_fits hlt
              rw [HN0.out] at FITS
              generalize t.rep (l.take k) = r at *
              generalize l[k] = c at *
              have hcb := UInt8.toNat_lt c
              have hcb' : ((c.toNat : Nat) : Int) < 256 := by omega
              by_cases h1 : c = t.o1
              · have hc : wr.cell? ⟨q, c.toNat, none⟩ = some (.slice (some ⟨s1, 0, none⟩) 2 k1) := by rw [HB.cell (p := ⟨q, c.toNat, none⟩) HS.lt, HAT.out c, if_pos h1]; rfl
                have hrp : t.rp c = [t.p1, t.q1] := by unfold Two.rp; rw [if_pos h1]
                rw [hrp] at RT FITS
                obtain ⟨cur, hcur, hfill⟩ := HF.out
                have hsn : s1 < w.heap.size := lt_of_heap HS1.out
                have hsrc : ∀ j v, [bv t.p1, bv t.q1][j]? = some v → wr.drew.cell? ((⟨s1, 0, none⟩ : Addr).add j) = some v := by
                  intro j v hj
                  rw [Addr.add_lit, World.cell?_drew, HB.cell (p := ⟨s1, 0 + j, none⟩) hsn, Lib.cell_of_heap HS1.out]
                  match j, hj with
                  | 0, hj => exact (HB1.out 0 (by simp)).trans hj
                  | 1, hj => exact (HB1.out 1 (by simp)).trans hj
                have hfit : r.length + 2 ≤ l.length + m := by simpa using FITS
                have hcopy := run_copy_row (P := Tryz.prog) wr.drew 36 36 3 5 w.heap.size r.length (l.length + m - r.length) (l.length + m - r.length) ⟨s1, 0, none⟩ 2 k1 cur 5 [bv t.p1, bv t.q1] Tryz.underlying36 (by rw [hi]; simp [hz1]) hcur (by show 2 = min 2 (l.length + m - r.length); omega) hsrc (by simp; have := hfill.1; omega) (by simp [bv, Value.oneCell'])
                have RTH := Lib.hid RT
                have erow : cur.toList.take r.length ++ [bv t.p1, bv t.q1] ++ cur.toList.drop (r.length + 2) = cur.toList.take r.length ++ bv t.p1 :: bv t.q1 :: cur.toList.drop (r.length + 2) := by simp
                have hfn := hfill.two t.p1 t.q1 hfit
                rw [erow] at hfn
                have HFN := Lib.hid hfn
                have HROW := Lib.hid (heap_row_at (w := wr.drew) hcur (cur.toList.take r.length ++ bv t.p1 :: bv t.q1 :: cur.toList.drop (r.length + 2)).toArray)
                have HBN := Lib.hid (below_row HB.drew (Nat.le_refl w.heap.size) (cur.toList.take r.length ++ bv t.p1 :: bv t.q1 :: cur.toList.drop (r.length + 2)).toArray)
                clear RT hfill hfn hcur HF erow h1
                go_wp2
                go_region
                go_wp2
                go_roundw
                case rel => exact ⟨k + 1, by omega, by go_num, by rw [RTH.out, List.length_append]; go_num, HBN.out, Lib.hid ⟨_, HROW.out, by rw [RTH.out]; exact HFN.out⟩⟩
                case measure => simp [intOf]; omega
              by_cases h2 : c = t.o2
              · have hc : wr.cell? ⟨q, c.toNat, none⟩ = some (.slice (some ⟨s2, 0, none⟩) 2 k2) := by rw [HB.cell (p := ⟨q, c.toNat, none⟩) HS.lt, HAT.out c, if_neg h1, if_pos h2]; rfl
                have hrp : t.rp c = [t.p2, t.q2] := by unfold Two.rp; rw [if_neg h1, if_pos h2]
                rw [hrp] at RT FITS
                obtain ⟨cur, hcur, hfill⟩ := HF.out
                have hsn : s2 < w.heap.size := lt_of_heap HS2.out
                have hsrc : ∀ j v, [bv t.p2, bv t.q2][j]? = some v → wr.drew.cell? ((⟨s2, 0, none⟩ : Addr).add j) = some v := by
                  intro j v hj
                  rw [Addr.add_lit, World.cell?_drew, HB.cell (p := ⟨s2, 0 + j, none⟩) hsn, Lib.cell_of_heap HS2.out]
                  match j, hj with
                  | 0, hj => exact (HB2.out 0 (by simp)).trans hj
                  | 1, hj => exact (HB2.out 1 (by simp)).trans hj
                have hfit : r.length + 2 ≤ l.length + m := by simpa using FITS
                have hcopy := run_copy_row (P := Tryz.prog) wr.drew 36 36 3 5 w.heap.size r.length (l.length + m - r.length) (l.length + m - r.length) ⟨s2, 0, none⟩ 2 k2 cur 5 [bv t.p2, bv t.q2] Tryz.underlying36 (by rw [hi]; simp [hz1]) hcur (by show 2 = min 2 (l.length + m - r.length); omega) hsrc (by simp; have := hfill.1; omega) (by simp [bv, Value.oneCell'])
                have RTH := Lib.hid RT
                have erow : cur.toList.take r.length ++ [bv t.p2, bv t.q2] ++ cur.toList.drop (r.length + 2) = cur.toList.take r.length ++ bv t.p2 :: bv t.q2 :: cur.toList.drop (r.length + 2) := by simp
                have hfn := hfill.two t.p2 t.q2 hfit
                rw [erow] at hfn
                have HFN := Lib.hid hfn
                have HROW := Lib.hid (heap_row_at (w := wr.drew) hcur (cur.toList.take r.length ++ bv t.p2 :: bv t.q2 :: cur.toList.drop (r.length + 2)).toArray)
                have HBN := Lib.hid (below_row HB.drew (Nat.le_refl w.heap.size) (cur.toList.take r.length ++ bv t.p2 :: bv t.q2 :: cur.toList.drop (r.length + 2)).toArray)
                clear RT hfill hfn hcur HF erow h1 h2
                go_wp2
                go_region
                go_wp2
                go_roundw
                case rel => exact ⟨k + 1, by omega, by go_num, by rw [RTH.out, List.length_append]; go_num, HBN.out, Lib.hid ⟨_, HROW.out, by rw [RTH.out]; exact HFN.out⟩⟩
                case measure => simp [intOf]; omega
              · have hc : wr.cell? ⟨q, c.toNat, none⟩ = some noV := by rw [HB.cell (p := ⟨q, c.toNat, none⟩) HS.lt, HAT.out c, if_neg h1, if_neg h2]
                have hrp : t.rp c = [c] := by unfold Two.rp; rw [if_neg h1, if_neg h2]
                rw [hrp] at RT FITS
                obtain ⟨cur, hcur, hfill⟩ := HF.out
                have hfit : r.length < l.length + m := by simp at FITS; omega
                have hcj : wr.cell? ⟨w.heap.size, r.length, none⟩ = some (cur[r.length]'(by rw [hfill.1]; exact hfit)) := by rw [Lib.cell_of_heap hcur]; exact Array.getElem?_eq_getElem _
                have hfj : wr.frozen? ⟨w.heap.size, r.length, none⟩ = false := Lib.frozen_of_heap hcur _
                have hfit' : ((r.length : Nat) : Int) < ((l.length : Nat) : Int) + ((m : Nat) : Int) := by omega
                generalize cur[r.length]'(by rw [hfill.1]; exact hfit) = old at hcj
                have RTH := Lib.hid RT
                have HFN := Lib.hid (hfill.one hfit c)
                have HROW := Lib.hid (heap_set_same (i := r.length) (v := .int .u8 (c.toNat : Int)) hcur)
                have HBN := Lib.hid (HB.setCell (p := ⟨w.heap.size, r.length, none⟩) (Nat.le_refl _) (.int .u8 (c.toNat : Int)))
                clear RT hfill hcur HF h1 h2
                go_wp2
                go_roundw
                case rel => exact ⟨k + 1, by omega, by go_num, by rw [RTH.out, List.length_append]; go_num, HBN.out, Lib.hid ⟨_, HROW.out, by rw [RTH.out]; exact HFN.out⟩⟩
                case measure => simp [intOf]; omega
            · obtain rfl : k = l.length := by omega
              have hF := HF.out
              rw [List.take_length] at hF
              obtain ⟨cur, hcur, hfill⟩ := hF
              have hN := HN0.out
              have hcv := run_convert_bytes_back (P := Tryz.prog) wr 36 9 5 ⟨w.heap.size, 0, none⟩ (l.length + m) (t.rep l) Tryz.underlying36 Tryz.underlying5 Tryz.underlying9 (by
                intro j hj
                rw [Addr.add_lit, Lib.cell_of_heap hcur, Nat.zero_add]
                exact hfill.cell hj)
              rw [hN] at hcv
              have HBH := Lib.hid HB
              clear hN HF hfill hcur HB
              go_wp2
              go_ret
              exact ⟨rfl, HBH.out⟩
end Go.Proofs.YtpgglnibfojdgaaGreatDoor.Rp
