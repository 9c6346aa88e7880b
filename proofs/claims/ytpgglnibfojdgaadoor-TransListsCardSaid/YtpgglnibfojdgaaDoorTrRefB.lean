/- The reference's Back: the walk. -/
import Derived.Test.YtpgglnibfojdgaaDoorTrRef
namespace Go.Proofs.YtpgglnibfojdgaaDoor.Tr
open Go.RowKit Go.Shelf Bld
set_option linter.unusedVariables false
set_option linter.unusedSimpArgs false
theorem pre_take (p l : List UInt8) : p.isPrefixOf l = (decide (p.length ≤ l.length) && (l.take p.length == p)) := by
  rw [Bool.eq_iff_iff, List.isPrefixOf_iff_prefix, Bool.and_eq_true, decide_eq_true_eq, beq_iff_eq]
  constructor
  · rintro ⟨t, rfl⟩
    exact ⟨by simp, by simp⟩
  · rintro ⟨_, h⟩
    exact ⟨l.drop p.length, by conv => lhs; lhs; rw [← h]
                               exact List.take_append_drop _ _⟩
theorem byte_nat {k : Nat} (h : k < 256) : (UInt8.ofNat k).toNat = k := by
  have : (UInt8.ofNat k).toNat = k % 256 := rfl
  omega
theorem first_at {l : List UInt8} {k : Nat} (hk : k < 256) (hno : ∀ j, j < k → (pieceL (UInt8.ofNat j)).isPrefixOf l = false) (h : (pieceL (UInt8.ofNat k)).isPrefixOf l = true) : firstL l = some k := by
  unfold firstL
  rw [List.find?_range_eq_some]
  exact ⟨h, List.mem_range.2 hk, fun j hj => by rw [hno j hj]; rfl⟩
theorem first_none {l : List UInt8} (hno : ∀ j, j < 256 → (pieceL (UInt8.ofNat j)).isPrefixOf l = false) : firstL l = none := by
  unfold firstL
  rw [List.find?_eq_none]
  intro j hj
  rw [hno j (List.mem_range.1 hj)]; simp
theorem decR_none {l : List UInt8} (h : ¬ l.length ≤ 2) (h2 : l.take 2 ≠ [92, 10]) (h3 : firstL l = none) : decR l = none := by
  rw [decR, dif_neg h, if_neg h2, h3]
theorem decR_some {l : List UInt8} {n : Nat} (h : ¬ l.length ≤ 2) (h2 : l.take 2 ≠ [92, 10]) (h3 : firstL l = some n) : decR l = (decR (l.drop (pieceL (UInt8.ofNat n)).length)).map (UInt8.ofNat n :: ·) := by
  rw [decR, dif_neg h, if_neg h2, h3]
theorem decR_skip {l : List UInt8} (h : ¬ l.length ≤ 2) (h2 : l.take 2 = [92, 10]) : decR l = decR (l.drop 2) := by
  rw [decR, dif_neg h, if_pos h2]
theorem map_more (o : Option (List UInt8)) (t : List UInt8) (c : UInt8) : (o.map (c :: ·)).map (t ++ ·) = o.map ((t ++ [c]) ++ ·) := by
  cases o <;> simp
theorem ex_drop (l : List UInt8) (n : Nat) (h : n ≤ l.length) : (⟨l.toArray⟩ : ByteArray).extract n l.length = ⟨(l.drop n).toArray⟩ := by
  rw [Go.Lib.extract_eq]
  have e : (l.drop n).take (l.length - n) = l.drop n := List.take_of_length_le (by simp)
  simp [e]
set_option maxRecDepth 100000 in
set_option maxHeartbeats 3200000 in
theorem refBack_any (s : List UInt8) (w : World) (hl : s.length ≤ 3000) :
    Calls Tryd.prog 17 #[S s] w fun e w' => e = .returned (.tuple #[S (backR s).1, E (backR s).2]) ∧ Below w.heap.size w w' := by
  have HB0 := Lib.hid (Below.refl w.heap.size w)
  go_enter Tryd.func17, Tryd.ntmps17
  go_wp2
  go_loopw [4, 5, 6, 7, 8] (fun ts rest n b p wr => ∃ t r : List UInt8, ts = S t ∧ rest = S r ∧ t.length + r.length ≤ s.length ∧ Hid (decR s = (decR r).map (t ++ ·)) ∧ Hid (Below w.heap.size w wr)) (fun _ rest _ _ _ _ => strLen rest)
  case atStart => exact ⟨[], s, rfl, rfl, by simp, Lib.hid (by cases decR s <;> simp), HB0⟩
  case round =>
    obtain ⟨t, r, rfl, rfl, hlen, HD, HB⟩ := hrel
    clear HB0
    have hsr : (ByteArray.mk r.toArray).size = r.length := by simp [ByteArray.size]
    by_cases h2 : 2 < r.length
    · have h2' : (2 : Int) < (r.length : Nat) := by omega
      have h22 : (2 : Int) ≤ (r.length : Nat) := by omega
      have h2n : ¬ r.length ≤ 2 := by omega
      have ex2 := ex_take r 2
      have ed2 := ex_drop r 2 (by omega)
      cases hq : (r.take 2 == [92, 10])
      · have hne : r.take 2 ≠ [92, 10] := by simpa using hq
        have HNE := Lib.hid hne
        clear hne
        obtain ⟨r2, hr2⟩ : ∃ r2, r.take 2 = r2 := ⟨_, rfl⟩
        rw [hr2] at ex2 hq
        clear hr2 ed2
        have hcl : t.length + r.length ≤ 3000 := by omega
        go_wp2
        go_loopw [4, 6, 7, 8] (fun ts n b p wr => ∃ k : Nat, k ≤ 256 ∧ b = .int .i64 (k : Nat) ∧ ts = S t ∧ n = E 0 ∧ Hid (Below w.heap.size w wr) ∧ Hid (∀ j, j < k → (pieceL (UInt8.ofNat j)).isPrefixOf r = false)) (fun _ _ b _ _ => 256 - (intOf b).toNat)
        case atStart => exact ⟨0, by omega, rfl, rfl, rfl, HB, Lib.hid (fun j hj => by omega)⟩
        case round =>
          clear HB
          obtain ⟨k, hk, rfl, rfl, rfl, HB, HNO⟩ := hrel
          by_cases hlt : k < 256
          · have hm : ((k : Nat) : Int) % 256 = ((k : Nat) : Int) := by omega
            have HPC := Lib.hid (fun w => refPiece_any (UInt8.ofNat k) w)
            have cv := conv1 (UInt8.ofNat k)
            have hpre := pre_take (pieceL (UInt8.ofNat k)) r
            obtain ⟨hp1, hp4⟩ := piece_len (UInt8.ofNat k)
            rw [byte_nat hlt] at HPC cv
            cases hpp : (pieceL (UInt8.ofNat k)).isPrefixOf r
            · have HNO2 : Hid (∀ j, j < k + 1 → (pieceL (UInt8.ofNat j)).isPrefixOf r = false) := Lib.hid (fun j hj => by
                by_cases hjk : j = k
                · subst hjk; exact hpp
                · exact HNO.out j (by omega))
              rw [hpp] at hpre
              generalize pieceL (UInt8.ofNat k) = p at *
              have hszp : (ByteArray.mk p.toArray).size = p.length := by simp [ByteArray.size]
              have exp := ex_take r p.length
              clear HNO hpp cv
              by_cases hpl : p.length ≤ r.length
              · have hpl' : ((p.length : Nat) : Int) ≤ ((r.length : Nat) : Int) := by omega
                have hqq : (r.take p.length == p) = false := by
                  rw [decide_eq_true hpl, Bool.true_and] at hpre; exact hpre.symm
                clear hpre
                obtain ⟨rp, hrp⟩ : ∃ rp, r.take p.length = rp := ⟨_, rfl⟩
                rw [hrp] at exp hqq
                clear hrp
                go_wp2_with (go_at_call 24; refine (HPC.out _).mono ?_; rintro e w1 ⟨rfl, hb⟩; have HB1 := Lib.hid (HB.out.trans (hb.mono HB.out.size)); clear hb HB)
                go_roundw
                case rel => exact ⟨k + 1, by omega, by go_num, rfl, rfl, HB1, HNO2⟩
                case measure => simp [intOf]; omega
              · have hpl' : ¬ ((p.length : Nat) : Int) ≤ ((r.length : Nat) : Int) := by omega
                clear hpre exp
                go_wp2_with (go_at_call 24; refine (HPC.out _).mono ?_; rintro e w1 ⟨rfl, hb⟩; have HB1 := Lib.hid (HB.out.trans (hb.mono HB.out.size)); clear hb HB)
                go_roundw
                case rel => exact ⟨k + 1, by omega, by go_num, rfl, rfl, HB1, HNO2⟩
                case measure => simp [intOf]; omega
            · have hfi := first_at hlt HNO.out hpp
              have HD2 := Lib.hid (show decR s = (decR (r.drop (pieceL (UInt8.ofNat k)).length)).map ((t ++ [UInt8.ofNat k]) ++ ·) from by rw [HD.out, decR_some h2n HNE.out hfi, map_more])
              rw [hpp] at hpre
              rw [eq_comm, Bool.and_eq_true, decide_eq_true_eq, beq_iff_eq] at hpre
              obtain ⟨hpl, htk⟩ := hpre
              have exp := ex_take r (pieceL (UInt8.ofNat k)).length
              have edp := ex_drop r (pieceL (UInt8.ofNat k)).length hpl
              rw [htk] at exp
              clear hfi hpp htk HNO HD
              generalize pieceL (UInt8.ofNat k) = p at *
              generalize UInt8.ofNat k = c at *
              have hszp : (ByteArray.mk p.toArray).size = p.length := by simp [ByteArray.size]
              have hpl' : ((p.length : Nat) : Int) ≤ ((r.length : Nat) : Int) := by omega
              have hp0 : (0 : Int) ≤ ((p.length : Nat) : Int) := by omega
              have hpz : (((p.length : Nat) : Int) == 0) = false := by rw [beq_eq_false_iff_ne]; omega
              have ct := fun w => run_string_add_lists (P := Tryd.prog) w t [c] (by omega) (by simp)
              have hnl : (t ++ [c]).length + (r.drop p.length).length ≤ s.length := by simp; omega
              have hms : (r.drop p.length).length < r.length := by simp; omega
              have HNL := Lib.hid hnl
              have HMS := Lib.hid hms
              clear hnl hms
              generalize r.drop p.length = r' at *
              go_wp2_with (go_at_call 24; refine (HPC.out _).mono ?_; rintro e w1 ⟨rfl, hb⟩; have HB1 := Lib.hid (HB.out.trans (hb.mono HB.out.size)); clear hb HB)
              have HB2 := Lib.hid (HB1.out.alloc HB1.out.size (.cells #[.int .u8 ((k : Nat) : Int)] 5))
              go_roundw
              case rel => exact ⟨t ++ [c], r', rfl, rfl, HNL.out, HD2, HB2⟩
              case measure => simp [strLen, ByteArray.size]; exact HMS.out
          · obtain rfl : k = 256 := by omega
            have HE := Lib.hid (show backR s = ([], 1) from by unfold backR; rw [HD.out, decR_none h2n HNE.out (first_none HNO.out)]; rfl)
            clear HNO HD HNE hk hlt
            go_wp2
            go_ret2
            rw [HE.out]
            exact ⟨rfl, HB.out⟩
      · have HD2 := Lib.hid (show decR s = (decR (r.drop 2)).map (t ++ ·) from by rw [HD.out, decR_skip h2n (by simpa using hq)])
        obtain ⟨r2, hr2⟩ : ∃ r2, r.take 2 = r2 := ⟨_, rfl⟩
        rw [hr2] at ex2 hq
        clear hr2 HD
        go_wp2
        go_roundw
        case rel => exact ⟨t, r.drop 2, rfl, by first | rfl | simp, by simp; omega, HD2, HB⟩
        case measure => simp [strLen, ByteArray.size]; omega
    · have h2' : ¬ (2 : Int) < (r.length : Nat) := by omega
      have HE := Lib.hid (show backR s = if okL t s then (t, 0) else ([], 1) from by
        have e := HD.out
        rw [decR_short (by omega : r.length ≤ 2)] at e
        simp only [Option.map_some, List.append_nil] at e
        unfold backR; rw [e])
      have htl : t.length ≤ 10000 := by omega
      clear HD hlen hsr h2
      go_wp2
      go_loopw [9] (fun i wr => ∃ k : Nat, k ≤ 301 ∧ i = .int .i64 (k : Nat) ∧ Hid (Below w.heap.size w wr) ∧ Hid (∀ j, j < k → listL t (j : Int) ≠ s)) (fun i _ => 301 - (intOf i).toNat)
      case atStart => exact ⟨0, by omega, rfl, HB, Lib.hid (fun j hj => by omega)⟩
      case round =>
        clear HB
        obtain ⟨k, hk, rfl, HBK, HNO⟩ := hrel
        by_cases hlt : k < 301
        · have hlt' : (k : Int) ≤ 300 := by omega
          have HLS := Lib.hid (refList_any t (k : Int) wr htl (by omega))
          cases heq : (listL t (k : Int) == s)
          · have HNE := Lib.hid (show ∀ j, j < k + 1 → listL t (j : Int) ≠ s from fun j hj => by
              by_cases hjk : j = k
              · subst hjk; simpa using heq
              · exact HNO.out j (by omega))
            obtain ⟨ls, hls⟩ : ∃ ls, listL t (k : Int) = ls := ⟨_, rfl⟩
            rw [hls] at HLS heq
            clear hls
            go_wp2_with (go_at_call 19; refine HLS.out.mono ?_; rintro e w5 ⟨rfl, hb5⟩; have HB5 := Lib.hid (HBK.out.trans (hb5.mono HBK.out.size)); clear hb5)
            go_roundw
            case rel => exact ⟨k + 1, by omega, by go_num, HB5, HNE⟩
            case measure => simp [intOf]; omega
          · have HOK := Lib.hid (show okL t s = true from by
              unfold okL
              rw [List.any_eq_true]
              exact ⟨k, List.mem_range.2 hlt, heq⟩)
            obtain ⟨ls, hls⟩ : ∃ ls, listL t (k : Int) = ls := ⟨_, rfl⟩
            rw [hls] at HLS heq
            clear hls
            go_wp2_with (go_at_call 19; refine HLS.out.mono ?_; rintro e w5 ⟨rfl, hb5⟩; have HB5 := Lib.hid (HBK.out.trans (hb5.mono HBK.out.size)); clear hb5)
            go_ret2
            rw [HE.out, if_pos HOK.out]
            exact ⟨rfl, HB5.out⟩
        · obtain rfl : k = 301 := by omega
          have HOK := Lib.hid (show ¬ okL t s = true from by
            unfold okL
            rw [List.any_eq_true]
            rintro ⟨j, hj, he⟩
            exact HNO.out j (List.mem_range.1 hj) (by simpa using he))
          go_wp2
          go_ret2
          rw [HE.out, if_neg HOK.out]
          exact ⟨rfl, HBK.out⟩
end Go.Proofs.YtpgglnibfojdgaaDoor.Tr
