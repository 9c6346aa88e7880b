/- The reference's Parse: the walks of what is turned. -/
import Derived.Test.YtcijhfdccbgcpaaDoorAdRP
namespace Go.Proofs.YtcijhfdccbgcpaaDoor.Ad
open Go.RowKit Go.Shelf
set_option linter.unusedVariables false
set_option linter.unusedSimpArgs false
set_option maxRecDepth 100000 in
set_option maxHeartbeats 3200000 in
theorem rparse_b_na (t s : List UInt8) (x y u : List UInt8) (two : Bool) (yb : Bool) (e : Int) (a b : A3) (w : World) (hs : s = t ++ [33]) (hl : (s : List UInt8).length ≤ 1000) (hx : cutB 44 t = (x, y, two)) (ha : readR x = (a, false)) (hb : readR y = (b, yb)) (hp : printR a b true = (u, e)) (hcc : True) :
    Calls Tryd.prog 17 #[S s] w fun e w' => e = .returned (PV (parseR s)) ∧ Below w.heap.size w w' := by
  have h1 : Lib.hasSuffix s [33] = true := by rw [hs, suffix_last]; rfl
  have h2 : stripN s = t := by rw [hs]; unfold stripN Lib.trimSuffix; rw [suffix_last]; simp
  have hlt : (t : List UInt8).length ≤ 1000 := by first | decide | (rw [← h2]; exact Nat.le_trans (strip_len _) hl)
  have hlx := cut_len hx
  have HO := Lib.hid (show parseR s = ((⟨0, 0, 0⟩, ⟨0, 0, 0⟩, false), 121) from by
    unfold parseR
    simp only [h1, h2, hx, ha, hb, hp]
    rw [if_neg (fun q => by simp at q)])
  have HS0 := Lib.hid (rs0 w true)
  have HA := Lib.hid (fun w' => rread_any x w' (by omega))
  rw [ha] at HA
  have HB := Lib.hid (fun w' => rread_any y w' (by omega))
  rw [hb] at HB
  have HP := Lib.hid (fun w' => rprint_any a b true w')
  rw [hp] at HP
  have HC := Lib.hid hx
  have hne : (s == []) = false := by rw [hs, beq_eq_false_iff_ne]; simp
  have hneN : (s != []) = true := by rw [hs, bne_iff_ne]; simp
  have hsz : (ByteArray.mk s.toArray).size = s.length := by simp [ByteArray.size]
  have hpos : 0 < s.length := by rw [hs]; simp
  have hlast : ((ByteArray.mk s.toArray)[s.length - 1]'(by simp only [ByteArray.size]; simp; omega)) = 33 := last_at hs _
  have m1 : IntKind.i64.wrap ((s.length : Int) - 1) = (s.length : Int) - 1 := by rw [IntKind.wrap_i64]; omega
  have m5 : ((s.length : Int) - 1).toNat = s.length - 1 := by omega
  have m6 : (0 : Int) ≤ (s.length : Int) - 1 := by omega
  have m7 : (s.length : Int) - 1 < (s.length : Int) := by omega
  have m9 : (s.length : Int) - 1 ≤ (s.length : Int) := by omega
  have e4 : (⟨s.toArray⟩ : ByteArray).extract 0 (s.length - 1) = ⟨t.toArray⟩ := by rw [ex_take, hs]; simp
  have hszt : (ByteArray.mk t.toArray).size = t.length := by simp [ByteArray.size]
  clear h1 h2 hx ha hb hp hlx hs
  unfold PV
  go_enter Tryd.func17, Tryd.ntmps17
  go_wp2
  go_loop [6, 7, 8] (fun p q i => ∃ k : Nat, k ≤ t.length ∧ p = S t ∧ q = S [] ∧ i = .int .i64 (k : Nat) ∧ Hid (cutB 44 t = (t.take k ++ (cutB 44 (t.drop k)).1, (cutB 44 (t.drop k)).2.1, (cutB 44 (t.drop k)).2.2))) (fun _ _ i => t.length - (intOf i).toNat)
  case atStart => exact ⟨0, Nat.zero_le _, rfl, rfl, rfl, Lib.hid (by simp)⟩
  case round =>
    obtain ⟨k, hk, rfl, rfl, rfl, HK⟩ := hrel
    by_cases hlk : k < t.length
    · have hlk' : ((k : Nat) : Int) < ((t.length : Nat) : Int) := by omega
      have hy : ((ByteArray.mk t.toArray)[k]'hlk) = t[k] := rfl
      have hst := cut44_step hlk
      by_cases h7 : t[k] = 44
      · rw [if_pos h7] at hst
        have hc := HK.out
        rw [HC.out, hst, List.append_nil] at hc
        have e5 := ex_take (l := t) k
        have e6 := ex_drop (l := t) (k + 1)
        have hk1 : ((k : Nat) : Int) + 1 ≤ ((t.length : Nat) : Int) := by omega
        have hk2 : (((k : Nat) : Int) + 1).toNat = k + 1 := by omega
        have hk3 : ((k : Nat) : Int) ≤ ((t.length : Nat) : Int) := by omega
        have hcx : t.take k = x ∧ t.drop (k + 1) = y := by
          simp only [Prod.mk.injEq] at hc; exact ⟨hc.1.symm, hc.2.1.symm⟩
        rw [hcx.1] at e5
        rw [hcx.2] at e6
        clear HK hst hc HC hcx
        rw [h7] at hy
        go_wp2_with (first
          | (go_at_call 31; refine (HA.out _).mono ?_; rintro e w1 ⟨rfl, hb⟩; have HX1 := Lib.hid ((Below.refl w1.heap.size w1).alloc (Nat.le_refl _) (.cells #[E a.k, E a.n, E a.m] 31)); have HS1 := Lib.hid ((RS.below HS0.out hb).below HX1.out); have HN1 := Lib.hid (show NA w1.heap.size a _ from heap_alloc_new w1 (.cells #[E a.k, E a.n, E a.m] 31)); clear hb HA)
          | (go_at_call 31; have hn1 := HN1.out; clear HN1; refine (HB.out _).mono ?_; rintro e w2 ⟨rfl, hb⟩; have HX2 := Lib.hid ((Below.refl w2.heap.size w2).alloc (Nat.le_refl _) (.cells #[E b.k, E b.n, E b.m] 31)); have HS2 := Lib.hid ((RS.below HS1.out hb).below HX2.out); have HN9 := Lib.hid ((NA.below hn1 hb).below HX2.out); have HNB := Lib.hid (show NA w2.heap.size b _ from heap_alloc_new w2 (.cells #[E b.k, E b.n, E b.m] 31)); have HNE := Lib.hid (show w.heap.size + 1 ≠ w2.heap.size from by have h1 := lt_heap ((RS.below HS1.out hb).2.1); omega); clear hb hn1 HB; obtain ⟨q0, q1, q2, q3, q4, q5, q6⟩ := RCt.cells HS2.out.2.1; obtain ⟨u0, u1, u2, u3, u4, u5, u6⟩ := rct_unfrozen HS2.out.2.1; obtain ⟨n0, n1, n2⟩ := HN9.out.cells; have HS3 := Lib.hid (HS2.out.setA a); have HNC := Lib.hid (HNB.out.keep HNE.out 0 1 2 (E a.k) (E a.n) (E a.m)); obtain ⟨r0, r1, r2, r3, r4, r5, r6⟩ := RCt.cells HS3.out.2.1; obtain ⟨v0, v1, v2, v3, v4, v5, v6⟩ := rct_unfrozen HS3.out.2.1; obtain ⟨m0, m1, m2⟩ := HNC.out.cells; have HS4 := Lib.hid (HS3.out.setB b); obtain ⟨s0, s1, s2, s3, s4, s5, s6⟩ := RCt.cells HS4.out.2.1)
          | (go_at_call 14; refine (HP.out _).mono ?_; rintro e w3 ⟨rfl, hb⟩; have HS5 := Lib.hid (HS4.out.below hb); have HZ5 := Lib.hid (show RZ w ⟨0, 0, 0⟩ ⟨0, 0, 0⟩ false w3 from ⟨HS5.out.1, HS5.out.2.2⟩); clear hb HP; obtain ⟨t0, t1, t2, t3, t4, t5, t6⟩ := RCt.cells HS5.out.2.1; obtain ⟨o0, o1, o2, o3, o4, o5, o6⟩ := RCt.cells HS5.out.1; obtain ⟨z0, z1, z2, z3, z4, z5, z6⟩ := rct_unfrozen HS5.out.1))
        refine bodyPost_ret (v := .tuple #[RV ⟨0, 0, 0⟩ ⟨0, 0, 0⟩ false, E 121]) ?_ ?_ ?_
        · exact (HZ5.out.set ⟨0, 0, 0⟩ ⟨0, 0, 0⟩ false).ans rfl rfl
        · rfl
        · exact ⟨by rw [HO.out], (HZ5.out.set ⟨0, 0, 0⟩ ⟨0, 0, 0⟩ false).2⟩
      · rw [if_neg h7] at hst
        have HK2 := Lib.hid (show cutB 44 t = (t.take (k + 1) ++ (cutB 44 (t.drop (k + 1))).1, (cutB 44 (t.drop (k + 1))).2.1, (cutB 44 (t.drop (k + 1))).2.2) from by
          rw [HK.out, hst, List.take_succ_eq_append_getElem hlk, List.append_assoc]; rfl)
        have n7 : ((((t[k]).toNat : Nat) : Int) == 44) = false := byte_ne' h7
        clear HK hst HA HB HP h7
        generalize t[k] = cc at *
        go_wp2
        go_round
        case rel => exact ⟨k + 1, by omega, rfl, rfl, by go_num, HK2⟩
        case measure => simp [intOf]; omega
    · obtain rfl : k = t.length := by omega
      have hlk' : ¬ ((t.length : Nat) : Int) < ((t.length : Nat) : Int) := by omega
      have hc := HK.out
      rw [HC.out, List.drop_of_length_le (Nat.le_refl _), List.take_of_length_le (Nat.le_refl _)] at hc
      obtain ⟨hcx, hcy⟩ : t = x ∧ [] = y := by
        have h1 : x = t ++ (cutB 44 ([] : List UInt8)).1 := congrArg (fun p => p.1) hc
        have h2 : y = (cutB 44 ([] : List UInt8)).2.1 := congrArg (fun p => p.2.1) hc
        exact ⟨by rw [h1]; simp [cutB], by rw [h2]; rfl⟩
      clear hc HK HC
      rw [← hcx] at HA
      rw [← hcy] at HB
      clear hcx hcy
      go_wp2_with (first
        | (go_at_call 31; refine (HA.out _).mono ?_; rintro e w1 ⟨rfl, hb⟩; have HX1 := Lib.hid ((Below.refl w1.heap.size w1).alloc (Nat.le_refl _) (.cells #[E a.k, E a.n, E a.m] 31)); have HS1 := Lib.hid ((RS.below HS0.out hb).below HX1.out); have HN1 := Lib.hid (show NA w1.heap.size a _ from heap_alloc_new w1 (.cells #[E a.k, E a.n, E a.m] 31)); clear hb HA)
        | (go_at_call 31; have hn1 := HN1.out; clear HN1; refine (HB.out _).mono ?_; rintro e w2 ⟨rfl, hb⟩; have HX2 := Lib.hid ((Below.refl w2.heap.size w2).alloc (Nat.le_refl _) (.cells #[E b.k, E b.n, E b.m] 31)); have HS2 := Lib.hid ((RS.below HS1.out hb).below HX2.out); have HN9 := Lib.hid ((NA.below hn1 hb).below HX2.out); have HNB := Lib.hid (show NA w2.heap.size b _ from heap_alloc_new w2 (.cells #[E b.k, E b.n, E b.m] 31)); have HNE := Lib.hid (show w.heap.size + 1 ≠ w2.heap.size from by have h1 := lt_heap ((RS.below HS1.out hb).2.1); omega); clear hb hn1 HB; obtain ⟨q0, q1, q2, q3, q4, q5, q6⟩ := RCt.cells HS2.out.2.1; obtain ⟨u0, u1, u2, u3, u4, u5, u6⟩ := rct_unfrozen HS2.out.2.1; obtain ⟨n0, n1, n2⟩ := HN9.out.cells; have HS3 := Lib.hid (HS2.out.setA a); have HNC := Lib.hid (HNB.out.keep HNE.out 0 1 2 (E a.k) (E a.n) (E a.m)); obtain ⟨r0, r1, r2, r3, r4, r5, r6⟩ := RCt.cells HS3.out.2.1; obtain ⟨v0, v1, v2, v3, v4, v5, v6⟩ := rct_unfrozen HS3.out.2.1; obtain ⟨m0, m1, m2⟩ := HNC.out.cells; have HS4 := Lib.hid (HS3.out.setB b); obtain ⟨s0, s1, s2, s3, s4, s5, s6⟩ := RCt.cells HS4.out.2.1)
        | (go_at_call 14; refine (HP.out _).mono ?_; rintro e w3 ⟨rfl, hb⟩; have HS5 := Lib.hid (HS4.out.below hb); have HZ5 := Lib.hid (show RZ w ⟨0, 0, 0⟩ ⟨0, 0, 0⟩ false w3 from ⟨HS5.out.1, HS5.out.2.2⟩); clear hb HP; obtain ⟨t0, t1, t2, t3, t4, t5, t6⟩ := RCt.cells HS5.out.2.1; obtain ⟨o0, o1, o2, o3, o4, o5, o6⟩ := RCt.cells HS5.out.1; obtain ⟨z0, z1, z2, z3, z4, z5, z6⟩ := rct_unfrozen HS5.out.1))
      refine bodyPost_ret (v := .tuple #[RV ⟨0, 0, 0⟩ ⟨0, 0, 0⟩ false, E 121]) ?_ ?_ ?_
      · exact (HZ5.out.set ⟨0, 0, 0⟩ ⟨0, 0, 0⟩ false).ans rfl rfl
      · rfl
      · exact ⟨by rw [HO.out], (HZ5.out.set ⟨0, 0, 0⟩ ⟨0, 0, 0⟩ false).2⟩
set_option maxRecDepth 100000 in
set_option maxHeartbeats 3200000 in
theorem rparse_b_nb (t s : List UInt8) (x y u : List UInt8) (two : Bool) (e : Int) (a b : A3) (w : World) (hs : s = t ++ [33]) (hl : (s : List UInt8).length ≤ 1000) (hx : cutB 44 t = (x, y, two)) (ha : readR x = (a, true)) (hb : readR y = (b, false)) (hp : printR a b true = (u, e)) (hcc : True) :
    Calls Tryd.prog 17 #[S s] w fun e w' => e = .returned (PV (parseR s)) ∧ Below w.heap.size w w' := by
  have h1 : Lib.hasSuffix s [33] = true := by rw [hs, suffix_last]; rfl
  have h2 : stripN s = t := by rw [hs]; unfold stripN Lib.trimSuffix; rw [suffix_last]; simp
  have hlt : (t : List UInt8).length ≤ 1000 := by first | decide | (rw [← h2]; exact Nat.le_trans (strip_len _) hl)
  have hlx := cut_len hx
  have HO := Lib.hid (show parseR s = ((⟨0, 0, 0⟩, ⟨0, 0, 0⟩, false), 121) from by
    unfold parseR
    simp only [h1, h2, hx, ha, hb, hp]
    rw [if_neg (fun q => by simp at q)])
  have HS0 := Lib.hid (rs0 w true)
  have HA := Lib.hid (fun w' => rread_any x w' (by omega))
  rw [ha] at HA
  have HB := Lib.hid (fun w' => rread_any y w' (by omega))
  rw [hb] at HB
  have HP := Lib.hid (fun w' => rprint_any a b true w')
  rw [hp] at HP
  have HC := Lib.hid hx
  have hne : (s == []) = false := by rw [hs, beq_eq_false_iff_ne]; simp
  have hneN : (s != []) = true := by rw [hs, bne_iff_ne]; simp
  have hsz : (ByteArray.mk s.toArray).size = s.length := by simp [ByteArray.size]
  have hpos : 0 < s.length := by rw [hs]; simp
  have hlast : ((ByteArray.mk s.toArray)[s.length - 1]'(by simp only [ByteArray.size]; simp; omega)) = 33 := last_at hs _
  have m1 : IntKind.i64.wrap ((s.length : Int) - 1) = (s.length : Int) - 1 := by rw [IntKind.wrap_i64]; omega
  have m5 : ((s.length : Int) - 1).toNat = s.length - 1 := by omega
  have m6 : (0 : Int) ≤ (s.length : Int) - 1 := by omega
  have m7 : (s.length : Int) - 1 < (s.length : Int) := by omega
  have m9 : (s.length : Int) - 1 ≤ (s.length : Int) := by omega
  have e4 : (⟨s.toArray⟩ : ByteArray).extract 0 (s.length - 1) = ⟨t.toArray⟩ := by rw [ex_take, hs]; simp
  have hszt : (ByteArray.mk t.toArray).size = t.length := by simp [ByteArray.size]
  clear h1 h2 hx ha hb hp hlx hs
  unfold PV
  go_enter Tryd.func17, Tryd.ntmps17
  go_wp2
  go_loop [6, 7, 8] (fun p q i => ∃ k : Nat, k ≤ t.length ∧ p = S t ∧ q = S [] ∧ i = .int .i64 (k : Nat) ∧ Hid (cutB 44 t = (t.take k ++ (cutB 44 (t.drop k)).1, (cutB 44 (t.drop k)).2.1, (cutB 44 (t.drop k)).2.2))) (fun _ _ i => t.length - (intOf i).toNat)
  case atStart => exact ⟨0, Nat.zero_le _, rfl, rfl, rfl, Lib.hid (by simp)⟩
  case round =>
    obtain ⟨k, hk, rfl, rfl, rfl, HK⟩ := hrel
    by_cases hlk : k < t.length
    · have hlk' : ((k : Nat) : Int) < ((t.length : Nat) : Int) := by omega
      have hy : ((ByteArray.mk t.toArray)[k]'hlk) = t[k] := rfl
      have hst := cut44_step hlk
      by_cases h7 : t[k] = 44
      · rw [if_pos h7] at hst
        have hc := HK.out
        rw [HC.out, hst, List.append_nil] at hc
        have e5 := ex_take (l := t) k
        have e6 := ex_drop (l := t) (k + 1)
        have hk1 : ((k : Nat) : Int) + 1 ≤ ((t.length : Nat) : Int) := by omega
        have hk2 : (((k : Nat) : Int) + 1).toNat = k + 1 := by omega
        have hk3 : ((k : Nat) : Int) ≤ ((t.length : Nat) : Int) := by omega
        have hcx : t.take k = x ∧ t.drop (k + 1) = y := by
          simp only [Prod.mk.injEq] at hc; exact ⟨hc.1.symm, hc.2.1.symm⟩
        rw [hcx.1] at e5
        rw [hcx.2] at e6
        clear HK hst hc HC hcx
        rw [h7] at hy
        go_wp2_with (first
          | (go_at_call 31; refine (HA.out _).mono ?_; rintro e w1 ⟨rfl, hb⟩; have HX1 := Lib.hid ((Below.refl w1.heap.size w1).alloc (Nat.le_refl _) (.cells #[E a.k, E a.n, E a.m] 31)); have HS1 := Lib.hid ((RS.below HS0.out hb).below HX1.out); have HN1 := Lib.hid (show NA w1.heap.size a _ from heap_alloc_new w1 (.cells #[E a.k, E a.n, E a.m] 31)); clear hb HA)
          | (go_at_call 31; have hn1 := HN1.out; clear HN1; refine (HB.out _).mono ?_; rintro e w2 ⟨rfl, hb⟩; have HX2 := Lib.hid ((Below.refl w2.heap.size w2).alloc (Nat.le_refl _) (.cells #[E b.k, E b.n, E b.m] 31)); have HS2 := Lib.hid ((RS.below HS1.out hb).below HX2.out); have HN9 := Lib.hid ((NA.below hn1 hb).below HX2.out); have HNB := Lib.hid (show NA w2.heap.size b _ from heap_alloc_new w2 (.cells #[E b.k, E b.n, E b.m] 31)); have HNE := Lib.hid (show w.heap.size + 1 ≠ w2.heap.size from by have h1 := lt_heap ((RS.below HS1.out hb).2.1); omega); clear hb hn1 HB; obtain ⟨q0, q1, q2, q3, q4, q5, q6⟩ := RCt.cells HS2.out.2.1; obtain ⟨u0, u1, u2, u3, u4, u5, u6⟩ := rct_unfrozen HS2.out.2.1; obtain ⟨n0, n1, n2⟩ := HN9.out.cells; have HS3 := Lib.hid (HS2.out.setA a); have HNC := Lib.hid (HNB.out.keep HNE.out 0 1 2 (E a.k) (E a.n) (E a.m)); obtain ⟨r0, r1, r2, r3, r4, r5, r6⟩ := RCt.cells HS3.out.2.1; obtain ⟨v0, v1, v2, v3, v4, v5, v6⟩ := rct_unfrozen HS3.out.2.1; obtain ⟨m0, m1, m2⟩ := HNC.out.cells; have HS4 := Lib.hid (HS3.out.setB b); obtain ⟨s0, s1, s2, s3, s4, s5, s6⟩ := RCt.cells HS4.out.2.1)
          | (go_at_call 14; refine (HP.out _).mono ?_; rintro e w3 ⟨rfl, hb⟩; have HS5 := Lib.hid (HS4.out.below hb); have HZ5 := Lib.hid (show RZ w ⟨0, 0, 0⟩ ⟨0, 0, 0⟩ false w3 from ⟨HS5.out.1, HS5.out.2.2⟩); clear hb HP; obtain ⟨t0, t1, t2, t3, t4, t5, t6⟩ := RCt.cells HS5.out.2.1; obtain ⟨o0, o1, o2, o3, o4, o5, o6⟩ := RCt.cells HS5.out.1; obtain ⟨z0, z1, z2, z3, z4, z5, z6⟩ := rct_unfrozen HS5.out.1))
        refine bodyPost_ret (v := .tuple #[RV ⟨0, 0, 0⟩ ⟨0, 0, 0⟩ false, E 121]) ?_ ?_ ?_
        · exact (HZ5.out.set ⟨0, 0, 0⟩ ⟨0, 0, 0⟩ false).ans rfl rfl
        · rfl
        · exact ⟨by rw [HO.out], (HZ5.out.set ⟨0, 0, 0⟩ ⟨0, 0, 0⟩ false).2⟩
      · rw [if_neg h7] at hst
        have HK2 := Lib.hid (show cutB 44 t = (t.take (k + 1) ++ (cutB 44 (t.drop (k + 1))).1, (cutB 44 (t.drop (k + 1))).2.1, (cutB 44 (t.drop (k + 1))).2.2) from by
          rw [HK.out, hst, List.take_succ_eq_append_getElem hlk, List.append_assoc]; rfl)
        have n7 : ((((t[k]).toNat : Nat) : Int) == 44) = false := byte_ne' h7
        clear HK hst HA HB HP h7
        generalize t[k] = cc at *
        go_wp2
        go_round
        case rel => exact ⟨k + 1, by omega, rfl, rfl, by go_num, HK2⟩
        case measure => simp [intOf]; omega
    · obtain rfl : k = t.length := by omega
      have hlk' : ¬ ((t.length : Nat) : Int) < ((t.length : Nat) : Int) := by omega
      have hc := HK.out
      rw [HC.out, List.drop_of_length_le (Nat.le_refl _), List.take_of_length_le (Nat.le_refl _)] at hc
      obtain ⟨hcx, hcy⟩ : t = x ∧ [] = y := by
        have h1 : x = t ++ (cutB 44 ([] : List UInt8)).1 := congrArg (fun p => p.1) hc
        have h2 : y = (cutB 44 ([] : List UInt8)).2.1 := congrArg (fun p => p.2.1) hc
        exact ⟨by rw [h1]; simp [cutB], by rw [h2]; rfl⟩
      clear hc HK HC
      rw [← hcx] at HA
      rw [← hcy] at HB
      clear hcx hcy
      go_wp2_with (first
        | (go_at_call 31; refine (HA.out _).mono ?_; rintro e w1 ⟨rfl, hb⟩; have HX1 := Lib.hid ((Below.refl w1.heap.size w1).alloc (Nat.le_refl _) (.cells #[E a.k, E a.n, E a.m] 31)); have HS1 := Lib.hid ((RS.below HS0.out hb).below HX1.out); have HN1 := Lib.hid (show NA w1.heap.size a _ from heap_alloc_new w1 (.cells #[E a.k, E a.n, E a.m] 31)); clear hb HA)
        | (go_at_call 31; have hn1 := HN1.out; clear HN1; refine (HB.out _).mono ?_; rintro e w2 ⟨rfl, hb⟩; have HX2 := Lib.hid ((Below.refl w2.heap.size w2).alloc (Nat.le_refl _) (.cells #[E b.k, E b.n, E b.m] 31)); have HS2 := Lib.hid ((RS.below HS1.out hb).below HX2.out); have HN9 := Lib.hid ((NA.below hn1 hb).below HX2.out); have HNB := Lib.hid (show NA w2.heap.size b _ from heap_alloc_new w2 (.cells #[E b.k, E b.n, E b.m] 31)); have HNE := Lib.hid (show w.heap.size + 1 ≠ w2.heap.size from by have h1 := lt_heap ((RS.below HS1.out hb).2.1); omega); clear hb hn1 HB; obtain ⟨q0, q1, q2, q3, q4, q5, q6⟩ := RCt.cells HS2.out.2.1; obtain ⟨u0, u1, u2, u3, u4, u5, u6⟩ := rct_unfrozen HS2.out.2.1; obtain ⟨n0, n1, n2⟩ := HN9.out.cells; have HS3 := Lib.hid (HS2.out.setA a); have HNC := Lib.hid (HNB.out.keep HNE.out 0 1 2 (E a.k) (E a.n) (E a.m)); obtain ⟨r0, r1, r2, r3, r4, r5, r6⟩ := RCt.cells HS3.out.2.1; obtain ⟨v0, v1, v2, v3, v4, v5, v6⟩ := rct_unfrozen HS3.out.2.1; obtain ⟨m0, m1, m2⟩ := HNC.out.cells; have HS4 := Lib.hid (HS3.out.setB b); obtain ⟨s0, s1, s2, s3, s4, s5, s6⟩ := RCt.cells HS4.out.2.1)
        | (go_at_call 14; refine (HP.out _).mono ?_; rintro e w3 ⟨rfl, hb⟩; have HS5 := Lib.hid (HS4.out.below hb); have HZ5 := Lib.hid (show RZ w ⟨0, 0, 0⟩ ⟨0, 0, 0⟩ false w3 from ⟨HS5.out.1, HS5.out.2.2⟩); clear hb HP; obtain ⟨t0, t1, t2, t3, t4, t5, t6⟩ := RCt.cells HS5.out.2.1; obtain ⟨o0, o1, o2, o3, o4, o5, o6⟩ := RCt.cells HS5.out.1; obtain ⟨z0, z1, z2, z3, z4, z5, z6⟩ := rct_unfrozen HS5.out.1))
      refine bodyPost_ret (v := .tuple #[RV ⟨0, 0, 0⟩ ⟨0, 0, 0⟩ false, E 121]) ?_ ?_ ?_
      · exact (HZ5.out.set ⟨0, 0, 0⟩ ⟨0, 0, 0⟩ false).ans rfl rfl
      · rfl
      · exact ⟨by rw [HO.out], (HZ5.out.set ⟨0, 0, 0⟩ ⟨0, 0, 0⟩ false).2⟩
set_option maxRecDepth 100000 in
set_option maxHeartbeats 3200000 in
theorem rparse_b_ne (t s : List UInt8) (x y u : List UInt8) (two : Bool) (a b : A3) (w : World) (hs : s = t ++ [33]) (hl : (s : List UInt8).length ≤ 1000) (hx : cutB 44 t = (x, y, two)) (ha : readR x = (a, true)) (hb : readR y = (b, true)) (hp : printR a b true = (u, 1)) (hcc : True) :
    Calls Tryd.prog 17 #[S s] w fun e w' => e = .returned (PV (parseR s)) ∧ Below w.heap.size w w' := by
  have h1 : Lib.hasSuffix s [33] = true := by rw [hs, suffix_last]; rfl
  have h2 : stripN s = t := by rw [hs]; unfold stripN Lib.trimSuffix; rw [suffix_last]; simp
  have hlt : (t : List UInt8).length ≤ 1000 := by first | decide | (rw [← h2]; exact Nat.le_trans (strip_len _) hl)
  have hlx := cut_len hx
  have HO := Lib.hid (show parseR s = ((⟨0, 0, 0⟩, ⟨0, 0, 0⟩, false), 121) from by
    unfold parseR
    simp only [h1, h2, hx, ha, hb, hp]
    rw [if_neg (fun q => by simp at q)])
  have HS0 := Lib.hid (rs0 w true)
  have HA := Lib.hid (fun w' => rread_any x w' (by omega))
  rw [ha] at HA
  have HB := Lib.hid (fun w' => rread_any y w' (by omega))
  rw [hb] at HB
  have HP := Lib.hid (fun w' => rprint_any a b true w')
  rw [hp] at HP
  have HC := Lib.hid hx
  have hne : (s == []) = false := by rw [hs, beq_eq_false_iff_ne]; simp
  have hneN : (s != []) = true := by rw [hs, bne_iff_ne]; simp
  have hsz : (ByteArray.mk s.toArray).size = s.length := by simp [ByteArray.size]
  have hpos : 0 < s.length := by rw [hs]; simp
  have hlast : ((ByteArray.mk s.toArray)[s.length - 1]'(by simp only [ByteArray.size]; simp; omega)) = 33 := last_at hs _
  have m1 : IntKind.i64.wrap ((s.length : Int) - 1) = (s.length : Int) - 1 := by rw [IntKind.wrap_i64]; omega
  have m5 : ((s.length : Int) - 1).toNat = s.length - 1 := by omega
  have m6 : (0 : Int) ≤ (s.length : Int) - 1 := by omega
  have m7 : (s.length : Int) - 1 < (s.length : Int) := by omega
  have m9 : (s.length : Int) - 1 ≤ (s.length : Int) := by omega
  have e4 : (⟨s.toArray⟩ : ByteArray).extract 0 (s.length - 1) = ⟨t.toArray⟩ := by rw [ex_take, hs]; simp
  have hszt : (ByteArray.mk t.toArray).size = t.length := by simp [ByteArray.size]
  clear h1 h2 hx ha hb hp hlx hs
  unfold PV
  go_enter Tryd.func17, Tryd.ntmps17
  go_wp2
  go_loop [6, 7, 8] (fun p q i => ∃ k : Nat, k ≤ t.length ∧ p = S t ∧ q = S [] ∧ i = .int .i64 (k : Nat) ∧ Hid (cutB 44 t = (t.take k ++ (cutB 44 (t.drop k)).1, (cutB 44 (t.drop k)).2.1, (cutB 44 (t.drop k)).2.2))) (fun _ _ i => t.length - (intOf i).toNat)
  case atStart => exact ⟨0, Nat.zero_le _, rfl, rfl, rfl, Lib.hid (by simp)⟩
  case round =>
    obtain ⟨k, hk, rfl, rfl, rfl, HK⟩ := hrel
    by_cases hlk : k < t.length
    · have hlk' : ((k : Nat) : Int) < ((t.length : Nat) : Int) := by omega
      have hy : ((ByteArray.mk t.toArray)[k]'hlk) = t[k] := rfl
      have hst := cut44_step hlk
      by_cases h7 : t[k] = 44
      · rw [if_pos h7] at hst
        have hc := HK.out
        rw [HC.out, hst, List.append_nil] at hc
        have e5 := ex_take (l := t) k
        have e6 := ex_drop (l := t) (k + 1)
        have hk1 : ((k : Nat) : Int) + 1 ≤ ((t.length : Nat) : Int) := by omega
        have hk2 : (((k : Nat) : Int) + 1).toNat = k + 1 := by omega
        have hk3 : ((k : Nat) : Int) ≤ ((t.length : Nat) : Int) := by omega
        have hcx : t.take k = x ∧ t.drop (k + 1) = y := by
          simp only [Prod.mk.injEq] at hc; exact ⟨hc.1.symm, hc.2.1.symm⟩
        rw [hcx.1] at e5
        rw [hcx.2] at e6
        clear HK hst hc HC hcx
        rw [h7] at hy
        go_wp2_with (first
          | (go_at_call 31; refine (HA.out _).mono ?_; rintro e w1 ⟨rfl, hb⟩; have HX1 := Lib.hid ((Below.refl w1.heap.size w1).alloc (Nat.le_refl _) (.cells #[E a.k, E a.n, E a.m] 31)); have HS1 := Lib.hid ((RS.below HS0.out hb).below HX1.out); have HN1 := Lib.hid (show NA w1.heap.size a _ from heap_alloc_new w1 (.cells #[E a.k, E a.n, E a.m] 31)); clear hb HA)
          | (go_at_call 31; have hn1 := HN1.out; clear HN1; refine (HB.out _).mono ?_; rintro e w2 ⟨rfl, hb⟩; have HX2 := Lib.hid ((Below.refl w2.heap.size w2).alloc (Nat.le_refl _) (.cells #[E b.k, E b.n, E b.m] 31)); have HS2 := Lib.hid ((RS.below HS1.out hb).below HX2.out); have HN9 := Lib.hid ((NA.below hn1 hb).below HX2.out); have HNB := Lib.hid (show NA w2.heap.size b _ from heap_alloc_new w2 (.cells #[E b.k, E b.n, E b.m] 31)); have HNE := Lib.hid (show w.heap.size + 1 ≠ w2.heap.size from by have h1 := lt_heap ((RS.below HS1.out hb).2.1); omega); clear hb hn1 HB; obtain ⟨q0, q1, q2, q3, q4, q5, q6⟩ := RCt.cells HS2.out.2.1; obtain ⟨u0, u1, u2, u3, u4, u5, u6⟩ := rct_unfrozen HS2.out.2.1; obtain ⟨n0, n1, n2⟩ := HN9.out.cells; have HS3 := Lib.hid (HS2.out.setA a); have HNC := Lib.hid (HNB.out.keep HNE.out 0 1 2 (E a.k) (E a.n) (E a.m)); obtain ⟨r0, r1, r2, r3, r4, r5, r6⟩ := RCt.cells HS3.out.2.1; obtain ⟨v0, v1, v2, v3, v4, v5, v6⟩ := rct_unfrozen HS3.out.2.1; obtain ⟨m0, m1, m2⟩ := HNC.out.cells; have HS4 := Lib.hid (HS3.out.setB b); obtain ⟨s0, s1, s2, s3, s4, s5, s6⟩ := RCt.cells HS4.out.2.1)
          | (go_at_call 14; refine (HP.out _).mono ?_; rintro e w3 ⟨rfl, hb⟩; have HS5 := Lib.hid (HS4.out.below hb); have HZ5 := Lib.hid (show RZ w ⟨0, 0, 0⟩ ⟨0, 0, 0⟩ false w3 from ⟨HS5.out.1, HS5.out.2.2⟩); clear hb HP; obtain ⟨t0, t1, t2, t3, t4, t5, t6⟩ := RCt.cells HS5.out.2.1; obtain ⟨o0, o1, o2, o3, o4, o5, o6⟩ := RCt.cells HS5.out.1; obtain ⟨z0, z1, z2, z3, z4, z5, z6⟩ := rct_unfrozen HS5.out.1))
        refine bodyPost_ret (v := .tuple #[RV ⟨0, 0, 0⟩ ⟨0, 0, 0⟩ false, E 121]) ?_ ?_ ?_
        · exact (HZ5.out.set ⟨0, 0, 0⟩ ⟨0, 0, 0⟩ false).ans rfl rfl
        · rfl
        · exact ⟨by rw [HO.out], (HZ5.out.set ⟨0, 0, 0⟩ ⟨0, 0, 0⟩ false).2⟩
      · rw [if_neg h7] at hst
        have HK2 := Lib.hid (show cutB 44 t = (t.take (k + 1) ++ (cutB 44 (t.drop (k + 1))).1, (cutB 44 (t.drop (k + 1))).2.1, (cutB 44 (t.drop (k + 1))).2.2) from by
          rw [HK.out, hst, List.take_succ_eq_append_getElem hlk, List.append_assoc]; rfl)
        have n7 : ((((t[k]).toNat : Nat) : Int) == 44) = false := byte_ne' h7
        clear HK hst HA HB HP h7
        generalize t[k] = cc at *
        go_wp2
        go_round
        case rel => exact ⟨k + 1, by omega, rfl, rfl, by go_num, HK2⟩
        case measure => simp [intOf]; omega
    · obtain rfl : k = t.length := by omega
      have hlk' : ¬ ((t.length : Nat) : Int) < ((t.length : Nat) : Int) := by omega
      have hc := HK.out
      rw [HC.out, List.drop_of_length_le (Nat.le_refl _), List.take_of_length_le (Nat.le_refl _)] at hc
      obtain ⟨hcx, hcy⟩ : t = x ∧ [] = y := by
        have h1 : x = t ++ (cutB 44 ([] : List UInt8)).1 := congrArg (fun p => p.1) hc
        have h2 : y = (cutB 44 ([] : List UInt8)).2.1 := congrArg (fun p => p.2.1) hc
        exact ⟨by rw [h1]; simp [cutB], by rw [h2]; rfl⟩
      clear hc HK HC
      rw [← hcx] at HA
      rw [← hcy] at HB
      clear hcx hcy
      go_wp2_with (first
        | (go_at_call 31; refine (HA.out _).mono ?_; rintro e w1 ⟨rfl, hb⟩; have HX1 := Lib.hid ((Below.refl w1.heap.size w1).alloc (Nat.le_refl _) (.cells #[E a.k, E a.n, E a.m] 31)); have HS1 := Lib.hid ((RS.below HS0.out hb).below HX1.out); have HN1 := Lib.hid (show NA w1.heap.size a _ from heap_alloc_new w1 (.cells #[E a.k, E a.n, E a.m] 31)); clear hb HA)
        | (go_at_call 31; have hn1 := HN1.out; clear HN1; refine (HB.out _).mono ?_; rintro e w2 ⟨rfl, hb⟩; have HX2 := Lib.hid ((Below.refl w2.heap.size w2).alloc (Nat.le_refl _) (.cells #[E b.k, E b.n, E b.m] 31)); have HS2 := Lib.hid ((RS.below HS1.out hb).below HX2.out); have HN9 := Lib.hid ((NA.below hn1 hb).below HX2.out); have HNB := Lib.hid (show NA w2.heap.size b _ from heap_alloc_new w2 (.cells #[E b.k, E b.n, E b.m] 31)); have HNE := Lib.hid (show w.heap.size + 1 ≠ w2.heap.size from by have h1 := lt_heap ((RS.below HS1.out hb).2.1); omega); clear hb hn1 HB; obtain ⟨q0, q1, q2, q3, q4, q5, q6⟩ := RCt.cells HS2.out.2.1; obtain ⟨u0, u1, u2, u3, u4, u5, u6⟩ := rct_unfrozen HS2.out.2.1; obtain ⟨n0, n1, n2⟩ := HN9.out.cells; have HS3 := Lib.hid (HS2.out.setA a); have HNC := Lib.hid (HNB.out.keep HNE.out 0 1 2 (E a.k) (E a.n) (E a.m)); obtain ⟨r0, r1, r2, r3, r4, r5, r6⟩ := RCt.cells HS3.out.2.1; obtain ⟨v0, v1, v2, v3, v4, v5, v6⟩ := rct_unfrozen HS3.out.2.1; obtain ⟨m0, m1, m2⟩ := HNC.out.cells; have HS4 := Lib.hid (HS3.out.setB b); obtain ⟨s0, s1, s2, s3, s4, s5, s6⟩ := RCt.cells HS4.out.2.1)
        | (go_at_call 14; refine (HP.out _).mono ?_; rintro e w3 ⟨rfl, hb⟩; have HS5 := Lib.hid (HS4.out.below hb); have HZ5 := Lib.hid (show RZ w ⟨0, 0, 0⟩ ⟨0, 0, 0⟩ false w3 from ⟨HS5.out.1, HS5.out.2.2⟩); clear hb HP; obtain ⟨t0, t1, t2, t3, t4, t5, t6⟩ := RCt.cells HS5.out.2.1; obtain ⟨o0, o1, o2, o3, o4, o5, o6⟩ := RCt.cells HS5.out.1; obtain ⟨z0, z1, z2, z3, z4, z5, z6⟩ := rct_unfrozen HS5.out.1))
      refine bodyPost_ret (v := .tuple #[RV ⟨0, 0, 0⟩ ⟨0, 0, 0⟩ false, E 121]) ?_ ?_ ?_
      · exact (HZ5.out.set ⟨0, 0, 0⟩ ⟨0, 0, 0⟩ false).ans rfl rfl
      · rfl
      · exact ⟨by rw [HO.out], (HZ5.out.set ⟨0, 0, 0⟩ ⟨0, 0, 0⟩ false).2⟩
set_option maxRecDepth 100000 in
set_option maxHeartbeats 3200000 in
theorem rparse_b_nu (t s : List UInt8) (x y u : List UInt8) (two : Bool) (a b : A3) (w : World) (hs : s = t ++ [33]) (hl : (s : List UInt8).length ≤ 1000) (hx : cutB 44 t = (x, y, two)) (ha : readR x = (a, true)) (hb : readR y = (b, true)) (hp : printR a b true = (u, 0)) (hcc : u ≠ s) :
    Calls Tryd.prog 17 #[S s] w fun e w' => e = .returned (PV (parseR s)) ∧ Below w.heap.size w w' := by
  have h1 : Lib.hasSuffix s [33] = true := by rw [hs, suffix_last]; rfl
  have h2 : stripN s = t := by rw [hs]; unfold stripN Lib.trimSuffix; rw [suffix_last]; simp
  have hlt : (t : List UInt8).length ≤ 1000 := by first | decide | (rw [← h2]; exact Nat.le_trans (strip_len _) hl)
  have hlx := cut_len hx
  have HO := Lib.hid (show parseR s = ((⟨0, 0, 0⟩, ⟨0, 0, 0⟩, false), 121) from by
    unfold parseR
    simp only [h1, h2, hx, ha, hb, hp]
    rw [if_neg (fun q => hcc q.2.2.2)])
  have HS0 := Lib.hid (rs0 w true)
  have HA := Lib.hid (fun w' => rread_any x w' (by omega))
  rw [ha] at HA
  have HB := Lib.hid (fun w' => rread_any y w' (by omega))
  rw [hb] at HB
  have HP := Lib.hid (fun w' => rprint_any a b true w')
  rw [hp] at HP
  have HC := Lib.hid hx
  have huB : (u != s) = true := by rw [bne_iff_ne]; exact hcc
  have huE : (u == s) = false := by rw [beq_eq_false_iff_ne]; exact hcc
  have hne : (s == []) = false := by rw [hs, beq_eq_false_iff_ne]; simp
  have hneN : (s != []) = true := by rw [hs, bne_iff_ne]; simp
  have hsz : (ByteArray.mk s.toArray).size = s.length := by simp [ByteArray.size]
  have hpos : 0 < s.length := by rw [hs]; simp
  have hlast : ((ByteArray.mk s.toArray)[s.length - 1]'(by simp only [ByteArray.size]; simp; omega)) = 33 := last_at hs _
  have m1 : IntKind.i64.wrap ((s.length : Int) - 1) = (s.length : Int) - 1 := by rw [IntKind.wrap_i64]; omega
  have m5 : ((s.length : Int) - 1).toNat = s.length - 1 := by omega
  have m6 : (0 : Int) ≤ (s.length : Int) - 1 := by omega
  have m7 : (s.length : Int) - 1 < (s.length : Int) := by omega
  have m9 : (s.length : Int) - 1 ≤ (s.length : Int) := by omega
  have e4 : (⟨s.toArray⟩ : ByteArray).extract 0 (s.length - 1) = ⟨t.toArray⟩ := by rw [ex_take, hs]; simp
  have hszt : (ByteArray.mk t.toArray).size = t.length := by simp [ByteArray.size]
  clear h1 h2 hx ha hb hp hlx hs hcc
  unfold PV
  go_enter Tryd.func17, Tryd.ntmps17
  go_wp2
  go_loop [6, 7, 8] (fun p q i => ∃ k : Nat, k ≤ t.length ∧ p = S t ∧ q = S [] ∧ i = .int .i64 (k : Nat) ∧ Hid (cutB 44 t = (t.take k ++ (cutB 44 (t.drop k)).1, (cutB 44 (t.drop k)).2.1, (cutB 44 (t.drop k)).2.2))) (fun _ _ i => t.length - (intOf i).toNat)
  case atStart => exact ⟨0, Nat.zero_le _, rfl, rfl, rfl, Lib.hid (by simp)⟩
  case round =>
    obtain ⟨k, hk, rfl, rfl, rfl, HK⟩ := hrel
    by_cases hlk : k < t.length
    · have hlk' : ((k : Nat) : Int) < ((t.length : Nat) : Int) := by omega
      have hy : ((ByteArray.mk t.toArray)[k]'hlk) = t[k] := rfl
      have hst := cut44_step hlk
      by_cases h7 : t[k] = 44
      · rw [if_pos h7] at hst
        have hc := HK.out
        rw [HC.out, hst, List.append_nil] at hc
        have e5 := ex_take (l := t) k
        have e6 := ex_drop (l := t) (k + 1)
        have hk1 : ((k : Nat) : Int) + 1 ≤ ((t.length : Nat) : Int) := by omega
        have hk2 : (((k : Nat) : Int) + 1).toNat = k + 1 := by omega
        have hk3 : ((k : Nat) : Int) ≤ ((t.length : Nat) : Int) := by omega
        have hcx : t.take k = x ∧ t.drop (k + 1) = y := by
          simp only [Prod.mk.injEq] at hc; exact ⟨hc.1.symm, hc.2.1.symm⟩
        rw [hcx.1] at e5
        rw [hcx.2] at e6
        clear HK hst hc HC hcx
        rw [h7] at hy
        go_wp2_with (first
          | (go_at_call 31; refine (HA.out _).mono ?_; rintro e w1 ⟨rfl, hb⟩; have HX1 := Lib.hid ((Below.refl w1.heap.size w1).alloc (Nat.le_refl _) (.cells #[E a.k, E a.n, E a.m] 31)); have HS1 := Lib.hid ((RS.below HS0.out hb).below HX1.out); have HN1 := Lib.hid (show NA w1.heap.size a _ from heap_alloc_new w1 (.cells #[E a.k, E a.n, E a.m] 31)); clear hb HA)
          | (go_at_call 31; have hn1 := HN1.out; clear HN1; refine (HB.out _).mono ?_; rintro e w2 ⟨rfl, hb⟩; have HX2 := Lib.hid ((Below.refl w2.heap.size w2).alloc (Nat.le_refl _) (.cells #[E b.k, E b.n, E b.m] 31)); have HS2 := Lib.hid ((RS.below HS1.out hb).below HX2.out); have HN9 := Lib.hid ((NA.below hn1 hb).below HX2.out); have HNB := Lib.hid (show NA w2.heap.size b _ from heap_alloc_new w2 (.cells #[E b.k, E b.n, E b.m] 31)); have HNE := Lib.hid (show w.heap.size + 1 ≠ w2.heap.size from by have h1 := lt_heap ((RS.below HS1.out hb).2.1); omega); clear hb hn1 HB; obtain ⟨q0, q1, q2, q3, q4, q5, q6⟩ := RCt.cells HS2.out.2.1; obtain ⟨u0, u1, u2, u3, u4, u5, u6⟩ := rct_unfrozen HS2.out.2.1; obtain ⟨n0, n1, n2⟩ := HN9.out.cells; have HS3 := Lib.hid (HS2.out.setA a); have HNC := Lib.hid (HNB.out.keep HNE.out 0 1 2 (E a.k) (E a.n) (E a.m)); obtain ⟨r0, r1, r2, r3, r4, r5, r6⟩ := RCt.cells HS3.out.2.1; obtain ⟨v0, v1, v2, v3, v4, v5, v6⟩ := rct_unfrozen HS3.out.2.1; obtain ⟨m0, m1, m2⟩ := HNC.out.cells; have HS4 := Lib.hid (HS3.out.setB b); obtain ⟨s0, s1, s2, s3, s4, s5, s6⟩ := RCt.cells HS4.out.2.1)
          | (go_at_call 14; refine (HP.out _).mono ?_; rintro e w3 ⟨rfl, hb⟩; have HS5 := Lib.hid (HS4.out.below hb); have HZ5 := Lib.hid (show RZ w ⟨0, 0, 0⟩ ⟨0, 0, 0⟩ false w3 from ⟨HS5.out.1, HS5.out.2.2⟩); clear hb HP; obtain ⟨t0, t1, t2, t3, t4, t5, t6⟩ := RCt.cells HS5.out.2.1; obtain ⟨o0, o1, o2, o3, o4, o5, o6⟩ := RCt.cells HS5.out.1; obtain ⟨z0, z1, z2, z3, z4, z5, z6⟩ := rct_unfrozen HS5.out.1))
        refine bodyPost_ret (v := .tuple #[RV ⟨0, 0, 0⟩ ⟨0, 0, 0⟩ false, E 121]) ?_ ?_ ?_
        · exact (HZ5.out.set ⟨0, 0, 0⟩ ⟨0, 0, 0⟩ false).ans rfl rfl
        · rfl
        · exact ⟨by rw [HO.out], (HZ5.out.set ⟨0, 0, 0⟩ ⟨0, 0, 0⟩ false).2⟩
      · rw [if_neg h7] at hst
        have HK2 := Lib.hid (show cutB 44 t = (t.take (k + 1) ++ (cutB 44 (t.drop (k + 1))).1, (cutB 44 (t.drop (k + 1))).2.1, (cutB 44 (t.drop (k + 1))).2.2) from by
          rw [HK.out, hst, List.take_succ_eq_append_getElem hlk, List.append_assoc]; rfl)
        have n7 : ((((t[k]).toNat : Nat) : Int) == 44) = false := byte_ne' h7
        clear HK hst HA HB HP h7
        generalize t[k] = cc at *
        go_wp2
        go_round
        case rel => exact ⟨k + 1, by omega, rfl, rfl, by go_num, HK2⟩
        case measure => simp [intOf]; omega
    · obtain rfl : k = t.length := by omega
      have hlk' : ¬ ((t.length : Nat) : Int) < ((t.length : Nat) : Int) := by omega
      have hc := HK.out
      rw [HC.out, List.drop_of_length_le (Nat.le_refl _), List.take_of_length_le (Nat.le_refl _)] at hc
      obtain ⟨hcx, hcy⟩ : t = x ∧ [] = y := by
        have h1 : x = t ++ (cutB 44 ([] : List UInt8)).1 := congrArg (fun p => p.1) hc
        have h2 : y = (cutB 44 ([] : List UInt8)).2.1 := congrArg (fun p => p.2.1) hc
        exact ⟨by rw [h1]; simp [cutB], by rw [h2]; rfl⟩
      clear hc HK HC
      rw [← hcx] at HA
      rw [← hcy] at HB
      clear hcx hcy
      go_wp2_with (first
        | (go_at_call 31; refine (HA.out _).mono ?_; rintro e w1 ⟨rfl, hb⟩; have HX1 := Lib.hid ((Below.refl w1.heap.size w1).alloc (Nat.le_refl _) (.cells #[E a.k, E a.n, E a.m] 31)); have HS1 := Lib.hid ((RS.below HS0.out hb).below HX1.out); have HN1 := Lib.hid (show NA w1.heap.size a _ from heap_alloc_new w1 (.cells #[E a.k, E a.n, E a.m] 31)); clear hb HA)
        | (go_at_call 31; have hn1 := HN1.out; clear HN1; refine (HB.out _).mono ?_; rintro e w2 ⟨rfl, hb⟩; have HX2 := Lib.hid ((Below.refl w2.heap.size w2).alloc (Nat.le_refl _) (.cells #[E b.k, E b.n, E b.m] 31)); have HS2 := Lib.hid ((RS.below HS1.out hb).below HX2.out); have HN9 := Lib.hid ((NA.below hn1 hb).below HX2.out); have HNB := Lib.hid (show NA w2.heap.size b _ from heap_alloc_new w2 (.cells #[E b.k, E b.n, E b.m] 31)); have HNE := Lib.hid (show w.heap.size + 1 ≠ w2.heap.size from by have h1 := lt_heap ((RS.below HS1.out hb).2.1); omega); clear hb hn1 HB; obtain ⟨q0, q1, q2, q3, q4, q5, q6⟩ := RCt.cells HS2.out.2.1; obtain ⟨u0, u1, u2, u3, u4, u5, u6⟩ := rct_unfrozen HS2.out.2.1; obtain ⟨n0, n1, n2⟩ := HN9.out.cells; have HS3 := Lib.hid (HS2.out.setA a); have HNC := Lib.hid (HNB.out.keep HNE.out 0 1 2 (E a.k) (E a.n) (E a.m)); obtain ⟨r0, r1, r2, r3, r4, r5, r6⟩ := RCt.cells HS3.out.2.1; obtain ⟨v0, v1, v2, v3, v4, v5, v6⟩ := rct_unfrozen HS3.out.2.1; obtain ⟨m0, m1, m2⟩ := HNC.out.cells; have HS4 := Lib.hid (HS3.out.setB b); obtain ⟨s0, s1, s2, s3, s4, s5, s6⟩ := RCt.cells HS4.out.2.1)
        | (go_at_call 14; refine (HP.out _).mono ?_; rintro e w3 ⟨rfl, hb⟩; have HS5 := Lib.hid (HS4.out.below hb); have HZ5 := Lib.hid (show RZ w ⟨0, 0, 0⟩ ⟨0, 0, 0⟩ false w3 from ⟨HS5.out.1, HS5.out.2.2⟩); clear hb HP; obtain ⟨t0, t1, t2, t3, t4, t5, t6⟩ := RCt.cells HS5.out.2.1; obtain ⟨o0, o1, o2, o3, o4, o5, o6⟩ := RCt.cells HS5.out.1; obtain ⟨z0, z1, z2, z3, z4, z5, z6⟩ := rct_unfrozen HS5.out.1))
      refine bodyPost_ret (v := .tuple #[RV ⟨0, 0, 0⟩ ⟨0, 0, 0⟩ false, E 121]) ?_ ?_ ?_
      · exact (HZ5.out.set ⟨0, 0, 0⟩ ⟨0, 0, 0⟩ false).ans rfl rfl
      · rfl
      · exact ⟨by rw [HO.out], (HZ5.out.set ⟨0, 0, 0⟩ ⟨0, 0, 0⟩ false).2⟩
set_option maxRecDepth 100000 in
set_option maxHeartbeats 3200000 in
theorem rparse_b_ok (t s : List UInt8) (x y u : List UInt8) (two : Bool) (a b : A3) (w : World) (hs : s = t ++ [33]) (hl : (s : List UInt8).length ≤ 1000) (hx : cutB 44 t = (x, y, two)) (ha : readR x = (a, true)) (hb : readR y = (b, true)) (hp : printR a b true = (u, 0)) (hcc : u = s) :
    Calls Tryd.prog 17 #[S s] w fun e w' => e = .returned (PV (parseR s)) ∧ Below w.heap.size w w' := by
  have h1 : Lib.hasSuffix s [33] = true := by rw [hs, suffix_last]; rfl
  have h2 : stripN s = t := by rw [hs]; unfold stripN Lib.trimSuffix; rw [suffix_last]; simp
  have hlt : (t : List UInt8).length ≤ 1000 := by first | decide | (rw [← h2]; exact Nat.le_trans (strip_len _) hl)
  have hlx := cut_len hx
  have HO := Lib.hid (show parseR s = ((a, b, true), 0) from by
    unfold parseR
    simp only [h1, h2, hx, ha, hb, hp]
    rw [if_pos ⟨trivial, trivial, trivial, hcc⟩])
  have HS0 := Lib.hid (rs0 w true)
  have HA := Lib.hid (fun w' => rread_any x w' (by omega))
  rw [ha] at HA
  have HB := Lib.hid (fun w' => rread_any y w' (by omega))
  rw [hb] at HB
  have HP := Lib.hid (fun w' => rprint_any a b true w')
  rw [hp] at HP
  have HC := Lib.hid hx
  subst hcc
  have hne : (u == []) = false := by rw [hs, beq_eq_false_iff_ne]; simp
  have hneN : (u != []) = true := by rw [hs, bne_iff_ne]; simp
  have hsz : (ByteArray.mk u.toArray).size = u.length := by simp [ByteArray.size]
  have hpos : 0 < u.length := by rw [hs]; simp
  have hlast : ((ByteArray.mk u.toArray)[u.length - 1]'(by simp only [ByteArray.size]; simp; omega)) = 33 := last_at hs _
  have m1 : IntKind.i64.wrap ((u.length : Int) - 1) = (u.length : Int) - 1 := by rw [IntKind.wrap_i64]; omega
  have m5 : ((u.length : Int) - 1).toNat = u.length - 1 := by omega
  have m6 : (0 : Int) ≤ (u.length : Int) - 1 := by omega
  have m7 : (u.length : Int) - 1 < (u.length : Int) := by omega
  have m9 : (u.length : Int) - 1 ≤ (u.length : Int) := by omega
  have e4 : (⟨u.toArray⟩ : ByteArray).extract 0 (u.length - 1) = ⟨t.toArray⟩ := by rw [ex_take, hs]; simp
  have hszt : (ByteArray.mk t.toArray).size = t.length := by simp [ByteArray.size]
  clear h1 h2 hx ha hb hp hlx hs
  unfold PV
  go_enter Tryd.func17, Tryd.ntmps17
  go_wp2
  go_loop [6, 7, 8] (fun p q i => ∃ k : Nat, k ≤ t.length ∧ p = S t ∧ q = S [] ∧ i = .int .i64 (k : Nat) ∧ Hid (cutB 44 t = (t.take k ++ (cutB 44 (t.drop k)).1, (cutB 44 (t.drop k)).2.1, (cutB 44 (t.drop k)).2.2))) (fun _ _ i => t.length - (intOf i).toNat)
  case atStart => exact ⟨0, Nat.zero_le _, rfl, rfl, rfl, Lib.hid (by simp)⟩
  case round =>
    obtain ⟨k, hk, rfl, rfl, rfl, HK⟩ := hrel
    by_cases hlk : k < t.length
    · have hlk' : ((k : Nat) : Int) < ((t.length : Nat) : Int) := by omega
      have hy : ((ByteArray.mk t.toArray)[k]'hlk) = t[k] := rfl
      have hst := cut44_step hlk
      by_cases h7 : t[k] = 44
      · rw [if_pos h7] at hst
        have hc := HK.out
        rw [HC.out, hst, List.append_nil] at hc
        have e5 := ex_take (l := t) k
        have e6 := ex_drop (l := t) (k + 1)
        have hk1 : ((k : Nat) : Int) + 1 ≤ ((t.length : Nat) : Int) := by omega
        have hk2 : (((k : Nat) : Int) + 1).toNat = k + 1 := by omega
        have hk3 : ((k : Nat) : Int) ≤ ((t.length : Nat) : Int) := by omega
        have hcx : t.take k = x ∧ t.drop (k + 1) = y := by
          simp only [Prod.mk.injEq] at hc; exact ⟨hc.1.symm, hc.2.1.symm⟩
        rw [hcx.1] at e5
        rw [hcx.2] at e6
        clear HK hst hc HC hcx
        rw [h7] at hy
        go_wp2_with (first
          | (go_at_call 31; refine (HA.out _).mono ?_; rintro e w1 ⟨rfl, hb⟩; have HX1 := Lib.hid ((Below.refl w1.heap.size w1).alloc (Nat.le_refl _) (.cells #[E a.k, E a.n, E a.m] 31)); have HS1 := Lib.hid ((RS.below HS0.out hb).below HX1.out); have HN1 := Lib.hid (show NA w1.heap.size a _ from heap_alloc_new w1 (.cells #[E a.k, E a.n, E a.m] 31)); clear hb HA)
          | (go_at_call 31; have hn1 := HN1.out; clear HN1; refine (HB.out _).mono ?_; rintro e w2 ⟨rfl, hb⟩; have HX2 := Lib.hid ((Below.refl w2.heap.size w2).alloc (Nat.le_refl _) (.cells #[E b.k, E b.n, E b.m] 31)); have HS2 := Lib.hid ((RS.below HS1.out hb).below HX2.out); have HN9 := Lib.hid ((NA.below hn1 hb).below HX2.out); have HNB := Lib.hid (show NA w2.heap.size b _ from heap_alloc_new w2 (.cells #[E b.k, E b.n, E b.m] 31)); have HNE := Lib.hid (show w.heap.size + 1 ≠ w2.heap.size from by have h1 := lt_heap ((RS.below HS1.out hb).2.1); omega); clear hb hn1 HB; obtain ⟨q0, q1, q2, q3, q4, q5, q6⟩ := RCt.cells HS2.out.2.1; obtain ⟨u0, u1, u2, u3, u4, u5, u6⟩ := rct_unfrozen HS2.out.2.1; obtain ⟨n0, n1, n2⟩ := HN9.out.cells; have HS3 := Lib.hid (HS2.out.setA a); have HNC := Lib.hid (HNB.out.keep HNE.out 0 1 2 (E a.k) (E a.n) (E a.m)); obtain ⟨r0, r1, r2, r3, r4, r5, r6⟩ := RCt.cells HS3.out.2.1; obtain ⟨v0, v1, v2, v3, v4, v5, v6⟩ := rct_unfrozen HS3.out.2.1; obtain ⟨m0, m1, m2⟩ := HNC.out.cells; have HS4 := Lib.hid (HS3.out.setB b); obtain ⟨s0, s1, s2, s3, s4, s5, s6⟩ := RCt.cells HS4.out.2.1)
          | (go_at_call 14; refine (HP.out _).mono ?_; rintro e w3 ⟨rfl, hb⟩; have HS5 := Lib.hid (HS4.out.below hb); have HZ5 := Lib.hid (show RZ w ⟨0, 0, 0⟩ ⟨0, 0, 0⟩ false w3 from ⟨HS5.out.1, HS5.out.2.2⟩); clear hb HP; obtain ⟨t0, t1, t2, t3, t4, t5, t6⟩ := RCt.cells HS5.out.2.1; obtain ⟨o0, o1, o2, o3, o4, o5, o6⟩ := RCt.cells HS5.out.1; obtain ⟨z0, z1, z2, z3, z4, z5, z6⟩ := rct_unfrozen HS5.out.1))
        refine bodyPost_ret (v := .tuple #[RV a b true, E 0]) ?_ ?_ ?_
        · exact (HZ5.out.set a b true).ans rfl rfl
        · rfl
        · exact ⟨by rw [HO.out], (HZ5.out.set a b true).2⟩
      · rw [if_neg h7] at hst
        have HK2 := Lib.hid (show cutB 44 t = (t.take (k + 1) ++ (cutB 44 (t.drop (k + 1))).1, (cutB 44 (t.drop (k + 1))).2.1, (cutB 44 (t.drop (k + 1))).2.2) from by
          rw [HK.out, hst, List.take_succ_eq_append_getElem hlk, List.append_assoc]; rfl)
        have n7 : ((((t[k]).toNat : Nat) : Int) == 44) = false := byte_ne' h7
        clear HK hst HA HB HP h7
        generalize t[k] = cc at *
        go_wp2
        go_round
        case rel => exact ⟨k + 1, by omega, rfl, rfl, by go_num, HK2⟩
        case measure => simp [intOf]; omega
    · obtain rfl : k = t.length := by omega
      have hlk' : ¬ ((t.length : Nat) : Int) < ((t.length : Nat) : Int) := by omega
      have hc := HK.out
      rw [HC.out, List.drop_of_length_le (Nat.le_refl _), List.take_of_length_le (Nat.le_refl _)] at hc
      obtain ⟨hcx, hcy⟩ : t = x ∧ [] = y := by
        have h1 : x = t ++ (cutB 44 ([] : List UInt8)).1 := congrArg (fun p => p.1) hc
        have h2 : y = (cutB 44 ([] : List UInt8)).2.1 := congrArg (fun p => p.2.1) hc
        exact ⟨by rw [h1]; simp [cutB], by rw [h2]; rfl⟩
      clear hc HK HC
      rw [← hcx] at HA
      rw [← hcy] at HB
      clear hcx hcy
      go_wp2_with (first
        | (go_at_call 31; refine (HA.out _).mono ?_; rintro e w1 ⟨rfl, hb⟩; have HX1 := Lib.hid ((Below.refl w1.heap.size w1).alloc (Nat.le_refl _) (.cells #[E a.k, E a.n, E a.m] 31)); have HS1 := Lib.hid ((RS.below HS0.out hb).below HX1.out); have HN1 := Lib.hid (show NA w1.heap.size a _ from heap_alloc_new w1 (.cells #[E a.k, E a.n, E a.m] 31)); clear hb HA)
        | (go_at_call 31; have hn1 := HN1.out; clear HN1; refine (HB.out _).mono ?_; rintro e w2 ⟨rfl, hb⟩; have HX2 := Lib.hid ((Below.refl w2.heap.size w2).alloc (Nat.le_refl _) (.cells #[E b.k, E b.n, E b.m] 31)); have HS2 := Lib.hid ((RS.below HS1.out hb).below HX2.out); have HN9 := Lib.hid ((NA.below hn1 hb).below HX2.out); have HNB := Lib.hid (show NA w2.heap.size b _ from heap_alloc_new w2 (.cells #[E b.k, E b.n, E b.m] 31)); have HNE := Lib.hid (show w.heap.size + 1 ≠ w2.heap.size from by have h1 := lt_heap ((RS.below HS1.out hb).2.1); omega); clear hb hn1 HB; obtain ⟨q0, q1, q2, q3, q4, q5, q6⟩ := RCt.cells HS2.out.2.1; obtain ⟨u0, u1, u2, u3, u4, u5, u6⟩ := rct_unfrozen HS2.out.2.1; obtain ⟨n0, n1, n2⟩ := HN9.out.cells; have HS3 := Lib.hid (HS2.out.setA a); have HNC := Lib.hid (HNB.out.keep HNE.out 0 1 2 (E a.k) (E a.n) (E a.m)); obtain ⟨r0, r1, r2, r3, r4, r5, r6⟩ := RCt.cells HS3.out.2.1; obtain ⟨v0, v1, v2, v3, v4, v5, v6⟩ := rct_unfrozen HS3.out.2.1; obtain ⟨m0, m1, m2⟩ := HNC.out.cells; have HS4 := Lib.hid (HS3.out.setB b); obtain ⟨s0, s1, s2, s3, s4, s5, s6⟩ := RCt.cells HS4.out.2.1)
        | (go_at_call 14; refine (HP.out _).mono ?_; rintro e w3 ⟨rfl, hb⟩; have HS5 := Lib.hid (HS4.out.below hb); have HZ5 := Lib.hid (show RZ w ⟨0, 0, 0⟩ ⟨0, 0, 0⟩ false w3 from ⟨HS5.out.1, HS5.out.2.2⟩); clear hb HP; obtain ⟨t0, t1, t2, t3, t4, t5, t6⟩ := RCt.cells HS5.out.2.1; obtain ⟨o0, o1, o2, o3, o4, o5, o6⟩ := RCt.cells HS5.out.1; obtain ⟨z0, z1, z2, z3, z4, z5, z6⟩ := rct_unfrozen HS5.out.1))
      refine bodyPost_ret (v := .tuple #[RV a b true, E 0]) ?_ ?_ ?_
      · exact (HZ5.out.set a b true).ans rfl rfl
      · rfl
      · exact ⟨by rw [HO.out], (HZ5.out.set a b true).2⟩
end Go.Proofs.YtcijhfdccbgcpaaDoor.Ad
