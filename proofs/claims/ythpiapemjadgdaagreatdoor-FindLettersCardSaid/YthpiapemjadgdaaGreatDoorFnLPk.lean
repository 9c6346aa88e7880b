/- FindLetters: the walk. -/
import Derived.Test.YthpiapemjadgdaaGreatDoorFnLpPk
import Derived.Test.YthpiapemjadgdaaGreatDoorFnFPk
import Derived.Test.YthpiapemjadgdaaGreatDoorBk13
import Derived.Test.YthpiapemjadgdaaGreatDoorBk08
namespace Go.Proofs.YthpiapemjadgdaaGreatDoor.Mt
open Go.RowKit Go.Shelf
open Go.Proofs.YthpiapemjadgdaaGreatDoor.Rx
open Go.Proofs.YthpiapemjadgdaaGreatDoor.Rx.Tr
open Go.Proofs.YthpiapemjadgdaaGreatDoor.Fn
open Go.Proofs.YthpiapemjadgdaaGreatDoor.St (Wf word mem SV SV_eq ofL wf_ofL)
set_option linter.unusedVariables false
set_option linter.unusedSimpArgs false
/-- A place, or -1. -/
def whr : Option Nat → Int
  | some k => (k : Int)
  | none => -1
theorem cats_get (m : Nat) : ∀ {n k : Nat}, k < n → (catsO 0 m n)[k]? = some (cN (m - 2 - k) (m + k - 1))
  | 0, k, h => by omega
  | n + 1, k, h => by
    rw [catsO]
    by_cases hk : k = n
    · subst hk
      rw [List.getElem?_append_right (by rw [cats_len]; exact Nat.le_refl _), cats_len, Nat.sub_self]
      simp only [List.getElem?_cons_zero, Nat.zero_add]
    · rw [List.getElem?_append_left (by rw [cats_len]; omega)]
      exact cats_get m (by omega)
set_option maxRecDepth 100000 in
set_option maxHeartbeats 6400000 in
theorem letters_core (W : World) (s T : List UInt8) (hs : s ≠ []) (h6 : s.length ≤ 6) (hT : T.length ≤ 8)
    (hsh : ∀ W' : World, Below W.heap.size W W' → Calls Tryz.prog 13 #[] W' fun e w' => e = .returned (.bool true) ∧ Below W'.heap.size W' w')
    (hfi : ∀ (ao : Option Addr) (c : Nat) (W' : World), Ns W' (.slice ao ((LT s).nodes 0).length c) ((LT s).nodes 0) → Calls Tryz.prog 14 #[.slice ao ((LT s).nodes 0).length c, S T, E 0] W' fun e w' => e = .returned (ansC (firstF (longP T (LT s)) T.length 0)) ∧ Below W'.heap.size W' w')
    (hha : ∀ (ao : Option Addr) (c : Nat) (W' : World), Ns W' (.slice ao ((LT s).nodes 0).length c) ((LT s).nodes 0) → Calls Tryz.prog 17 #[.slice ao ((LT s).nodes 0).length c, S T] W' fun e w' => e = .returned (.bool (firstF (longP T (LT s)) T.length 0).isSome) ∧ Below W'.heap.size W' w')
    (hmy : ∀ (ao : Option Addr) (c : Nat) (W' : World), Ns W' (.slice ao ((LT s).nodes 0).length c) ((LT s).nodes 0) → Calls Tryz.prog 27 #[.slice ao ((LT s).nodes 0).length c] W' fun e w' => e = .returned (.bool true) ∧ Below W'.heap.size W' w') :
    Calls Tryz.prog 6 #[S s, S T] W fun e W' => e = .returned (.bool true) ∧ Below W.heap.size W W' := by
  obtain ⟨i0, hi, hz0, hz1, hz2⟩ := info_parts infoNd
  have HB0 := Lib.hid (Below.refl W.heap.size W)
  have HSH := Lib.hid hsh
  have hnd := lt_nodes s 0 hs
  obtain ⟨m, hm⟩ : ∃ m, s.length = m := ⟨_, rfl⟩
  obtain ⟨N, hN⟩ : ∃ N, T.length = N := ⟨_, rfl⟩
  have hm0 : 0 < m := by rw [← hm]; exact List.length_pos_iff.2 hs
  rw [hm] at hnd
  have HM := Lib.hid (show 0 < m ∧ m ≤ 6 ∧ N ≤ 8 from ⟨hm0, by omega, by omega⟩)
  have HML := Lib.hid hm
  have he : s.isEmpty = false := by
    cases s with
    | nil => exact absurd rfl hs
    | cons x y => rfl
  obtain ⟨L0, hL0⟩ : ∃ L0, (LT s).nodes 0 = L0 := ⟨_, rfl⟩
  rw [hL0] at hnd
  have hl1 : ∀ k (hk : k < s.length), L0[k]? = some (bN s[k]) := fun k hk => by
    rw [hnd, List.getElem?_append_left (by simpa using hk), List.getElem?_map, List.getElem?_eq_getElem hk]; rfl
  have hlen : L0.length = 2 * m - 1 := by rw [hnd, List.length_append, List.length_map, cats_len, hm]; omega
  have HL1 := Lib.hid hl1
  have HL2 := Lib.hid (show ∀ k, k < m - 1 → L0[m + k]? = some (cN (m - 2 - k) (m + k - 1)) from fun k hk => by
    rw [hnd, List.getElem?_append_right (by simp [hm]), List.length_map, hm, show m + k - m = k by omega, cats_get m hk])
  have HLN := Lib.hid hlen
  simp only [hL0] at hfi hha hmy
  have HFI := Lib.hid hfi
  have HHA := Lib.hid hha
  have HMY := Lib.hid hmy
  clear hL0 hnd hl1 hlen
  have hsz1 : (m : Int) ≤ 6 := by omega
  have hsz1b : ¬ (6 : Int) < (m : Int) := by omega
  have hsz2 : ¬ (8 : Int) < (N : Int) := by omega
  have hs' := Lib.hid hs
  have HNN := Lib.hid hN
  clear hsh hfi hha hmy hs h6 hT
  go_enter Tryz.func6, Tryz.ntmps6
  rw [show Code.region 19 = Fz 19 from rfl]
  go_wp2_with (go_at_call 13; refine (HSH.out _ HB0.out).mono ?_; rintro e w2 ⟨rfl, hb⟩; have HB1 := Lib.hid (HB0.out.trans (hb.mono HB0.out.size)); clear hb)
  have HO0 : Hid (∀ W : World, W.heap.size = w2.heap.size → (W.alloc (.cells #[] 48)).ownsRow w2.heap.size 48 10 (.slice (some ⟨w2.heap.size, 0, none⟩) 0 0) 0 []) := Lib.hid (fun W hW => by
    have := World.ownsRow_made (base := w2.heap.size) (e := 48) (size := 10) W #[] 0 (by omega) (by decide) rfl
    rw [hW] at this
    exact this)
  go_loopw [5, 6] (fun v iv wr => ∃ k : Nat, k ≤ m ∧ iv = .int .i64 (k : Nat) ∧ Hid (wr.ownsRow w2.heap.size 48 10 v k (flat (L0.take k))) ∧ Hid (Below W.heap.size W wr) ∧ Hid (w2.heap.size ≤ wr.heap.size)) (fun _ iv _ => m - (intOf iv).toNat)
  case atStart => exact ⟨0, Nat.zero_le _, rfl, Lib.hid (HO0.out _ rfl), Lib.hid (HB1.out.alloc HB1.out.size _), Lib.hid (by simp)⟩
  case round =>
    clear HO0
    obtain ⟨k, hk, rfl, HO, HB, HZ⟩ := hrel
    by_cases hlt : k < m
    · have hks : k < s.length := by rw [hm]; exact hlt
      obtain ⟨b, hb⟩ : ∃ b, s[k]'hks = b := ⟨_, rfl⟩
      have hlt' : ((k : Nat) : Int) < ((m : Nat) : Int) := by omega
      have hle' : ((k : Nat) : Int) + 1 ≤ ((m : Nat) : Int) := by omega
      have hk0 : (0 : Int) ≤ (k : Int) := by omega
      have hwk : IntKind.i64.wrap ((k : Int) + 1) = (k : Int) + 1 := by rw [IntKind.wrap_i64]; have := HM.out; omega
      have hLk : L0[k]? = some (bN b) := by rw [HL1.out k hks, hb]
      have HTK := Lib.hid (show flat (L0.take (k + 1)) = flat (L0.take k) ++ (NC (bN b)).toList from by
        obtain ⟨hl, e⟩ := List.getElem?_eq_some_iff.1 hLk
        rw [List.take_succ_eq_append_getElem hl, flat_append, flat_one, e])
      have hof := fun W => Go.Proofs.YthpiapemjadgdaaGreatDoor.St.of_any [b] W (by simp)
      rw [SV_eq (wf_ofL [b])] at hof
      have HOF := Lib.hid hof
      clear hof
      have hex : (⟨s.toArray⟩ : ByteArray).extract k (k + 1) = ⟨[b].toArray⟩ := by
        rw [ext_cut]
        congr 2
        unfold cutT
        rw [show k + 1 - k = 1 by omega, List.drop_eq_getElem_cons hks, hb]
        rfl
      clear hks hb hk hLk
      have hone : ∀ u ∈ (NC (bN b)).toList, u.oneCell' = true := by
        intro u hu
        refine flat_cells [bN b] u ?_
        rw [flat_one]; exact hu
      go_wp2_with (first
        | (go_at_call 26; refine (HOF.out _).mono ?_; rintro e w3 ⟨rfl, hbo⟩; have HB3 := Lib.hid (HB.out.trans (hbo.mono HB.out.size)); have HOA := Lib.hid ((own_below HO.out hbo).alloc (.cells (NC (bN b)) 48)); have HZ3 := Lib.hid (Nat.le_trans HZ.out hbo.size); clear hbo)
        | (at_builtin; go_loud (refine wpList_append_own _ rfl _ _ 22 rfl w2.heap.size 48 i0 _ 10 80 Tryz.underlying22 hi hz0 hz1 hz2 rfl (by decide) _ _ _ rfl HOA.out ⟨_, 0, none⟩ 1 1 (NC (bN b)).toList rfl rfl news_row hone (by have := HM.out; unfold maxLen; omega) (by have := HM.out; omega) (by have := HZ3.out; simp; omega) ?_)))
      rintro v' w4 hown hgrow -
      have HB4 := Lib.hid ((HB3.out.alloc HB3.out.size (.cells (NC (bN b)) 48)).grown hgrow (by have := HB3.out.size; simp; omega) (fun j hj => Nat.le_trans HB1.out.size (own_ge HOA.out j hj)))
      have HO4 := Lib.hid (show w4.ownsRow w2.heap.size 48 10 v' (k + 1) (flat (L0.take (k + 1))) from by rw [HTK.out]; exact hown)
      have HZ4 := Lib.hid (show w2.heap.size ≤ w4.heap.size from by have h1 := hgrow.size; have h2 := HZ3.out; simp at h1; omega)
      clear hown hgrow
      go_wp2
      go_roundw
      case rel => exact ⟨k + 1, by omega, by go_num, HO4, HB4, HZ4⟩
      case measure => simp [intOf]; omega
    · obtain rfl : k = m := by omega
      have hnl : ¬ (k : Int) < (k : Int) := by omega
      have hw2 : IntKind.i64.wrap ((k : Int) - 2) = (k : Int) - 2 := by rw [IntKind.wrap_i64]; have := HM.out; omega
      obtain ⟨vo, cp, hvv⟩ := own_slice HO.out
      subst hvv
      clear hk hlt
      go_wp2
      go_loopw [5, 7] (fun v iv wr2 => ∃ (j : Nat) (vo : Option Addr) (cp : Nat), j ≤ k - 1 ∧ iv = .int .i64 ((k : Int) - 2 - (j : Int)) ∧ v = .slice vo (k + j) cp ∧ Hid (wr2.ownsRow w2.heap.size 48 10 (.slice vo (k + j) cp) (k + j) (flat (L0.take (k + j)))) ∧ Hid (Below W.heap.size W wr2) ∧ Hid (w2.heap.size ≤ wr2.heap.size)) (fun _ iv _ => (intOf iv + 1).toNat)
      case atStart => exact ⟨0, vo, cp, Nat.zero_le _, by simp, rfl, HO, HB, HZ⟩
      case round =>
        clear HO HB HZ
        obtain ⟨j, vo2, cp2, hj, rfl, rfl, HO, HB, HZ⟩ := hrel
        by_cases hlt : j < k - 1
        · obtain ⟨a, ha⟩ : ∃ a, k - 2 - j = a := ⟨_, rfl⟩
          obtain ⟨q, hq⟩ : ∃ q, k + j - 1 = q := ⟨_, rfl⟩
          obtain ⟨z, hz⟩ : ∃ z, k + j = z := ⟨_, rfl⟩
          have ea : (k : Int) - 2 - (j : Int) = (a : Int) := by omega
          have hLk := HL2.out j hlt
          rw [ha, hq, hz] at hLk
          rw [hz] at HO ⊢
          rw [ea]
          have HTK := Lib.hid (show flat (L0.take (z + 1)) = flat (L0.take z) ++ (NC (cN a q)).toList from by
            obtain ⟨hl, e⟩ := List.getElem?_eq_some_iff.1 hLk
            rw [List.take_succ_eq_append_getElem hl, flat_append, flat_one, e])
          have hwq : IntKind.i64.wrap ((z : Int) - 1) = (q : Int) := by rw [IntKind.wrap_i64]; have := HM.out; omega
          have hwa : IntKind.i64.wrap ((a : Int) - 1) = (a : Int) - 1 := by rw [IntKind.wrap_i64]; have := HM.out; omega
          have ha0 : (0 : Int) ≤ (a : Int) := by omega
          have hone : ∀ u ∈ (NC (cN a q)).toList, u.oneCell' = true := by
            intro u hu
            refine flat_cells [cN a q] u ?_
            rw [flat_one]; exact hu
          have HOA := Lib.hid (HO.out.alloc (.cells (NC (cN a q)) 48))
          have HJ := Lib.hid (show j < k - 1 ∧ k - 2 - j = a ∧ k + j = z from ⟨hlt, ha, hz⟩)
          clear hLk ea hj hlt hq ha hz
          go_wp2_with (at_builtin; go_loud (refine wpList_append_own _ rfl _ _ 22 rfl w2.heap.size 48 i0 _ 10 80 Tryz.underlying22 hi hz0 hz1 hz2 rfl (by decide) _ _ _ rfl HOA.out ⟨_, 0, none⟩ 1 1 (NC (cN a q)).toList rfl rfl news_row hone (by have := HM.out; have := HJ.out; unfold maxLen; omega) (by have := HM.out; have := HJ.out; omega) (by have := HZ.out; simp; omega) ?_))
          rintro v' w4 hown hgrow -
          have HB4 := Lib.hid ((HB.out.alloc HB.out.size (.cells (NC (cN a q)) 48)).grown hgrow (by have := HB.out.size; simp; omega) (fun j hj => Nat.le_trans HB1.out.size (own_ge HOA.out j hj)))
          have ho4 : w4.ownsRow w2.heap.size 48 10 v' (z + 1) (flat (L0.take (z + 1))) := by rw [HTK.out]; exact hown
          have HZ4 := Lib.hid (show w2.heap.size ≤ w4.heap.size from by have h1 := hgrow.size; have h2 := HZ.out; simp at h1; omega)
          obtain ⟨vo3, cp3, hv3⟩ := own_slice ho4
          subst hv3
          have HO4 := Lib.hid ho4
          clear hown hgrow ho4
          go_wp2
          go_roundw
          case rel =>
            have hJ := HJ.out
            refine ⟨j + 1, vo3, cp3, by omega, by congr 1; omega, by congr 1; omega, ?_, HB4, HZ4⟩
            rw [show k + (j + 1) = z + 1 by omega]
            exact HO4
          case measure => have := HJ.out; simp [intOf] <;> omega
        · obtain rfl : j = k - 1 := by omega
          have hn0 : ¬ (0 : Int) ≤ (k : Int) - 2 - ((k - 1 : Nat) : Int) := by have := HM.out; omega
          have hlz : k + (k - 1) = L0.length := by have := HLN.out; have := HM.out; omega
          have ho := HO.out
          rw [hlz, List.take_length] at ho
          have HNS := Lib.hid (own_ns ho)
          have hsz : IntKind.i64.wrap ((N : Int) - (k : Int)) = (N : Int) - (k : Int) := by rw [IntKind.wrap_i64]; have := HM.out; omega
          rw [hlz]
          clear ho hlz hj hlt
          go_wp2
          obtain ⟨K, hK⟩ : ∃ K, N + 1 - k = K := ⟨_, rfl⟩
          have HKK := Lib.hid hK
          go_loopw [8, 9] (fun wv iv wr3 => ∃ (r : Nat) (x : Int), r ≤ K ∧ iv = .int .i64 x ∧ (x = (r : Int) - 1 ∨ (r = 0 ∧ x < 0)) ∧ -1000 ≤ x ∧ wv = .int .i64 (whr (upB (here T s) r (K - r))) ∧ wr = wr3) (fun _ iv _ => (intOf iv + 1).toNat)
          case atStart => exact ⟨K, (N : Int) - (k : Int), Nat.le_refl _, rfl, by omega, by have := HM.out; omega, by rw [Nat.sub_self]; rfl, rfl⟩
          case round =>
            obtain ⟨r, x, hr, rfl, hx, hxb, rfl, rfl⟩ := hrel
            have hxw : IntKind.i64.wrap (x - 1) = x - 1 := by rw [IntKind.wrap_i64]; have := HM.out; omega
            by_cases hr0 : 0 < r
            · obtain ⟨p, hp⟩ : ∃ p, r - 1 = p := ⟨_, rfl⟩
              obtain rfl : x = (p : Int) := by omega
              have hp0 : (0 : Int) ≤ (p : Int) := by omega
              have hpk : IntKind.i64.wrap ((p : Int) + (k : Int)) = (p : Int) + (k : Int) := by rw [IntKind.wrap_i64]; have := HM.out; omega
              have hpN : (p : Int) + (k : Int) ≤ (N : Int) := by omega
              have hcut : (({ data := T.toArray } : ByteArray).extract p (p + k)).toList = (T.drop p).take k := by
                rw [ext_cut, Go.ByteArray.toList_mk]
                unfold cutT
                rw [show p + k - p = k by omega]
              have hst : upB (here T s) p (K - p) = if here T s p = true then some p else upB (here T s) r (K - r) := by
                rw [show K - p = (K - r) + 1 by omega, upB_step, show p + 1 = r by omega]
              have HP := Lib.hid (show p + 1 = r ∧ r ≤ K from ⟨by omega, hr⟩)
              by_cases hh : here T s p = true
              · rw [if_pos hh] at hst
                have HST := Lib.hid hst
                have hq : (({ data := T.toArray } : ByteArray).extract p (p + k)).toList == s := by
                  rw [hcut]
                  unfold here at hh
                  rw [HML.out] at hh
                  simpa using hh
                clear hcut hst hh hx hxb hr hr0 hp
                go_wp2
                go_roundw
                case rel => exact ⟨p, (p : Int) - 1, by have := HP.out; omega, rfl, Or.inl rfl, by omega, by rw [HST.out]; rfl, trivial⟩
                case measure => simp [intOf]
              · rw [if_neg hh] at hst
                have HST := Lib.hid hst
                have hq : ((({ data := T.toArray } : ByteArray).extract p (p + k)).toList == s) = false := by
                  rw [hcut, beq_eq_false_iff_ne]
                  intro e
                  apply hh
                  unfold here
                  rw [HML.out, e]
                  simp
                clear hcut hst hh hx hxb hr hr0 hp
                go_wp2
                go_roundw
                case rel => exact ⟨p, (p : Int) - 1, by have := HP.out; omega, rfl, Or.inl rfl, by omega, by rw [HST.out], trivial⟩
                case measure => simp [intOf]
            · obtain rfl : r = 0 := by omega
              have hxn : ¬ (0 : Int) ≤ x := by omega
              rw [Nat.sub_zero]
              have hfv := lt_first (T := T) (s := s) hs'.out
              rw [HML.out, HNN.out, HKK.out] at hfv
              clear hx hxb hr hr0 hxw
              cases hu : upB (here T s) 0 K with
              | none =>
                rw [hu] at hfv
                have HFV := Lib.hid (show firstF (longP T (LT s)) T.length 0 = none from by rw [HNN.out]; exact hfv)
                rw [show whr none = -1 from rfl]
                clear hu hfv
                go_wp2_with (first
                  | (go_at_call 14; refine (HFI.out vo2 cp2 _ HNS.out).mono ?_; rintro e w3 ⟨he, hb⟩; rw [HFV.out, show ansC none = .tuple #[CV nones, .bool false] from rfl] at he; subst he; have HB3 := Lib.hid (HB.out.trans (hb.mono HB.out.size)); have HN3 := Lib.hid (HNS.out.below hb); clear hb)
                  | (refine wpList_store_row rfl 27 (.tmp 10) (.tmp 84) rfl _ (CC nones) rfl rfl _ CZ (heap_alloc_new _ _) (by kernel_rfl) rfl (cc_one nones) ?_; simp only [Act.put, List.setIfInBounds_toArray, List.set_cons_zero, List.set_cons_succ]; rw [box_laid]; have hbb := (Below.refl w3.heap.size w3).alloc (Nat.le_refl _) (.cells (CC nones) 27); have HB4 := Lib.hid (HB3.out.trans (hbb.mono HB3.out.size)); have HN4 := Lib.hid (HN3.out.below hbb); have HX4 := Lib.hid (heap_alloc_new w3 (.cells (CC nones) 27)); clear hbb; generalize World.alloc _ _ = W4 at HB4 HN4 HX4 ⊢))
                rw [show Fz 19 = Code.region 19 from rfl]
                go_wp2_with (first
                  | (go_at_call 27; refine (HMY.out vo2 cp2 _ HN4.out).mono ?_; rintro e w5 ⟨rfl, hb⟩; have HB5 := Lib.hid (HB4.out.trans (hb.mono HB4.out.size)); have HN5 := Lib.hid (HN4.out.below hb); have hx5 := (hb.block _ (lt_heap' HX4.out)).trans HX4.out; clear hb hx5)
                  | (go_at_call 17; refine (HHA.out vo2 cp2 _ HN5.out).mono ?_; rintro e w6 ⟨he, hb⟩; rw [HFV.out, show (none : Option Caps).isSome = false from rfl] at he; subst he; have HB6 := Lib.hid (HB5.out.trans (hb.mono HB5.out.size)); clear hb))
                go_ret
                exact ⟨rfl, HB6.out⟩
              | some p0 =>
                have hle := upB_le hu
                rw [hu] at hfv
                obtain ⟨c, hc⟩ : ∃ c, nones.set 0 (some (p0, p0 + k)) = c := ⟨_, rfl⟩
                rw [Option.map_some, hc] at hfv
                have HFV := Lib.hid (show firstF (longP T (LT s)) T.length 0 = some c from by rw [HNN.out]; exact hfv)
                have HGR := Lib.hid (show gr c 0 = some (p0, p0 + k) from by rw [← hc, gr_set rfl (by decide)]; rfl)
                have hcap : CapOk N (some (p0, p0 + k)) := ⟨by omega, by have := HKK.out; omega⟩
                have HFR := Lib.hid (fun W => from_cap (N := N) (by have := HM.out; omega) hcap W)
                have hln := fun W => len_cap (N := N) (by have := HM.out; omega) hcap W
                rw [show p0 + k - p0 = k by omega] at hln
                have HLE := Lib.hid hln
                have hp0 : (0 : Int) ≤ (p0 : Int) := by omega
                rw [show whr (some p0) = (p0 : Int) from rfl]
                clear hu hfv hc hcap hln hle
                go_wp2_with (first
                  | (go_at_call 14; refine (HFI.out vo2 cp2 _ HNS.out).mono ?_; rintro e w3 ⟨he, hb⟩; rw [HFV.out, show ansC (some c) = .tuple #[CV c, .bool true] from rfl] at he; subst he; have HB3 := Lib.hid (HB.out.trans (hb.mono HB.out.size)); have HN3 := Lib.hid (HNS.out.below hb); clear hb)
                  | (refine wpList_store_row rfl 27 (.tmp 10) (.tmp 84) rfl _ (CC c) rfl rfl _ CZ (heap_alloc_new _ _) (by kernel_rfl) rfl (cc_one c) ?_; simp only [Act.put, List.setIfInBounds_toArray, List.set_cons_zero, List.set_cons_succ]; rw [box_laid]; have hbb := (Below.refl w3.heap.size w3).alloc (Nat.le_refl _) (.cells (CC c) 27); have HB4 := Lib.hid (HB3.out.trans (hbb.mono HB3.out.size)); have HN4 := Lib.hid (HN3.out.below hbb); have HX4 := Lib.hid (heap_alloc_new w3 (.cells (CC c) 27)); clear hbb; generalize World.alloc _ _ = W4 at HB4 HN4 HX4 ⊢))
                rw [show Fz 19 = Code.region 19 from rfl]
                go_wp2_with (first
                  | (go_at_call 27; refine (HMY.out vo2 cp2 _ HN4.out).mono ?_; rintro e w5 ⟨rfl, hb⟩; have HB5 := Lib.hid (HB4.out.trans (hb.mono HB4.out.size)); have HN5 := Lib.hid (HN4.out.below hb); have hx5 := (hb.block _ (lt_heap' HX4.out)).trans HX4.out; have cx := cap_cell hx5 (n := 0) (by decide); rw [HGR.out] at cx; clear hb hx5)
                  | (go_at_call 22; refine (HFR.out _).mono ?_; rintro e w7 ⟨rfl, rfl⟩)
                  | (go_at_call 24; refine (HLE.out _).mono ?_; rintro e w7 ⟨rfl, rfl⟩)
                  | (go_at_call 17; refine (HHA.out vo2 cp2 _ HN5.out).mono ?_; rintro e w6 ⟨he, hb⟩; rw [HFV.out, show (some c : Option Caps).isSome = true from rfl] at he; subst he; have HB6 := Lib.hid (HB5.out.trans (hb.mono HB5.out.size)); clear hb))
                go_ret
                exact ⟨rfl, HB6.out⟩
end Go.Proofs.YthpiapemjadgdaaGreatDoor.Mt
