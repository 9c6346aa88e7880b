/- trans.Parse, trans.Print, and the reference's: the walks. -/
import Derived.Test.YtpgglnibfojdgaaGreatDoorTrShown
import Derived.Test.YtpgglnibfojdgaaGreatDoorTrPrPlain
import Derived.Test.YtpgglnibfojdgaaGreatDoorRpAll
namespace Go.Proofs.YtpgglnibfojdgaaGreatDoor.Tr
open Go.RowKit Go.Shelf Bld
set_option linter.unusedVariables false
set_option linter.unusedSimpArgs false
abbrev P3 (p : List UInt8 × Nat × Int) : Value := .tuple #[S p.1, E (p.2.1 : Nat), E p.2.2]
theorem ret3' {a b c a' b' c' : Value} (h1 : a = a') (h2 : b = b') (h3 : c = c') : Ending.returned (.tuple #[a, b, c]) = .returned (.tuple #[a', b', c']) := by rw [h1, h2, h3]
theorem idx_esc (d : UInt8) (w : World) : Calls Tryz.prog 13 #[S [110, 92, 47], Y d.toNat] w fun e w' => e = .returned (E (Lib.indexByte [110, 92, 47] d)) ∧ w' = w := by
  refine (Tryz.strings_IndexByte ⟨[110, 92, 47].toArray⟩ d.toNat w).mono ?_
  rintro e w' ⟨rfl, rfl⟩
  exact ⟨by simp, rfl⟩
theorem idx_110 (w : World) : Calls Tryz.prog 13 #[S [110, 92, 47], .int .u8 110] w fun e w' => e = .returned (E 0) ∧ w' = w := idx_esc 110 w
theorem idx_92 (w : World) : Calls Tryz.prog 13 #[S [110, 92, 47], .int .u8 92] w fun e w' => e = .returned (E 1) ∧ w' = w := idx_esc 92 w
theorem idx_47 (w : World) : Calls Tryz.prog 13 #[S [110, 92, 47], .int .u8 47] w fun e w' => e = .returned (E 2) ∧ w' = w := idx_esc 47 w
theorem idx_no {d : UInt8} (h1 : d ≠ 110) (h2 : d ≠ 92) (h3 : d ≠ 47) : Lib.indexByte [110, 92, 47] d < 0 := by
  have k : ∀ d : UInt8, (d ≠ 110 ∧ d ≠ 92 ∧ d ≠ 47) → Lib.indexByte [110, 92, 47] d < 0 := fun d => every (p := fun d => (d ≠ 110 ∧ d ≠ 92 ∧ d ≠ 47) → Lib.indexByte [110, 92, 47] d < 0) (by decide +kernel) d
  exact k d ⟨h1, h2, h3⟩
theorem byte_ne {a b : UInt8} (h : a ≠ b) : (((a.toNat : Nat) : Int) == ((b.toNat : Nat) : Int)) = false := by
  rw [beq_eq_false_iff_ne]; intro q; exact h (UInt8.toNat_inj.1 (by omega))
theorem ex_one {l : List UInt8} {k : Nat} (h : k < l.length) : (⟨l.toArray⟩ : ByteArray).extract k (k + 1) = ⟨[l[k]].toArray⟩ := by
  rw [Go.Lib.extract_eq]
  simp only [Nat.add_sub_cancel_left]
  rw [List.drop_eq_getElem_cons h]; rfl
theorem ex_nxt {l : List UInt8} {k : Nat} (h : k + 1 < l.length) : (⟨l.toArray⟩ : ByteArray).extract (k + 1) (k + 2) = ⟨[l[k + 1]].toArray⟩ := ex_one h
set_option maxRecDepth 100000 in
set_option maxHeartbeats 1600000 in
theorem parse_any (s : List UInt8) (w : World) (hl : s.length ≤ 10000) :
    Calls Tryz.prog 5 #[S s] w fun e w' => e = .returned (P3 (prs s 0 [])) ∧ Below w.heap.size w w' := by
  obtain ⟨i0, hi, hz0, hz1, hz2⟩ := info_parts infoByte
  go_enter Tryz.func5, Tryz.ntmps5
  go_wp2
  go_loopw [5, 6] (fun bs i wr => ∃ (out : List UInt8) (k : Nat), k ≤ s.length ∧ i = .int .i64 (k : Nat) ∧ Hid (wr.ownsRow w.heap.size 5 1 bs out.length (out.map bv)) ∧ Hid (Below w.heap.size w wr) ∧ out.length ≤ k ∧ Hid (prs s 0 [] = prs (s.drop k) k out)) (fun _ i _ => s.length - (intOf i).toNat)
  case atStart => exact ⟨[], 0, Nat.zero_le _, rfl, Lib.hid (World.ownsRow_nil _ _ _ _), Lib.hid (Below.refl _ _), Nat.le_refl _, Lib.hid rfl⟩
  case round =>
    obtain ⟨out, k, hk, rfl, HO, HBW, hlen, HD⟩ := hrel
    have hws := HBW.out.size
    by_cases hlt : k < s.length
    · by_cases h10 : s[k] = 10
      · have HS := Lib.hid (show prs (s.drop k) k out = ([], k, 100) from by rw [prs_at out hlt, h10]; exact prs_ten _ _ _)
        have hx : ((ByteArray.mk s.toArray)[k]'hlt) = 10 := h10
        clear h10 hi hz0 hz1 hz2 HO
        go_wp2
        go_ret3
        rw [HD.out, HS.out]
        exact ⟨rfl, HBW.out⟩
      have hn10 := byte_ne h10
      by_cases h92 : s[k] = 92
      · by_cases h1 : k + 1 < s.length
        · have hneB : (((k : Nat) : Int) + 1 == ((s.length : Nat) : Int)) = false := by rw [beq_eq_false_iff_ne]; omega
          have h1' : ((k : Nat) : Int) + 1 < ((s.length : Nat) : Int) := by omega
          clear h10 hn10
          by_cases hd110 : s[k + 1] = 110
          · have HS := Lib.hid (show prs (s.drop k) k out = prs (s.drop (k + 2)) (k + 2) (out ++ [10]) from by rw [prs_at2 out h1, h92, hd110]; exact prs_n _ _ _)
            have hx : ((ByteArray.mk s.toArray)[k]'hlt) = 92 := h92
            have hx2 : ((ByteArray.mk s.toArray)[k + 1]'h1) = 110 := hd110
            clear h92 hd110
            go_wp2_with (first | (go_at_call 13; refine (idx_110 _).mono ?_; rintro e w' ⟨rfl, hw⟩; have hw2 := hw.symm; clear hw; subst hw2) | (at_builtin; refine wpList_append_own _ rfl _ _ 36 rfl w.heap.size 5 i0 _ 1 1 Tryz.underlying36 hi hz0 hz1 hz2 rfl (by decide) _ _ _ rfl (HO.out.alloc _) ⟨wr.heap.size, 0, none⟩ 1 1 [bv 10] rfl rfl (one_cell (heap_alloc_new _ _)) (one_one _) (by unfold maxLen; omega) (by omega) (by simp; omega) ?_))
            rintro v' w3 hown hgrow -
            have HB3 := Lib.hid ((HBW.out.alloc HBW.out.size _).grown hgrow (by have := HBW.out.size; simp; omega) (own_ge HO.out))
            have HO3 : Hid (w3.ownsRow w.heap.size 5 1 v' (out ++ [10]).length ((out ++ [10]).map bv)) := Lib.hid (by simpa using hown)
            obtain ⟨ao, n', cap', rfl⟩ := own_slice hown
            clear hown hgrow HO HBW
            go_wp2
            go_roundw
            case rel => exact ⟨out ++ [10], k + 2, by omega, by go_num, HO3, HB3, by simp; omega, Lib.hid (by rw [HD.out, HS.out])⟩
            case measure => simp [intOf]; omega
          by_cases hd92 : s[k + 1] = 92
          · have HS := Lib.hid (show prs (s.drop k) k out = prs (s.drop (k + 2)) (k + 2) (out ++ [92]) from by rw [prs_at2 out h1, h92, hd92]; exact prs_esc _ (by decide) _ _ _)
            have hx : ((ByteArray.mk s.toArray)[k]'hlt) = 92 := h92
            have hx2 : ((ByteArray.mk s.toArray)[k + 1]'h1) = 92 := hd92
            clear h92 hd92
            go_wp2_with (first | (go_at_call 13; refine (idx_92 _).mono ?_; rintro e w' ⟨rfl, hw⟩; have hw2 := hw.symm; clear hw; subst hw2) | (at_builtin; refine wpList_append_own _ rfl _ _ 36 rfl w.heap.size 5 i0 _ 1 1 Tryz.underlying36 hi hz0 hz1 hz2 rfl (by decide) _ _ _ rfl (HO.out.alloc _) ⟨wr.heap.size, 0, none⟩ 1 1 [bv 92] rfl rfl (one_cell (heap_alloc_new _ _)) (one_one _) (by unfold maxLen; omega) (by omega) (by simp; omega) ?_))
            rintro v' w3 hown hgrow -
            have HB3 := Lib.hid ((HBW.out.alloc HBW.out.size _).grown hgrow (by have := HBW.out.size; simp; omega) (own_ge HO.out))
            have HO3 : Hid (w3.ownsRow w.heap.size 5 1 v' (out ++ [92]).length ((out ++ [92]).map bv)) := Lib.hid (by simpa using hown)
            obtain ⟨ao, n', cap', rfl⟩ := own_slice hown
            clear hown hgrow HO HBW
            go_wp2
            go_roundw
            case rel => exact ⟨out ++ [92], k + 2, by omega, by go_num, HO3, HB3, by simp; omega, Lib.hid (by rw [HD.out, HS.out])⟩
            case measure => simp [intOf]; omega
          by_cases hd47 : s[k + 1] = 47
          · have HS := Lib.hid (show prs (s.drop k) k out = prs (s.drop (k + 2)) (k + 2) (out ++ [47]) from by rw [prs_at2 out h1, h92, hd47]; exact prs_esc _ (by decide) _ _ _)
            have hx : ((ByteArray.mk s.toArray)[k]'hlt) = 92 := h92
            have hx2 : ((ByteArray.mk s.toArray)[k + 1]'h1) = 47 := hd47
            clear h92 hd47
            go_wp2_with (first | (go_at_call 13; refine (idx_47 _).mono ?_; rintro e w' ⟨rfl, hw⟩; have hw2 := hw.symm; clear hw; subst hw2) | (at_builtin; refine wpList_append_own _ rfl _ _ 36 rfl w.heap.size 5 i0 _ 1 1 Tryz.underlying36 hi hz0 hz1 hz2 rfl (by decide) _ _ _ rfl (HO.out.alloc _) ⟨wr.heap.size, 0, none⟩ 1 1 [bv 47] rfl rfl (one_cell (heap_alloc_new _ _)) (one_one _) (by unfold maxLen; omega) (by omega) (by simp; omega) ?_))
            rintro v' w3 hown hgrow -
            have HB3 := Lib.hid ((HBW.out.alloc HBW.out.size _).grown hgrow (by have := HBW.out.size; simp; omega) (own_ge HO.out))
            have HO3 : Hid (w3.ownsRow w.heap.size 5 1 v' (out ++ [47]).length ((out ++ [47]).map bv)) := Lib.hid (by simpa using hown)
            obtain ⟨ao, n', cap', rfl⟩ := own_slice hown
            clear hown hgrow HO HBW
            go_wp2
            go_roundw
            case rel => exact ⟨out ++ [47], k + 2, by omega, by go_num, HO3, HB3, by simp; omega, Lib.hid (by rw [HD.out, HS.out])⟩
            case measure => simp [intOf]; omega
          have HS := Lib.hid (show prs (s.drop k) k out = ([], k, 100) from by rw [prs_at2 out h1, h92]; exact prs_bad _ hd110 hd92 hd47 _ _ _)
          have hx : ((ByteArray.mk s.toArray)[k]'hlt) = 92 := h92
          have hx2 : ((ByteArray.mk s.toArray)[k + 1]'h1) = s[k + 1] := rfl
          obtain ⟨x, hxx⟩ : ∃ x, Lib.indexByte [110, 92, 47] s[k + 1] = x := ⟨_, rfl⟩
          have hx0 : x < 0 := by rw [← hxx]; exact idx_no hd110 hd92 hd47
          have HIX := Lib.hid hxx
          clear hxx h92 hd110 hd92 hd47 hi hz0 hz1 hz2 HO
          generalize s[k + 1] = d at *
          go_wp2_with (first | (go_at_call 13; refine (idx_esc d _).mono ?_; rintro e w' ⟨rfl, hw⟩; have hw2 := hw.symm; clear hw; subst hw2; rw [HIX.out]))
          go_ret3
          rw [HD.out, HS.out]
          exact ⟨rfl, HBW.out⟩
        · have hneB : (((k : Nat) : Int) + 1 == ((s.length : Nat) : Int)) = true := by rw [beq_iff_eq]; omega
          have HS := Lib.hid (show prs (s.drop k) k out = ([], k, 100) from by
            rw [prs_at out hlt, h92, List.drop_of_length_le (by omega)]; exact prs_end _ _)
          have hx : ((ByteArray.mk s.toArray)[k]'hlt) = 92 := h92
          clear h92 h10 hn10 hi hz0 hz1 hz2 HO
          go_wp2
          go_ret3
          rw [HD.out, HS.out]
          exact ⟨rfl, HBW.out⟩
      · have hn92 := byte_ne h92
        have HS := Lib.hid (show prs (s.drop k) k out = prs (s.drop (k + 1)) (k + 1) (out ++ [s[k]]) from by rw [prs_at out hlt]; exact prs_one _ h10 h92 _ _ _)
        have hx : ((ByteArray.mk s.toArray)[k]'hlt) = s[k] := rfl
        clear h10 h92
        generalize s[k] = c at *
        have hn10' : (((c.toNat : Nat) : Int) == 10) = false := hn10
        have hn92' : (((c.toNat : Nat) : Int) == 92) = false := hn92
        clear hn10 hn92
        go_wp2_with (first | (at_builtin; refine wpList_append_own _ rfl _ _ 36 rfl w.heap.size 5 i0 _ 1 1 Tryz.underlying36 hi hz0 hz1 hz2 rfl (by decide) _ _ _ rfl (HO.out.alloc _) ⟨wr.heap.size, 0, none⟩ 1 1 [bv c] rfl rfl (one_cell (heap_alloc_new _ _)) (one_one _) (by unfold maxLen; omega) (by omega) (by simp; omega) ?_))
        rintro v' w3 hown hgrow -
        have HB3 := Lib.hid ((HBW.out.alloc HBW.out.size _).grown hgrow (by have := HBW.out.size; simp; omega) (own_ge HO.out))
        have HO3 : Hid (w3.ownsRow w.heap.size 5 1 v' (out ++ [c]).length ((out ++ [c]).map bv)) := Lib.hid (by simpa using hown)
        obtain ⟨ao, n', cap', rfl⟩ := own_slice hown
        clear hown hgrow HO HBW
        go_wp2
        go_roundw
        case rel => exact ⟨out ++ [c], k + 1, by omega, by go_num, HO3, HB3, by simp; omega, Lib.hid (by rw [HD.out, HS.out])⟩
        case measure => simp [intOf]; omega
    · obtain rfl : k = s.length := by omega
      have HS := Lib.hid (show prs (s.drop s.length) s.length out = (out, 0, 0) from by rw [List.drop_of_length_le (Nat.le_refl _)]; exact prs_nil _ _)
      have hcv := gathered HO.out
      clear hi hz0 hz1 hz2 HO
      go_wp2
      go_ret3
      rw [HD.out, HS.out]
      exact ⟨rfl, HBW.out⟩
set_option maxRecDepth 100000 in
set_option maxHeartbeats 1600000 in
theorem refParse_any (s : List UInt8) (w : World) (hl : s.length ≤ 10000) :
    Calls Tryz.prog 6 #[S s] w fun e w' => e = .returned (P3 (prs s 0 [])) ∧ w = w' := by
  go_enter Tryz.func6, Tryz.ntmps6
  go_wp2
  go_loop [5, 6] (fun o i => ∃ (out : List UInt8) (k : Nat), k ≤ s.length ∧ i = .int .i64 (k : Nat) ∧ o = S out ∧ out.length ≤ k ∧ Hid (prs s 0 [] = prs (s.drop k) k out)) (fun _ i => s.length - (intOf i).toNat)
  case atStart => exact ⟨[], 0, Nat.zero_le _, rfl, rfl, Nat.le_refl _, Lib.hid rfl⟩
  case round =>
    obtain ⟨out, k, hk, rfl, rfl, hlen, HD⟩ := hrel
    by_cases hlt : k < s.length
    · have ex1 := ex_one hlt
      by_cases h10 : s[k] = 10
      · have HS := Lib.hid (show prs (s.drop k) k out = ([], k, 100) from by rw [prs_at out hlt, h10]; exact prs_ten _ _ _)
        have hx : ((ByteArray.mk s.toArray)[k]'hlt) = 10 := h10
        clear h10 ex1
        go_wp2
        go_ret3
        rw [HD.out, HS.out]
        exact ⟨rfl, rfl⟩
      have hn10 := byte_ne h10
      by_cases h92 : s[k] = 92
      · clear ex1
        by_cases h1 : k + 1 < s.length
        · have hneB : (((k : Nat) : Int) + 1 == ((s.length : Nat) : Int)) = false := by rw [beq_eq_false_iff_ne]; omega
          have h1' : ((k : Nat) : Int) + 1 < ((s.length : Nat) : Int) := by omega
          clear h10 hn10
          by_cases hd110 : s[k + 1] = 110
          · have HS := Lib.hid (show prs (s.drop k) k out = prs (s.drop (k + 2)) (k + 2) (out ++ [10]) from by rw [prs_at2 out h1, h92, hd110]; exact prs_n _ _ _)
            have hx : ((ByteArray.mk s.toArray)[k]'hlt) = 92 := h92
            have hx2 : ((ByteArray.mk s.toArray)[k + 1]'h1) = 110 := hd110
            have ex3 := ex_nxt h1
            rw [hd110] at ex3
            have cc := fun w => run_string_add_lists (P := Tryz.prog) w out [10] (by omega) (by simp)
            clear h92 hd110
            go_wp2
            go_round
            case rel => exact ⟨out ++ [10], k + 2, by omega, by go_num, rfl, by simp; omega, Lib.hid (by rw [HD.out, HS.out])⟩
            case measure => simp [intOf]; omega
          by_cases hd92 : s[k + 1] = 92
          · have HS := Lib.hid (show prs (s.drop k) k out = prs (s.drop (k + 2)) (k + 2) (out ++ [92]) from by rw [prs_at2 out h1, h92, hd92]; exact prs_esc _ (by decide) _ _ _)
            have hx : ((ByteArray.mk s.toArray)[k]'hlt) = 92 := h92
            have hx2 : ((ByteArray.mk s.toArray)[k + 1]'h1) = 92 := hd92
            have ex3 := ex_nxt h1
            rw [hd92] at ex3
            have cc := fun w => run_string_add_lists (P := Tryz.prog) w out [92] (by omega) (by simp)
            clear h92 hd92
            go_wp2
            go_round
            case rel => exact ⟨out ++ [92], k + 2, by omega, by go_num, rfl, by simp; omega, Lib.hid (by rw [HD.out, HS.out])⟩
            case measure => simp [intOf]; omega
          by_cases hd47 : s[k + 1] = 47
          · have HS := Lib.hid (show prs (s.drop k) k out = prs (s.drop (k + 2)) (k + 2) (out ++ [47]) from by rw [prs_at2 out h1, h92, hd47]; exact prs_esc _ (by decide) _ _ _)
            have hx : ((ByteArray.mk s.toArray)[k]'hlt) = 92 := h92
            have hx2 : ((ByteArray.mk s.toArray)[k + 1]'h1) = 47 := hd47
            have ex3 := ex_nxt h1
            rw [hd47] at ex3
            have cc := fun w => run_string_add_lists (P := Tryz.prog) w out [47] (by omega) (by simp)
            clear h92 hd47
            go_wp2
            go_round
            case rel => exact ⟨out ++ [47], k + 2, by omega, by go_num, rfl, by simp; omega, Lib.hid (by rw [HD.out, HS.out])⟩
            case measure => simp [intOf]; omega
          have HS := Lib.hid (show prs (s.drop k) k out = ([], k, 100) from by rw [prs_at2 out h1, h92]; exact prs_bad _ hd110 hd92 hd47 _ _ _)
          have hx : ((ByteArray.mk s.toArray)[k]'hlt) = 92 := h92
          have hx2 : ((ByteArray.mk s.toArray)[k + 1]'h1) = s[k + 1] := rfl
          have n1 := byte_ne hd110
          have n2 := byte_ne hd92
          have n3 := byte_ne hd47
          clear h92 hd110 hd92 hd47
          generalize s[k + 1] = d at *
          have n1' : (((d.toNat : Nat) : Int) == 110) = false := n1
          have n2' : (((d.toNat : Nat) : Int) == 92) = false := n2
          have n3' : (((d.toNat : Nat) : Int) == 47) = false := n3
          clear n1 n2 n3
          go_wp2
          go_ret3
          rw [HD.out, HS.out]
          exact ⟨rfl, rfl⟩
        · have hneB : (((k : Nat) : Int) + 1 == ((s.length : Nat) : Int)) = true := by rw [beq_iff_eq]; omega
          have HS := Lib.hid (show prs (s.drop k) k out = ([], k, 100) from by
            rw [prs_at out hlt, h92, List.drop_of_length_le (by omega)]; exact prs_end _ _)
          have hx : ((ByteArray.mk s.toArray)[k]'hlt) = 92 := h92
          clear h92 h10 hn10
          go_wp2
          go_ret3
          rw [HD.out, HS.out]
          exact ⟨rfl, rfl⟩
      · have hn92 := byte_ne h92
        have HS := Lib.hid (show prs (s.drop k) k out = prs (s.drop (k + 1)) (k + 1) (out ++ [s[k]]) from by rw [prs_at out hlt]; exact prs_one _ h10 h92 _ _ _)
        have hx : ((ByteArray.mk s.toArray)[k]'hlt) = s[k] := rfl
        have hn92b : (((s[k].toNat : Nat) : Int) != 92) = true := by rw [bne_iff_ne]; intro q; exact h92 (UInt8.toNat_inj.1 (by simpa using (by omega : s[k].toNat = 92)))
        have cc := fun w => run_string_add_lists (P := Tryz.prog) w out [s[k]] (by omega) (by simp)
        clear h10 h92
        generalize s[k] = c at *
        have hn10' : (((c.toNat : Nat) : Int) == 10) = false := hn10
        have hn92' : (((c.toNat : Nat) : Int) == 92) = false := hn92
        clear hn10 hn92
        go_wp2
        go_round
        case rel => exact ⟨out ++ [c], k + 1, by omega, by go_num, rfl, by simp; omega, Lib.hid (by rw [HD.out, HS.out])⟩
        case measure => simp [intOf]; omega
    · obtain rfl : k = s.length := by omega
      have HS := Lib.hid (show prs (s.drop s.length) s.length out = (out, 0, 0) from by rw [List.drop_of_length_le (Nat.le_refl _)]; exact prs_nil _ _)
      go_wp2
      go_ret3
      rw [HD.out, HS.out]
      exact ⟨ret3' (by simp) rfl rfl, rfl⟩
set_option maxRecDepth 100000 in
set_option maxHeartbeats 1600000 in
theorem refPrint_any (s : List UInt8) (w : World) (hl : s.length ≤ 10000) :
    Calls Tryz.prog 8 #[S s] w fun e w' => e = .returned (S (printL s)) ∧ w = w' := by
  go_enter Tryz.func8, Tryz.ntmps8
  go_wp2
  go_loop [3, 4] (fun o i => ∃ (k : Nat) (out : List UInt8), k ≤ s.length ∧ i = .int .i64 (k : Nat) ∧ o = S out ∧ Hid (printL (s.take k) = out)) (fun _ i => s.length - (intOf i).toNat)
  case atStart => exact ⟨0, [], Nat.zero_le _, rfl, rfl, Lib.hid rfl⟩
  case round =>
    obtain ⟨k, out, hk, rfl, rfl, HP⟩ := hrel
    have hol : out.length ≤ 20000 := by
      have := print_len (s.take k)
      rw [HP.out] at this
      simp at this; omega
    by_cases hlt : k < s.length
    · have ex1 := ex_one hlt
      have HN := Lib.hid (show printL (s.take (k + 1)) = out ++ pr1 s[k] from by rw [print_snoc hlt, HP.out])
      by_cases h10 : s[k] = 10
      · have hx : ((ByteArray.mk s.toArray)[k]'hlt) = 10 := h10
        have HN2 := Lib.hid (show printL (s.take (k + 1)) = out ++ [92, 110] from by rw [HN.out, h10]; rfl)
        have cc := fun w => run_string_add_lists (P := Tryz.prog) w out [92, 110] (by omega) (by simp)
        clear h10 ex1 HN HP
        go_wp2
        go_round
        case rel => exact ⟨k + 1, out ++ [92, 110], by omega, by go_num, rfl, HN2⟩
        case measure => simp [intOf]; omega
      by_cases h92 : s[k] = 92
      · have hx : ((ByteArray.mk s.toArray)[k]'hlt) = 92 := h92
        have HN2 := Lib.hid (show printL (s.take (k + 1)) = out ++ [92, 92] from by rw [HN.out, h92]; rfl)
        have cc := fun w => run_string_add_lists (P := Tryz.prog) w out [92, 92] (by omega) (by simp)
        clear h10 h92 ex1 HN HP
        go_wp2
        go_round
        case rel => exact ⟨k + 1, out ++ [92, 92], by omega, by go_num, rfl, HN2⟩
        case measure => simp [intOf]; omega
      · have hn10 := byte_ne h10
        have hn92 := byte_ne h92
        have hx : ((ByteArray.mk s.toArray)[k]'hlt) = s[k] := rfl
        have HN2 := Lib.hid (show printL (s.take (k + 1)) = out ++ [s[k]] from by rw [HN.out]; unfold pr1; rw [if_neg h10, if_neg h92])
        have cc := fun w => run_string_add_lists (P := Tryz.prog) w out [s[k]] (by omega) (by simp)
        clear h10 h92 HN HP
        generalize s[k] = c at *
        have hn10' : (((c.toNat : Nat) : Int) == 10) = false := hn10
        have hn92' : (((c.toNat : Nat) : Int) == 92) = false := hn92
        clear hn10 hn92
        go_wp2
        go_round
        case rel => exact ⟨k + 1, out ++ [c], by omega, by go_num, rfl, HN2⟩
        case measure => simp [intOf]; omega
    · obtain rfl : k = s.length := by omega
      have HE := Lib.hid (show printL s = out from by have := HP.out; rwa [List.take_length] at this)
      clear HP
      go_wp2
      go_ret
      exact ⟨by rw [HE.out]; exact ret1 (by simp), rfl⟩
set_option maxRecDepth 100000 in
set_option maxHeartbeats 1600000 in
theorem print_any (s : List UInt8) (w : World) (hl : s.length ≤ 10000) :
    Calls Tryz.prog 7 #[S s] w fun e w' => e = .returned (S (printL s)) ∧ Below w.heap.size w w' := by
  have ha := heap_alloc_new w (.cells #[S [10], S [92, 110], S [92], S [92, 92]] 9)
  have HNW := Lib.hid (Rp.newReplacer_any w.heap.size [10] [92, 110] [92] [92, 92] _ ha)
  have HB0 := (Below.refl w.heap.size w).alloc (Nat.le_refl _) (.cells #[S [10], S [92, 110], S [92], S [92, 92]] 9)
  have HRE := Lib.hid (rep_print s)
  generalize printL s = r at *
  clear ha
  go_enter Tryz.func7, Tryz.ntmps7
  go_wp2_with (first
    | (go_at_call 14; refine HNW.out.mono ?_; rintro e w1 ⟨b, d, rfl, HM, hb1, hb2⟩)
    | (go_at_call 15; refine (Rp.replace_any b d t1 s _ HM (by omega)).mono ?_; rintro e w2 ⟨rfl, hb3⟩; rw [HRE.out]))
  have HBX := HB0.trans (hb1.mono HB0.size)
  have HBY := HBX.trans (hb3.mono (Nat.le_trans HB0.size hb2))
  go_ret
  exact ⟨rfl, HBY⟩
end Go.Proofs.YtpgglnibfojdgaaGreatDoor.Tr
