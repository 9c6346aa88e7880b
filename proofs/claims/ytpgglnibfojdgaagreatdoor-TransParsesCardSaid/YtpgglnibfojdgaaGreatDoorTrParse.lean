/- ParseUint to the base 8, of numbers of 8 bits: the walk. -/
import Derived.Test.YtpgglnibfojdgaaGreatDoorTrPiece
namespace Go.Proofs.YtpgglnibfojdgaaGreatDoor.Tr
open Go.RowKit Go.Shelf Bld
set_option linter.unusedVariables false
set_option linter.unusedSimpArgs false
abbrev SE (n : Int) : Value := .iface 81 (.int .i64 n)
theorem bytes_cell (w : World) (t : List UInt8) (cap : Nat) (fz : Nat × Nat) (j : Nat) (hj : j < t.length) :
    (w.alloc (.cells (bytesRow ⟨t.toArray⟩ cap) 5 fz)).cell? ⟨w.heap.size, j, none⟩ = some (.int .u8 (t[j].toNat : Int)) := by
  rw [Lib.cell_of_heap (heap_alloc_new w _)]
  unfold bytesRow
  rw [Array.getElem?_append_left (by simpa using hj)]
  simp [List.getElem?_eq_getElem hj]
theorem oct_drop {t : List UInt8} {k : Nat} (h : k < t.length) (acc : Nat) : oct acc (t.drop k) =
    if 48 ≤ t[k].toNat ∧ t[k].toNat ≤ 55 then (if acc * 8 + (t[k].toNat - 48) ≤ 255 then oct (acc * 8 + (t[k].toNat - 48)) (t.drop (k + 1)) else none) else none := by
  rw [List.drop_eq_getElem_cons h]; rfl
theorem low_letter : ∀ c : Nat, c < 256 → 0 ≤ bits .or .u8 (c : Int) 32 ∧ bits .or .u8 (c : Int) 32 ≤ 255 := by decide +kernel
/-- What ParseUint answers to the base 8, for 8 bits. -/
def Par (t : List UInt8) (e : Ending) : Prop :=
  (∃ x : Nat, oct 0 t = some x ∧ e = .returned (.tuple #[.int .u64 x, .nilIface])) ∨ (oct 0 t = none ∧ ∃ (v n : Int), (n = 1 ∨ n = 2) ∧ e = .returned (.tuple #[.int .u64 v, SE n]))
set_option maxRecDepth 100000 in
set_option maxHeartbeats 3200000 in
theorem parse8_any (t : List UInt8) (h1 : 1 ≤ t.length) (h3 : t.length ≤ 3) (w : World) :
    Calls Tryz.prog 29 #[S t, E 8, E 8] w fun e w' =>
      Par t e ∧ Below w.heap.size w w' := by
  have hne : (t == []) = false := by cases t with | nil => simp at h1 | cons => rfl
  have hcv := run_bytes_of_string (P := Tryz.prog) w 9 36 5 ⟨t.toArray⟩ Tryz.underlying9 Tryz.underlying36 Tryz.underlying5
  have hsz : (ByteArray.mk t.toArray).size = t.length := by simp [ByteArray.size]
  rw [hsz] at hcv
  generalize grownCap w t.length 0 5 = gc at hcv
  have HC := Lib.hid (bytes_cell w t gc ((bytesRow ⟨t.toArray⟩ gc).size, (bytesRow ⟨t.toArray⟩ gc).size + 1))
  have HB := Lib.hid ((Below.refl w.heap.size w).alloc (Nat.le_refl _) (.cells (bytesRow ⟨t.toArray⟩ gc) 5 ((bytesRow ⟨t.toArray⟩ gc).size, (bytesRow ⟨t.toArray⟩ gc).size + 1))).drew
  generalize Obj.cells (bytesRow ⟨t.toArray⟩ gc) 5 ((bytesRow ⟨t.toArray⟩ gc).size, (bytesRow ⟨t.toArray⟩ gc).size + 1) = ob at *
  go_enter Tryz.func29, Tryz.ntmps29
  go_wp2
  go_loop [12, 13, 101] (fun un n i => ∃ k acc : Nat, k ≤ t.length ∧ un = .bool false ∧ i = .int .i64 (k : Nat) ∧ n = .int .u64 (acc : Nat) ∧ acc ≤ 255 ∧ Hid (oct 0 t = oct acc (t.drop k))) (fun _ _ i => t.length - (intOf i).toNat)
  case atStart => exact ⟨0, 0, Nat.zero_le _, rfl, rfl, rfl, by omega, Lib.hid (by simp)⟩
  case round =>
    obtain ⟨k, acc, hk, rfl, rfl, rfl, hacc, HR⟩ := hrel
    by_cases hlt : k < t.length
    · have hcell := HC.out k hlt
      have OD := Lib.hid (oct_drop hlt acc)
      have hcb := UInt8.toNat_lt t[k]
      clear HC
      generalize t[k].toNat = c at *
      have HL := Lib.hid (low_letter c hcb)
      have hcut : ¬ (2305843009213693952 : Int) ≤ ((acc : Nat) : Int) := by omega
      by_cases hd : 48 ≤ c ∧ c ≤ 55
      · have d1 : (48 : Int) ≤ c := by omega
        have d2 : (c : Int) ≤ 57 := by omega
        have d3 : ((c : Int) - 48) = ((c - 48 : Nat) : Int) := by omega
        have d4 : ¬ (8 : Int) ≤ ((c - 48 : Nat) : Int) := by omega
        by_cases hs : acc * 8 + (c - 48) ≤ 255
        · have HO := Lib.hid (show oct 0 t = oct (acc * 8 + (c - 48)) (t.drop (k + 1)) from by rw [HR.out, OD.out, if_pos hd, if_pos hs])
          have s1 : ((acc : Nat) : Int) * 8 + ((c - 48 : Nat) : Int) ≤ 255 := by omega
          generalize c - 48 = d at *
          clear hd OD HR
          go_wp2
          go_round
          case rel => exact ⟨k + 1, acc * 8 + d, by omega, rfl, by go_num, by go_num, hs, HO⟩
          case measure => simp [intOf]; omega
        · have HO := Lib.hid (show oct 0 t = none from by rw [HR.out, OD.out, if_pos hd, if_neg hs])
          have s1 : ¬ ((acc : Nat) : Int) * 8 + ((c - 48 : Nat) : Int) ≤ 255 := by omega
          generalize c - 48 = d at *
          clear hd OD HR
          go_wp2
          go_ret2
          exact ⟨Or.inr ⟨HO.out, _, _, Or.inl rfl, rfl⟩, HB.out⟩
      · have HO := Lib.hid (show oct 0 t = none from by rw [HR.out, OD.out, if_neg hd])
        clear OD HR
        have HOUT := Lib.hid (show ∀ (e : Ending) (v : Int), e = .returned (.tuple #[.int .u64 v, SE 2]) → Par t e from fun e v he => Or.inr ⟨HO.out, v, 2, Or.inr rfl, he⟩)
        by_cases d56 : 48 ≤ c ∧ c ≤ 57
        · have d1 : (48 : Int) ≤ c := by omega
          have d2 : (c : Int) ≤ 57 := by omega
          have d3 : ((c : Int) - 48) = ((c - 48 : Nat) : Int) := by omega
          have d4 : (8 : Int) ≤ ((c - 48 : Nat) : Int) := by omega
          have d5 : c - 48 ≤ 9 := by omega
          generalize c - 48 = d at *
          clear hd d56
          go_wp2
          go_ret2
          exact ⟨HOUT.out _ _ rfl, HB.out⟩
        · obtain ⟨l, hl⟩ : ∃ l : Nat, bits .or .u8 (c : Int) 32 = (l : Int) := ⟨(bits .or .u8 (c : Int) 32).toNat, by have := HL.out; omega⟩
          have hl255 : l ≤ 255 := by have := HL.out.2; omega
          have HLOW := Lib.hid (show ∀ w, Calls Tryz.prog 40 #[.int .u8 (c : Int)] w fun e w' => e = .returned (Y l) ∧ w' = w from fun w => by
            have := Tryz.internal_strconv_lower (c : Int) w
            rw [hl] at this
            exact this)
          clear hl HL
          cases e95 : (((c : Nat) : Int) == 95)
          · by_cases d48 : 48 ≤ c
            · have d1 : (48 : Int) ≤ c := by omega
              have d2 : ¬ (c : Int) ≤ 57 := by omega
              clear hd d56
              by_cases l97 : 97 ≤ l
              · have l1 : (97 : Int) ≤ l := by omega
                by_cases l122 : l ≤ 122
                · have l2 : (l : Int) ≤ 122 := by omega
                  have l4 : (8 : Int) ≤ (l : Int) - 97 + 10 := by omega
                  go_wp2_with (go_at_call 40; refine (HLOW.out _).mono ?_; rintro e w' ⟨rfl, rfl⟩; (try clear hcell); (try clear d1); (try clear d2); (try clear e95); (try clear hcb); (try clear hcut); (try clear hacc); (try clear hk); (try clear hl255); (try clear hcv))
                  go_ret2
                  exact ⟨HOUT.out _ _ rfl, HB.out⟩
                · have l2 : ¬ (l : Int) ≤ 122 := by omega
                  go_wp2_with (go_at_call 40; refine (HLOW.out _).mono ?_; rintro e w' ⟨rfl, rfl⟩; (try clear hcell); (try clear d1); (try clear d2); (try clear e95); (try clear hcb); (try clear hcut); (try clear hacc); (try clear hk); (try clear hl255); (try clear hcv))
                  go_ret2
                  exact ⟨HOUT.out _ _ rfl, HB.out⟩
              · have l1 : ¬ (97 : Int) ≤ l := by omega
                go_wp2_with (go_at_call 40; refine (HLOW.out _).mono ?_; rintro e w' ⟨rfl, rfl⟩; (try clear hcell); (try clear d1); (try clear d2); (try clear e95); (try clear hcb); (try clear hcut); (try clear hacc); (try clear hk); (try clear hl255); (try clear hcv))
                go_ret2
                exact ⟨HOUT.out _ _ rfl, HB.out⟩
            · have d1 : ¬ (48 : Int) ≤ c := by omega
              clear hd d56
              by_cases l97 : 97 ≤ l
              · have l1 : (97 : Int) ≤ l := by omega
                by_cases l122 : l ≤ 122
                · have l2 : (l : Int) ≤ 122 := by omega
                  have l4 : (8 : Int) ≤ (l : Int) - 97 + 10 := by omega
                  go_wp2_with (go_at_call 40; refine (HLOW.out _).mono ?_; rintro e w' ⟨rfl, rfl⟩; (try clear hcell); (try clear d1); (try clear d2); (try clear e95); (try clear hcb); (try clear hcut); (try clear hacc); (try clear hk); (try clear hl255); (try clear hcv))
                  go_ret2
                  exact ⟨HOUT.out _ _ rfl, HB.out⟩
                · have l2 : ¬ (l : Int) ≤ 122 := by omega
                  go_wp2_with (go_at_call 40; refine (HLOW.out _).mono ?_; rintro e w' ⟨rfl, rfl⟩; (try clear hcell); (try clear d1); (try clear d2); (try clear e95); (try clear hcb); (try clear hcut); (try clear hacc); (try clear hk); (try clear hl255); (try clear hcv))
                  go_ret2
                  exact ⟨HOUT.out _ _ rfl, HB.out⟩
              · have l1 : ¬ (97 : Int) ≤ l := by omega
                go_wp2_with (go_at_call 40; refine (HLOW.out _).mono ?_; rintro e w' ⟨rfl, rfl⟩; (try clear hcell); (try clear d1); (try clear d2); (try clear e95); (try clear hcb); (try clear hcut); (try clear hacc); (try clear hk); (try clear hl255); (try clear hcv))
                go_ret2
                exact ⟨HOUT.out _ _ rfl, HB.out⟩
          · by_cases d48 : 48 ≤ c
            · have d1 : (48 : Int) ≤ c := by omega
              have d2 : ¬ (c : Int) ≤ 57 := by omega
              clear hd d56
              by_cases l97 : 97 ≤ l
              · have l1 : (97 : Int) ≤ l := by omega
                by_cases l122 : l ≤ 122
                · have l2 : (l : Int) ≤ 122 := by omega
                  have l4 : (8 : Int) ≤ (l : Int) - 97 + 10 := by omega
                  go_wp2_with (go_at_call 40; refine (HLOW.out _).mono ?_; rintro e w' ⟨rfl, rfl⟩; (try clear hcell); (try clear d1); (try clear d2); (try clear e95); (try clear hcb); (try clear hcut); (try clear hacc); (try clear hk); (try clear hl255); (try clear hcv))
                  go_ret2
                  exact ⟨HOUT.out _ _ rfl, HB.out⟩
                · have l2 : ¬ (l : Int) ≤ 122 := by omega
                  go_wp2_with (go_at_call 40; refine (HLOW.out _).mono ?_; rintro e w' ⟨rfl, rfl⟩; (try clear hcell); (try clear d1); (try clear d2); (try clear e95); (try clear hcb); (try clear hcut); (try clear hacc); (try clear hk); (try clear hl255); (try clear hcv))
                  go_ret2
                  exact ⟨HOUT.out _ _ rfl, HB.out⟩
              · have l1 : ¬ (97 : Int) ≤ l := by omega
                go_wp2_with (go_at_call 40; refine (HLOW.out _).mono ?_; rintro e w' ⟨rfl, rfl⟩; (try clear hcell); (try clear d1); (try clear d2); (try clear e95); (try clear hcb); (try clear hcut); (try clear hacc); (try clear hk); (try clear hl255); (try clear hcv))
                go_ret2
                exact ⟨HOUT.out _ _ rfl, HB.out⟩
            · have d1 : ¬ (48 : Int) ≤ c := by omega
              clear hd d56
              by_cases l97 : 97 ≤ l
              · have l1 : (97 : Int) ≤ l := by omega
                by_cases l122 : l ≤ 122
                · have l2 : (l : Int) ≤ 122 := by omega
                  have l4 : (8 : Int) ≤ (l : Int) - 97 + 10 := by omega
                  go_wp2_with (go_at_call 40; refine (HLOW.out _).mono ?_; rintro e w' ⟨rfl, rfl⟩; (try clear hcell); (try clear d1); (try clear d2); (try clear e95); (try clear hcb); (try clear hcut); (try clear hacc); (try clear hk); (try clear hl255); (try clear hcv))
                  go_ret2
                  exact ⟨HOUT.out _ _ rfl, HB.out⟩
                · have l2 : ¬ (l : Int) ≤ 122 := by omega
                  go_wp2_with (go_at_call 40; refine (HLOW.out _).mono ?_; rintro e w' ⟨rfl, rfl⟩; (try clear hcell); (try clear d1); (try clear d2); (try clear e95); (try clear hcb); (try clear hcut); (try clear hacc); (try clear hk); (try clear hl255); (try clear hcv))
                  go_ret2
                  exact ⟨HOUT.out _ _ rfl, HB.out⟩
              · have l1 : ¬ (97 : Int) ≤ l := by omega
                go_wp2_with (go_at_call 40; refine (HLOW.out _).mono ?_; rintro e w' ⟨rfl, rfl⟩; (try clear hcell); (try clear d1); (try clear d2); (try clear e95); (try clear hcb); (try clear hcut); (try clear hacc); (try clear hk); (try clear hl255); (try clear hcv))
                go_ret2
                exact ⟨HOUT.out _ _ rfl, HB.out⟩
    · obtain rfl : k = t.length := by omega
      have HO := Lib.hid (show oct 0 t = some acc from by rw [HR.out, List.drop_of_length_le (by omega)]; rfl)
      clear HR HC
      go_wp2
      go_ret2
      exact ⟨Or.inl ⟨acc, HO.out, rfl⟩, HB.out⟩
end Go.Proofs.YtpgglnibfojdgaaGreatDoor.Tr
