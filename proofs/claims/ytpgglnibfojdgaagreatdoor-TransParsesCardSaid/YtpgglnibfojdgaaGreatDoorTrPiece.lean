/- How a byte is listed: the walk. -/
import Derived.Test.YtpgglnibfojdgaaGreatDoorTrFmt
namespace Go.Proofs.YtpgglnibfojdgaaGreatDoor.Tr
open Go.RowKit Go.Shelf Bld
set_option linter.unusedVariables false
set_option linter.unusedSimpArgs false
theorem conv1 (d : UInt8) (w : World) : (convert 36 9 (.slice (some ⟨w.heap.size, 0, none⟩) 1 1)).run Tryz.prog (w.alloc (.cells #[.int .u8 d.toNat] 5)) = .ok (S [d]) (w.alloc (.cells #[.int .u8 d.toNat] 5)) :=
  run_convert_bytes_back (P := Tryz.prog) (w.alloc (.cells #[.int .u8 d.toNat] 5)) 36 9 5 ⟨w.heap.size, 0, none⟩ 1 [d] Tryz.underlying36 Tryz.underlying5 Tryz.underlying9 (by
    intro j hj
    match j, hj with
    | 0, _ => simp [Addr.add])
set_option maxRecDepth 100000 in
set_option maxHeartbeats 800000 in
theorem format8 (u : Nat) (hu : u < 256) (w : World) (hT : Tab w) :
    Calls Tryz.prog 32 #[.int .u64 u, E 8] w fun e w' => e = .returned (S (octD u)) ∧ Below w.heap.size w w' := by
  have HF := Lib.hid (fmtBits_any u hu w hT)
  go_enter Tryz.func32, Tryz.ntmps32
  go_wp2_with (first | (go_at_call 64; refine HF.out.mono ?_; rintro e w' ⟨rfl, hb⟩) | go_in)
  go_ret
  exact ⟨rfl, hb⟩
theorem repeat_any (k : Nat) (hk : k ≤ 2) (w : World) :
    Calls Tryz.prog 33 #[S [48], E (k : Nat)] w fun e w' => e = .returned (S (List.replicate k 48)) ∧ Below w.heap.size w w' := by
  obtain rfl | rfl | rfl : k = 0 ∨ k = 1 ∨ k = 2 := by omega
  · refine (Tryz.strings_Repeat_zero ⟨[48].toArray⟩ w).mono ?_
    rintro e w' ⟨rfl, rfl⟩
    exact ⟨rfl, Below.refl _ _⟩
  · refine (Tryz.strings_Repeat_one ⟨[48].toArray⟩ w).mono ?_
    rintro e w' ⟨rfl, rfl⟩
    exact ⟨rfl, Below.refl _ _⟩
  · refine (Tryz.strings_Repeat_main ⟨[48].toArray⟩ 2 w (by decide) (by decide) (by decide) (by decide)).mono ?_
    rintro e w' ⟨rfl, hb⟩
    exact ⟨rfl, hb⟩
theorem oct_len (u : Nat) : 1 ≤ (octD u).length ∧ (octD u).length ≤ 3 := by
  unfold octD; split
  · simp
  · split <;> simp
theorem oct_pad (c : UInt8) (h1 : c ≠ 92) (h2 : ¬ (7 ≤ c.toNat ∧ c.toNat ≤ 13)) (h3 : c.toNat < 32 ∨ 126 < c.toNat) : pieceL c = [92] ++ List.replicate (3 - (octD c.toNat).length) 48 ++ octD c.toNat :=
  every (p := fun c => c ≠ 92 → ¬ (7 ≤ c.toNat ∧ c.toNat ≤ 13) → (c.toNat < 32 ∨ 126 < c.toNat) → pieceL c = [92] ++ List.replicate (3 - (octD c.toNat).length) 48 ++ octD c.toNat) (by decide +kernel) c h1 h2 h3
theorem esc_cat (d : List UInt8) : ((ByteArray.mk #[92]) ++ (⟨d.toArray⟩ : ByteArray)) = ⟨(92 :: d).toArray⟩ := by ext1; simp [ByteArray.data_append]
set_option maxRecDepth 100000 in
set_option maxHeartbeats 1600000 in
theorem piece_short (n : Nat) (x : UInt8) (w : World) (h1 : 7 ≤ n) (h2 : n ≤ 13) (hx : ∀ h, ((⟨#[97, 98, 116, 110, 118, 102, 114]⟩ : ByteArray)[n - 7]'h) = x) :
    Calls Tryz.prog 22 #[Y n] w fun e w' => e = .returned (S [92, x]) ∧ Below w.heap.size w w' := by
  have cv := conv1 x
  have cc := fun w => run_string_add_lists (P := Tryz.prog) w [92] [x] (by simp) (by simp)
  have hx' := hx (by show n - 7 < 7; omega)
  clear hx
  have e1 : ((n : Int) == 92) = false := by rw [beq_eq_false_iff_ne]; omega
  have e2 : ((n : Int) - 7) = ((n - 7 : Nat) : Int) := by omega
  have e3 : (7 : Int) ≤ n := by omega
  have e4 : (n : Int) ≤ 13 := by omega
  have e5 : n - 7 < 7 := by omega
  go_enter Tryz.func22, Tryz.ntmps22
  go_wp2
  go_ret
  exact ⟨rfl, (Below.refl w.heap.size w).alloc (Nat.le_refl _) _⟩
set_option maxRecDepth 100000 in
set_option maxHeartbeats 1600000 in
theorem piece_any (c : UInt8) (w : World) (hT : Tab w) :
    Calls Tryz.prog 22 #[Y c.toNat] w fun e w' => e = .returned (S (pieceL c)) ∧ Below w.heap.size w w' := by
  have hlt := UInt8.toNat_lt c
  by_cases h92 : c = 92
  · subst h92
    go_enter Tryz.func22, Tryz.ntmps22
    go_wp2
    go_ret
    exact ⟨rfl, Below.refl _ _⟩
  have hn92 : c.toNat ≠ 92 := fun h => h92 (UInt8.toNat_inj.1 h)
  by_cases hs : 7 ≤ c.toNat ∧ c.toNat ≤ 13
  · have hp : pieceL c = [92, shortL.getD (c.toNat - 7) 0] := by unfold pieceL; rw [if_neg h92, if_pos hs]
    rw [hp]
    refine piece_short c.toNat _ w hs.1 hs.2 ?_
    have : ∀ j, j < 7 → ∀ h, ((⟨#[97, 98, 116, 110, 118, 102, 114]⟩ : ByteArray)[j]'h) = shortL.getD j 0 := by decide
    exact this (c.toNat - 7) (by omega)
  by_cases hn : c.toNat < 32 ∨ 126 < c.toNat
  · have hp := oct_pad c h92 hs hn
    have hl := oct_len c.toNat
    have HF := Lib.hid (format8 c.toNat (by omega) w hT)
    obtain ⟨n, hcn⟩ : ∃ n, c.toNat = n := ⟨_, rfl⟩
    rw [hcn] at hp hl HF hn hs hn92 hlt ⊢
    clear hcn
    obtain ⟨d, hd⟩ : ∃ d, octD n = d := ⟨_, rfl⟩
    rw [hd] at hp hl HF
    clear hd
    rw [List.append_assoc, List.singleton_append] at hp
    have HP := Lib.hid hp
    have e1 : ((n : Int) == 92) = false := by rw [beq_eq_false_iff_ne]; omega
    have e6 : (3 - (d.length : Int)) = ((3 - d.length : Nat) : Int) := by omega
    have cc := fun w => run_string_add_lists (P := Tryz.prog) w [92] (List.replicate (3 - d.length) 48) (by simp) (by simp; omega)
    have cc2 := fun w => run_string_add_lists (P := Tryz.prog) w (92 :: List.replicate (3 - d.length) 48) d (by simp; omega) (by omega)
    have HR := Lib.hid (repeat_any (3 - d.length) (by omega))
    have hmod : (n : Int) % 18446744073709551616 = n := by omega
    generalize List.replicate (3 - d.length) (48 : UInt8) = z at *
    clear hp
    by_cases h7 : n < 7
    · have e3 : ¬ (7 : Int) ≤ n := by omega
      have e4 : (n : Int) < 32 := by omega
      clear hs hn
      go_enter Tryz.func22, Tryz.ntmps22
      go_wp2_with (first | (go_at_call 32; refine HF.out.mono ?_; rintro e w1 ⟨rfl, hb⟩) | (go_at_call 33; refine (HR.out _).mono ?_; rintro e w2 ⟨rfl, hb2⟩))
      go_ret
      rw [HP.out]
      exact ⟨rfl, hb.trans (hb2.mono hb.size)⟩
    · have e3 : (7 : Int) ≤ n := by omega
      have e5 : ¬ (n : Int) ≤ 13 := by omega
      by_cases h32 : n < 32
      · have e4 : (n : Int) < 32 := by omega
        clear hs hn
        go_enter Tryz.func22, Tryz.ntmps22
        go_wp2_with (first | (go_at_call 32; refine HF.out.mono ?_; rintro e w1 ⟨rfl, hb⟩) | (go_at_call 33; refine (HR.out _).mono ?_; rintro e w2 ⟨rfl, hb2⟩))
        go_ret
        rw [HP.out]
        exact ⟨rfl, hb.trans (hb2.mono hb.size)⟩
      · have e4 : ¬ (n : Int) < 32 := by omega
        have e7 : (126 : Int) < n := by omega
        clear hs hn
        go_enter Tryz.func22, Tryz.ntmps22
        go_wp2_with (first | (go_at_call 32; refine HF.out.mono ?_; rintro e w1 ⟨rfl, hb⟩) | (go_at_call 33; refine (HR.out _).mono ?_; rintro e w2 ⟨rfl, hb2⟩))
        go_ret
        rw [HP.out]
        exact ⟨rfl, hb.trans (hb2.mono hb.size)⟩
  · have hp : pieceL c = [c] := by unfold pieceL; rw [if_neg h92, if_neg hs, if_neg hn]
    have cv := conv1 c
    have HP := Lib.hid hp
    have e1 : ((c.toNat : Int) == 92) = false := by rw [beq_eq_false_iff_ne]; omega
    have e3 : (7 : Int) ≤ c.toNat := by omega
    have e5 : ¬ (c.toNat : Int) ≤ 13 := by omega
    have e4 : ¬ (c.toNat : Int) < 32 := by omega
    have e7 : ¬ (126 : Int) < c.toNat := by omega
    clear hp hs hn
    go_enter Tryz.func22, Tryz.ntmps22
    go_wp2
    go_ret
    rw [HP.out]
    exact ⟨rfl, (Below.refl w.heap.size w).alloc (Nat.le_refl _) _⟩
end Go.Proofs.YtpgglnibfojdgaaGreatDoor.Tr
