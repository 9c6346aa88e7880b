/- The document's natural, Digits, hex: the walks. -/
import Derived.Test.YtdjedjfanfbbcaaGreatDoorTk
import Derived.Test.YtdjedjfanfbbcaaGreatDoorRrY
import Derived.Test.YtdjedjfanfbbcaaGreatDoorRxC
import Derived.Test.YtdjedjfanfbbcaaGreatDoorAdPlain
namespace Go.Proofs.YtdjedjfanfbbcaaGreatDoor.Rx
open Go.RowKit Go.Shelf
open Go.Proofs.YtdjedjfanfbbcaaGreatDoor.Ad (itoa_dec)
set_option linter.unusedVariables false
set_option linter.unusedSimpArgs false
theorem digit_cut : ∀ d : Nat, d < 10 → ((⟨#[48, 49, 50, 51, 52, 53, 54, 55, 56, 57]⟩ : ByteArray).extract d (d + 1)) = ⟨#[UInt8.ofNat (48 + d)]⟩ := by decide
theorem dec_small {u : Nat} (h : u < 10) : Lib.decDigits u = [UInt8.ofNat (48 + u)] := by rw [Lib.decDigits, dif_pos h]
theorem dec_more {u : Nat} (h : ¬ u < 10) : Lib.decDigits u = Lib.decDigits (u / 10) ++ [UInt8.ofNat (48 + u % 10)] := by rw [Lib.decDigits, dif_neg h]
theorem dec_len2 (u : Nat) (h : u ≤ 99999999999) : (Lib.decDigits u).length ≤ 12 := by
  have k : ∀ (n : Nat) (u : Nat), u < 10 ^ (n + 1) → (Lib.decDigits u).length ≤ n + 1 := by
    intro n
    induction n with
    | zero => intro u hu; rw [Lib.decDigits, dif_pos (by simpa using hu)]; simp
    | succ n ih =>
      intro u hu
      rw [Lib.decDigits]
      by_cases h2 : u < 10
      · rw [dif_pos h2]; simp
      · rw [dif_neg h2]
        have := ih (u / 10) (by rw [Nat.pow_succ] at hu; omega)
        simp; omega
  exact k 11 u (by omega)
set_option maxRecDepth 100000 in
set_option maxHeartbeats 1600000 in
theorem nat_any (u : Nat) : ∀ (w : World), u ≤ 99999999999 → Calls Tryz.prog 76 #[U u] w fun e w' => e = .returned (S (Lib.decDigits u)) ∧ Below w.heap.size w w' := by
  induction u using Nat.strongRecOn with
  | ind u ih =>
  intro w hu
  by_cases h : u < 10
  · have hO := dec_small h
    have e1 := digit_cut u h
    generalize UInt8.ofNat (48 + u) = b at *
    have HO := Lib.hid hO
    clear hO
    have h1 : (u : Int) < 10 := by omega
    have h2 : (0 : Int) ≤ (u : Int) := by omega
    have h3 : (u : Int) + 1 ≤ 10 := by omega
    have h4 : ((u : Int) + 1).toNat = u + 1 := by omega
    have h5 : IntKind.u64.wrap ((u : Int) + 1) = (u : Int) + 1 := by rw [IntKind.wrap_u64]; omega
    go_enter Tryz.func76, Tryz.ntmps76
    go_wp2
    go_ret
    exact ⟨by rw [HO.out]; exact ret1 rfl, Below.refl _ _⟩
  · have HO := Lib.hid (dec_more h)
    have HI := Lib.hid (fun w' => ih (u / 10) (by omega) w' (by omega))
    have hlq := dec_len2 (u / 10) (by omega)
    have hq2 : (u : Int).tdiv 10 = ((u / 10 : Nat) : Int) := by rw [Int.tdiv_eq_ediv_of_nonneg (by omega)]; omega
    have hr2 : (u : Int).tmod 10 = ((u % 10 : Nat) : Int) := by rw [Int.tmod_eq_emod_of_nonneg (by omega)]; omega
    have hq : (u : Int) / 10 = ((u / 10 : Nat) : Int) := by omega
    have hr : (u : Int) % 10 = ((u % 10 : Nat) : Int) := by omega
    have hd : u % 10 < 10 := Nat.mod_lt _ (by omega)
    have h1 : ¬ (u : Int) < 10 := by omega
    have e1 := digit_cut (u % 10) hd
    clear ih
    generalize u / 10 = q at *
    generalize u % 10 = d at *
    have h3 : (d : Int) + 1 ≤ 10 := by omega
    have h4 : ((d : Int) + 1).toNat = d + 1 := by omega
    have h5 : IntKind.u64.wrap ((d : Int) + 1) = (d : Int) + 1 := by rw [IntKind.wrap_u64]; omega
    have h6 : IntKind.u64.wrap ((q : Nat) : Int) = (q : Int) := by rw [IntKind.wrap_u64]; omega
    have h7 : IntKind.u64.wrap ((d : Nat) : Int) = (d : Int) := by rw [IntKind.wrap_u64]; omega
    have h8 : (0 : Int) ≤ (d : Int) + 1 := by omega
    have h9 : (d : Int) ≤ (d : Int) + 1 := by omega
    have c1 := fun w => run_string_add_lists (P := Tryz.prog) w (Lib.decDigits q) [UInt8.ofNat (48 + d)] (by omega) (by simp)
    generalize Lib.decDigits q = x at *
    generalize UInt8.ofNat (48 + d) = b at *
    go_enter Tryz.func76, Tryz.ntmps76
    go_wp2
    refine wp_region_noPanic ?_
    refine wp_region_held_drew (S := fun w' => Below w.heap.size w w') (by kernel_rfl) ?_ (fun hHeld => ?_)
    · (try dsimp only); exact (Below.refl _ _).drew
    refine Tk.take 0 (h := ?_)
    refine Tk.take 1 (h := ?_)
    refine Tk.take 3 (h := ?_)
    refine Tk.take 4 (h := ?_)
    refine Tk.take 5 (h := ?_)
    refine Tk.take 6 (h := ?_)
    refine Tk.take 7 (h := ?_)
    refine Tk.take 8 (h := ?_)
    refine wpAnyH_ready (rs := [2]) (by kernel_rfl) (by simp) ?_
    refine AllReadyH.cons (o := ?o2) ?hi2 (fun K hK => ?st2) AllReadyH.nil
    case hi2 => simp only [List.getElem?_toArray, List.getElem?_cons_succ, List.getElem?_cons_zero]; rfl
    go_simp
    (go_at_call 76; refine (HI.out _).mono ?_; rintro e w' ⟨rfl, hbl⟩)
    refine hK.out _ _ ?_ (fun hHeld => ?_)
    · (try dsimp only); (exact hHeld.trans (hbl.mono hHeld.size))
    clear hK K
    try simp only [Act.put, List.setIfInBounds_toArray, List.set_cons_zero, List.set_cons_succ]
    refine Tk.take 9 (h := ?_)
    refine Tk.take 10 (h := ?_)
    refine wpAnyH_done (by kernel_rfl) ?_ _
    refine NoPanic.normal ?_
    go_wp2
    go_ret
    exact ⟨by rw [HO.out]; exact ret1 rfl, hHeld⟩
set_option maxRecDepth 100000 in
set_option maxHeartbeats 1600000 in
theorem digits_any (u : Nat) (w : World) (h : u ≤ 99999999999) : Calls Tryz.prog 56 #[E u] w fun e w' => e = .returned (S (Lib.decDigits u)) ∧ Below w.heap.size w w' := by
  have HI := Lib.hid (fun w' => nat_any u w' h)
  have h1 : ¬ (u : Int) < 0 := by omega
  have h2 : IntKind.u64.wrap ((u : Nat) : Int) = (u : Int) := by rw [IntKind.wrap_u64]; omega
  go_enter Tryz.func56, Tryz.ntmps56
  go_wp2_with (go_at_call 76; refine (HI.out _).mono ?_; rintro e w' ⟨rfl, hb⟩)
  go_ret
  exact ⟨rfl, hb⟩

set_option maxRecDepth 100000 in
theorem digits_neg (w : World) : Calls Tryz.prog 56 #[E (-1)] w fun e w' => e = .returned (S [45, 49]) ∧ Below w.heap.size w w' := by
  have hd : Lib.decDigits 1 = [49] := by rw [dec_small (by decide)]; rfl
  have HI := nat_any 1 w (by decide)
  rw [hd] at HI
  have HI : Hid (Calls Tryz.prog 76 #[.int .u64 1] w fun e w' => e = .returned (S [49]) ∧ Below w.heap.size w w') := Lib.hid HI
  have c1 := fun w => run_string_add_lists (P := Tryz.prog) w [45] [49] (by decide) (by decide)
  go_enter Tryz.func56, Tryz.ntmps56
  go_wp2_with (go_at_call 76; refine HI.out.mono ?_; rintro e w' ⟨rfl, hb⟩; have HB := Lib.hid hb; clear hb)
  go_ret
  exact ⟨rfl, HB.out⟩
/-- Digits, of a number of a pattern. -/
theorem digits_itoa {n : Int} (h0 : -1 ≤ n) (h : n ≤ 255) (w : World) : Calls Tryz.prog 56 #[E n] w fun e w' => e = .returned (S (Lib.itoa n)) ∧ Below w.heap.size w w' := by
  by_cases hn : n = -1
  · subst hn
    rw [show Lib.itoa (-1) = [45, 49] from by
      unfold Lib.itoa
      rw [if_pos (by decide), show Int.natAbs (-1) = 1 from rfl, dec_small (by decide)]
      rfl]
    exact digits_neg w
  · obtain ⟨u, rfl⟩ : ∃ u : Nat, n = (u : Int) := ⟨n.toNat, by omega⟩
    rw [itoa_dec (by omega), Int.toNat_natCast]
    exact digits_any u w (by omega)
theorem hex_cut : ∀ d : Nat, d < 16 → ((⟨#[48, 49, 50, 51, 52, 53, 54, 55, 56, 57, 97, 98, 99, 100, 101, 102]⟩ : ByteArray).extract d (d + 1)) = ⟨#[hexd d]⟩ := by decide
set_option maxRecDepth 100000 in
set_option maxHeartbeats 1600000 in
theorem hex_any (s : List UInt8) (hl : s.length ≤ 1000) (w : World) : Calls Tryz.prog 41 #[S s] w fun e w' => e = .returned (S (s.flatMap hexB)) ∧ Below w.heap.size w w' := by
  have hsz : (ByteArray.mk s.toArray).size = s.length := by simp [ByteArray.size]
  have HI := Lib.hid (fun (k : Nat) (h : k < s.length) => show (ByteArray.mk s.toArray)[k]'(by rw [hsz]; exact h) = s[k] from rfl)
  have hx : ∀ l : List UInt8, (l.flatMap hexB).length = 2 * l.length := by
    intro l
    induction l with
    | nil => rfl
    | cons b r ih => rw [List.flatMap_cons, List.length_append, ih]; simp [hexB]; omega
  have HXL := Lib.hid hx
  clear hx
  go_enter Tryz.func41, Tryz.ntmps41
  go_wp2
  go_loopw [3, 4] (fun o i wr => ∃ (k : Nat), k ≤ s.length ∧ i = .int .i64 (k : Nat) ∧ o = S ((s.take k).flatMap hexB) ∧ Hid (Below w.heap.size w wr)) (fun _ i _ => s.length - (intOf i).toNat)
  case atStart => exact ⟨0, Nat.zero_le _, rfl, rfl, Lib.hid (Below.refl _ _)⟩
  case round =>
    obtain ⟨k, hk, rfl, rfl, HB⟩ := hrel
    by_cases hlt : k < s.length
    · have hlt' : ((k : Nat) : Int) < ((s.length : Nat) : Int) := by omega
      have hg := HI.out k hlt
      have hzl : ((s.take k).flatMap hexB).length ≤ 2000 := by rw [HXL.out]; simp; omega
      have HN := Lib.hid (show (s.take (k + 1)).flatMap hexB = (s.take k).flatMap hexB ++ [hexd (s[k].toNat / 16), hexd (s[k].toNat % 16)] from by
        rw [List.take_succ_eq_append_getElem hlt, List.flatMap_append]; simp [hexB])
      generalize s[k] = d at *
      have hdl := UInt8.toNat_lt d
      generalize (s.take k).flatMap hexB = z at *
      have hq : (d.toNat : Int).tdiv 16 = ((d.toNat / 16 : Nat) : Int) := by rw [Int.tdiv_eq_ediv_of_nonneg (by omega)]; omega
      have hr : (d.toNat : Int).tmod 16 = ((d.toNat % 16 : Nat) : Int) := by rw [Int.tmod_eq_emod_of_nonneg (by omega)]; omega
      have hq2 : (d.toNat : Int) / 16 = ((d.toNat / 16 : Nat) : Int) := by omega
      have hr2 : (d.toNat : Int) % 16 = ((d.toNat % 16 : Nat) : Int) := by omega
      have hql : d.toNat / 16 < 16 := by omega
      have hrl : d.toNat % 16 < 16 := by omega
      have e1 := hex_cut _ hql
      have e2 := hex_cut _ hrl
      generalize d.toNat / 16 = q at *
      generalize d.toNat % 16 = r at *
      generalize hexd q = x1 at *
      generalize hexd r = x2 at *
      have b1 : (0 : Int) ≤ (q : Int) := by omega
      have b2 : (0 : Int) ≤ (r : Int) := by omega
      have b3 : (q : Int) + 1 ≤ 16 := by omega
      have b4 : (r : Int) + 1 ≤ 16 := by omega
      have b5 : ((q : Int) + 1).toNat = q + 1 := by omega
      have b6 : ((r : Int) + 1).toNat = r + 1 := by omega
      have c1 := fun w => run_string_add_lists (P := Tryz.prog) w z [x1] (by omega) (by simp)
      have c2 := fun w => run_string_add_lists (P := Tryz.prog) w (z ++ [x1]) [x2] (by simp; omega) (by simp)
      go_wp2
      go_region
      go_wp2
      go_roundw
      case rel => exact ⟨k + 1, by omega, by go_num, by rw [HN.out], Lib.hid (HB.out.trans ((Below.refl _ _).drew.mono HB.out.size))⟩
      case measure => simp [intOf]; omega
    · obtain rfl : k = s.length := by omega
      rw [List.take_length]
      go_wp2
      go_ret
      exact ⟨rfl, HB.out⟩
end Go.Proofs.YtdjedjfanfbbcaaGreatDoor.Rx
