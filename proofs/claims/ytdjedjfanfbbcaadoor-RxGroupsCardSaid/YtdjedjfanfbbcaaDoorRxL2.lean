/- Patterns: RxGroups: the walk. -/
import Derived.Test.YtdjedjfanfbbcaaDoorRxL1
import Derived.Test.YtdjedjfanfbbcaaDoorRxGr
namespace Go.Proofs.YtdjedjfanfbbcaaDoor.Rx
open Go.RowKit Go.Shelf
open Tr
open Go.Proofs.YtdjedjfanfbbcaaDoor.St (Wf word zeroW Tab SV SV_eq)
set_option linter.unusedVariables false
set_option linter.unusedSimpArgs false
theorem count_step {s : List UInt8} {k : Nat} (h : k < s.length) (c : UInt8) : (s.take (k + 1)).count c = (s.take k).count c + (if s[k] = c then 1 else 0) := by
  rw [List.take_succ_eq_append_getElem h, List.count_append, List.count_singleton]
  by_cases q : s[k] = c
  · simp [q]
  · have : ¬ (s[k] == c) = true := by simpa using q
    simp [q]
set_option maxRecDepth 100000 in
set_option maxHeartbeats 1600000 in
theorem rxGroups_walk (W : World) (hL : Lay W) (ao : Option Addr) (c : Nat) (l : List Nd) (m : l.length ≤ maxLen) (B : Ns W (.slice ao l.length c) l) (F : ∀ n ∈ l, Wf n.s) :
    Calls Tryd.prog 5 #[.slice ao l.length c] W fun e W' => e = .returned (.bool true) ∧ Below W.heap.size W W' := by
  have HSH := Lib.hid (fun W' (hb : Below W.heap.size W W') => shown_any W' (hL.below hb))
  have HL := Lib.hid (fun W' (hb : Below W.heap.size W W') => hL.below hb)
  have HB := Lib.hid (Below.refl W.heap.size W)
  have HN := Lib.hid (fun W' (hb : Below W.heap.size W W') => B.below hb)
  have HM0 := fun W' (hb : Below W.heap.size W W') => may_any ao c l W' (HN.out W' hb) F
  clear hL B
  by_cases hlen : l.length ≤ 130
  · have hgt : ¬ (130 : Int) < ((l.length : Nat) : Int) := by omega
    cases hm : mayL l
    · rw [hm] at HM0
      have HM := Lib.hid HM0
      clear hm HM0 m F HN
      go_enter Tryd.func5, Tryd.ntmps5
      go_wp2_with (first
      | (go_at_call 7; refine (HSH.out _ HB.out).mono ?_; rintro e w' ⟨rfl, hb⟩; have HB := Lib.hid (HB.out.trans (hb.mono HB.out.size)); clear hb)
      | (go_at_call 10; refine (HM.out _ HB.out).mono ?_; rintro e w' ⟨rfl, hb⟩; skip; have HB := Lib.hid (HB.out.trans (hb.mono HB.out.size)); clear hb))
      go_ret
      exact ⟨rfl, HB.out⟩
    · rw [hm] at HM0
      have HM := Lib.hid HM0
      have HT0 := fun W' (hb : Below W.heap.size W W') => text_any ao c l W' (HN.out W' hb) F (HL.out W' hb)
      have HG0 := fun W' (hb : Below W.heap.size W W') => groups_any ao c l W' (HN.out W' hb) F
      have HR0 := fun W' (hb : Below W.heap.size W W') => refs_any ao c l W' (HN.out W' hb) F
      obtain ⟨t, hpt, h1, h2, h3⟩ := may_some hm
      have hlt := textL_len l
      have e1 : groupsL l = cnt t := by unfold groupsL; rw [hpt]
      have e2 : refsL l = decide (0 < refsT t) := by unfold refsL; rw [hpt]
      have o1 := opens t
      have o2 := closes t
      have o3 := slashes t
      have o4 := cnt_le _ t 0 h2.1 h2.numOk (by decide)
      rw [e1] at HG0
      rw [e2] at HR0
      rw [h3] at HT0 hlt
      generalize textT t = s at *
      rw [← o3] at HR0
      rw [← o1] at HG0 o4 o2
      clear o1 o3 e1 e2 hpt h1 h2 h3 hm HM0 m F
      have HT := Lib.hid HT0
      have HG := Lib.hid HG0
      have HR := Lib.hid HR0
      have hg9 : ((s.count 40 : Nat) : Int) ≤ 9 := by omega
      have hq2 : s.count 41 = s.count 40 := by omega
      have HC := Lib.hid hq2
      clear HT0 HG0 HR0 HN o2 o4 hq2
      have hsz : (ByteArray.mk s.toArray).size = s.length := by simp [ByteArray.size]
      have HI := Lib.hid (fun (k : Nat) (h : k < s.length) => show (ByteArray.mk s.toArray)[k]'(by rw [hsz]; exact h) = s[k] from rfl)
      go_enter Tryd.func5, Tryd.ntmps5
      go_wp2_with (first
      | (go_at_call 7; refine (HSH.out _ HB.out).mono ?_; rintro e w' ⟨rfl, hb⟩; have HB := Lib.hid (HB.out.trans (hb.mono HB.out.size)); clear hb)
      | (go_at_call 10; refine (HM.out _ HB.out).mono ?_; rintro e w' ⟨rfl, hb⟩; skip; have HB := Lib.hid (HB.out.trans (hb.mono HB.out.size)); clear hb)
      | (go_at_call 8; refine (HT.out _ HB.out).mono ?_; rintro e w' ⟨rfl, hb⟩; skip; have HB := Lib.hid (HB.out.trans (hb.mono HB.out.size)); clear hb))
      go_loopw [4, 5, 6, 7] (fun o e r i wr => ∃ (k : Nat), k ≤ s.length ∧ i = .int .i64 (k : Nat) ∧ o = .int .i64 (((s.take k).count 40 : Nat) : Int) ∧ e = .int .i64 (((s.take k).count 41 : Nat) : Int) ∧ r = .int .i64 (((s.take k).count 92 : Nat) : Int) ∧ Hid (Below W.heap.size W wr)) (fun _ _ _ i _ => s.length - (intOf i).toNat)
      case atStart => exact ⟨0, Nat.zero_le _, rfl, by simp, by simp, by simp, HB⟩
      case round =>
        clear HB
        obtain ⟨k, hk, rfl, rfl, rfl, rfl, HB⟩ := hrel
        have c40 : (s.take k).count 40 ≤ 100000 := Nat.le_trans (List.count_le_length) (by simp; omega)
        have c41 : (s.take k).count 41 ≤ 100000 := Nat.le_trans (List.count_le_length) (by simp; omega)
        have c92 : (s.take k).count 92 ≤ 100000 := Nat.le_trans (List.count_le_length) (by simp; omega)
        by_cases hlt2 : k < s.length
        · have hlt' : ((k : Nat) : Int) < ((s.length : Nat) : Int) := by omega
          have N40 := Lib.hid (count_step hlt2 40)
          have N41 := Lib.hid (count_step hlt2 41)
          have N92 := Lib.hid (count_step hlt2 92)
          have hx := HI.out k hlt2
          generalize s[k] = x at *
          generalize (s.take k).count 40 = n40 at *
          generalize (s.take k).count 41 = n41 at *
          generalize (s.take k).count 92 = n92 at *
          by_cases x40 : x = 40
          · subst x40
            go_wp2
            go_roundw
            case rel => exact ⟨k + 1, by omega, by go_num, by rw [N40.out, if_pos rfl]; go_num, by rw [N41.out, if_neg (by decide)]; rfl, by rw [N92.out, if_neg (by decide)]; rfl, HB⟩
            case measure => simp [intOf]; omega
          by_cases x41 : x = 41
          · subst x41
            clear x40
            go_wp2
            go_roundw
            case rel => exact ⟨k + 1, by omega, by go_num, by rw [N40.out, if_neg (by decide)]; rfl, by rw [N41.out, if_pos rfl]; go_num, by rw [N92.out, if_neg (by decide)]; rfl, HB⟩
            case measure => simp [intOf]; omega
          by_cases x92 : x = 92
          · subst x92
            clear x40 x41
            go_wp2
            go_roundw
            case rel => exact ⟨k + 1, by omega, by go_num, by rw [N40.out, if_neg (by decide)]; rfl, by rw [N41.out, if_neg (by decide)]; rfl, by rw [N92.out, if_pos rfl]; go_num, HB⟩
            case measure => simp [intOf]; omega
          · have k40 : (((x.toNat : Nat) : Int) == 40) = false := by rw [beq_eq_false_iff_ne]; intro q; exact x40 (UInt8.toNat_inj.1 (by show x.toNat = 40; omega))
            have k41 : (((x.toNat : Nat) : Int) == 41) = false := by rw [beq_eq_false_iff_ne]; intro q; exact x41 (UInt8.toNat_inj.1 (by show x.toNat = 41; omega))
            have k92 : (((x.toNat : Nat) : Int) == 92) = false := by rw [beq_eq_false_iff_ne]; intro q; exact x92 (UInt8.toNat_inj.1 (by show x.toNat = 92; omega))
            have N40 := Lib.hid (show (s.take (k + 1)).count 40 = n40 from by rw [N40.out, if_neg x40]; rfl)
            have N41 := Lib.hid (show (s.take (k + 1)).count 41 = n41 from by rw [N41.out, if_neg x41]; rfl)
            have N92 := Lib.hid (show (s.take (k + 1)).count 92 = n92 from by rw [N92.out, if_neg x92]; rfl)
            clear x40 x41 x92
            go_wp2
            go_roundw
            case rel => exact ⟨k + 1, by omega, by go_num, by rw [N40.out], by rw [N41.out], by rw [N92.out], HB⟩
            case measure => simp [intOf]; omega
        · obtain rfl : k = s.length := by omega
          rw [List.take_length] at *
          rw [HC.out]
          clear HI
          have h40 : ((((s.count 40 : Nat) : Int)) == ((s.count 40 : Nat) : Int)) = true := by rw [beq_iff_eq]
          by_cases hr : 0 < s.count 92
          · have hr' : (0 : Int) < ((s.count 92 : Nat) : Int) := by omega
            rw [decide_eq_true hr] at HR
            go_wp2_with (first
      | (go_at_call 13; refine (HG.out _ HB.out).mono ?_; rintro e w' ⟨rfl, hb⟩; skip; have HB := Lib.hid (HB.out.trans (hb.mono HB.out.size)); clear hb)
      | (go_at_call 14; refine (HR.out _ HB.out).mono ?_; rintro e w' ⟨rfl, hb⟩; skip; have HB := Lib.hid (HB.out.trans (hb.mono HB.out.size)); clear hb))
            go_ret
            exact ⟨rfl, HB.out⟩
          · have hr' : ¬ (0 : Int) < ((s.count 92 : Nat) : Int) := by omega
            rw [decide_eq_false hr] at HR
            go_wp2_with (first
      | (go_at_call 13; refine (HG.out _ HB.out).mono ?_; rintro e w' ⟨rfl, hb⟩; skip; have HB := Lib.hid (HB.out.trans (hb.mono HB.out.size)); clear hb)
      | (go_at_call 14; refine (HR.out _ HB.out).mono ?_; rintro e w' ⟨rfl, hb⟩; skip; have HB := Lib.hid (HB.out.trans (hb.mono HB.out.size)); clear hb))
            go_ret
            exact ⟨rfl, HB.out⟩
  · have hgt : (130 : Int) < ((l.length : Nat) : Int) := by omega
    clear HN hlen m F HM0
    go_enter Tryd.func5, Tryd.ntmps5
    go_wp2_with (go_at_call 7; refine (HSH.out _ HB.out).mono ?_; rintro e w' ⟨rfl, hb⟩; have HB := Lib.hid (HB.out.trans (hb.mono HB.out.size)); clear hb)
    go_ret
    exact ⟨rfl, HB.out⟩
end Go.Proofs.YtdjedjfanfbbcaaDoor.Rx
