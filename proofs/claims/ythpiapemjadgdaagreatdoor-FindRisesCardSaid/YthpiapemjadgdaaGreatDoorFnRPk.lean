/- FindRises: the walk. -/
import Derived.Test.YthpiapemjadgdaaGreatDoorFnFPk
namespace Go.Proofs.YthpiapemjadgdaaGreatDoor.Mt
open Go.RowKit Go.Shelf
open Go.Proofs.YthpiapemjadgdaaGreatDoor.Rx
open Go.Proofs.YthpiapemjadgdaaGreatDoor.Fn
set_option linter.unusedVariables false
set_option linter.unusedSimpArgs false
/-- Two finds, one behind the other. -/
theorem ch_pair {F : Nat → Option Caps} {N : Nat} (hF : FOk N F) {L : List Caps} (h : Ch F N 0 L) {m : Nat} (hm : m + 1 < L.length) :
    ∃ a b p q, gr (L[m]'(by omega)) 0 = some (a, b) ∧ gr L[m + 1] 0 = some (p, q) ∧ a ≤ b ∧ b ≤ p ∧ p ≤ q ∧ q ≤ N ∧ ¬ (q = p ∧ p = b) := by
  obtain ⟨l1, _, _, x1, _⟩ := ch_at h (i := m) (c := L[m]'(by omega)) (List.getElem?_eq_getElem (by omega))
  obtain ⟨l2, _, y0, y1, y2, _, y3⟩ := ch_at h (i := m + 1) (c := L[m + 1]) (List.getElem?_eq_getElem hm)
  obtain ⟨b, hb, hl⟩ := y0 m rfl
  rw [List.getElem?_eq_getElem (by omega)] at hb
  have eb := Option.some.inj hb
  rw [← eb] at hl
  have t1 := hF.to _ _ x1
  have t2 := hF.to _ _ y1
  exact ⟨_, _, _, _, hF.gr0 _ _ x1, hF.gr0 _ _ y1, t1.1, by omega, t2.1, t2.2, fun e => y3 ⟨e.1, by omega⟩⟩
set_option maxRecDepth 100000 in
set_option maxHeartbeats 3200000 in
theorem rises_core (hna : NoneOk) (W : World) (ao : Option Addr) (n cc : Nat) (T : List UInt8) (hT : T.length ≤ 100) (F : Nat → Option Caps) (hF : FOk T.length F)
    (hbd : ∀ W' : World, Calls Tryz.prog 12 #[.slice ao n cc, S T] W fun e w' => e = .returned (.bool true) ∧ W = w')
    (hsh : ∀ W' : World, Below W.heap.size W W' → Calls Tryz.prog 13 #[] W' fun e w' => e = .returned (.bool true) ∧ Below W'.heap.size W' w')
    (hlo : LongOk W (.slice ao n cc) T F) :
    Calls Tryz.prog 8 #[.slice ao n cc, S T] W fun e W' => e = .returned (.bool true) ∧ Below W.heap.size W W' := by
  have HB0 := Lib.hid (Below.refl W.heap.size W)
  have HBD := Lib.hid hbd
  have HSH := Lib.hid hsh
  have HAL := Lib.hid (fun (W' : World) (hb : Below W.heap.size W W') => all_any hna ao n cc T (by omega) F hF W' (hlo.below hb))
  have HHA := Lib.hid (fun (W' : World) (hb : Below W.heap.size W W') (R : Bool) (hR : R = (firstF F T.length 0).isSome) => has_any hna (.slice ao n cc) T (by omega) F W' (hlo.below hb) R hR)
  have HT := Lib.hid hT
  have HF := Lib.hid hF
  have HCH := Lib.hid (all_ch hF)
  have HAN := Lib.hid (all_none F T.length)
  have HLL := Lib.hid (show (allF F T.length).length ≤ 1000 from by have := fin_len F T.length (2 * (T.length + 1) + 1) 0 0; unfold allF; omega)
  clear hbd hsh hlo hT hF hna
  generalize allF F T.length = L at *
  go_enter Tryz.func8, Tryz.ntmps8
  go_wp2_with (first
    | (go_at_call 12; refine (HBD.out W).mono ?_; rintro e w1 ⟨rfl, rfl⟩)
    | (go_at_call 13; refine (HSH.out _ HB0.out).mono ?_; rintro e w2 ⟨rfl, hb⟩; have HB1 := Lib.hid (HB0.out.trans (hb.mono HB0.out.size)); clear hb)
    | (go_at_call 19; refine (HAL.out _ HB1.out).mono ?_; rintro e we ⟨v, rfl, ho, hb⟩; obtain ⟨ae, cap, rfl, hcap, hcs⟩ := caps_form ho; have HCS := Lib.hid hcs; have HBE := Lib.hid (HB1.out.trans (hb.mono HB1.out.size)); clear hb hcs ho))
  go_loopw [6] (fun iv wr => ∃ i : Nat, 1 ≤ i ∧ i ≤ L.length + 1 ∧ iv = .int .i64 (i : Nat) ∧ we = wr) (fun iv _ => L.length + 1 - (intOf iv).toNat)
  case atStart => exact ⟨1, Nat.le_refl _, by omega, rfl, rfl⟩
  case round =>
    obtain ⟨i, hi1, hi2, rfl, rfl⟩ := hrel
    by_cases hlt : i < L.length
    · obtain ⟨m, hm⟩ : ∃ m, i = m + 1 := ⟨i - 1, by omega⟩
      have hm1 : m + 1 < L.length := by omega
      obtain ⟨a, b, p, q, e1, e2, e3, e4, e5, e6, e7⟩ := ch_pair HF.out HCH.out hm1
      obtain ⟨g, rfl, hx, z1⟩ := HCS.out m (by omega)
      obtain ⟨g', hg', hy, z2⟩ := HCS.out (m + 1) hm1
      clear z1 z2
      obtain rfl : g = g' := by simpa using hg'
      rw [e1] at hx
      rw [e2, ← hm] at hy
      have hN9 : T.length ≤ 999999999 := by have := HT.out; omega
      have hc1 : CapOk T.length (some (a, b)) := ⟨e3, by omega⟩
      have hc2 : CapOk T.length (some (p, q)) := ⟨e5, e6⟩
      have HME := Lib.hid (fun W => meet_cap hN9 hc1 hc2 e4 W)
      have HFR := Lib.hid (fun W => from_cap hN9 hc2 W)
      have HTO := Lib.hid (fun W => to_cap hN9 hc1 W)
      have HLE := Lib.hid (fun W => len_cap hN9 hc2 W)
      have hw1 : IntKind.i64.wrap ((i : Int) - 1) = (m : Int) := by rw [IntKind.wrap_i64]; have := HLL.out; omega
      have hw2 : IntKind.i64.wrap ((i : Int) + 1) = (i : Int) + 1 := by rw [IntKind.wrap_i64]; have := HLL.out; omega
      have k0 : (0 : Int) ≤ (m : Int) := by omega
      have k1 : (m : Int) < (L.length : Int) := by omega
      have k2 : (0 : Int) ≤ (i : Int) := by omega
      have k3 : (i : Int) < (L.length : Int) := by omega
      have hpb : ¬ ((p : Int) < (b : Int)) := by omega
      have HI := Lib.hid (And.intro hm hm1)
      by_cases hq : q = p
      · have hz : (((q - p : Nat) : Int) == 0) = true := by rw [beq_iff_eq]; omega
        have hpb2 : ((p : Int) == (b : Int)) = false := by rw [beq_eq_false_iff_ne]; omega
        clear hi1 hi2 hlt hm hm1 e1 e2 e3 e4 e5 e6 e7 hg' hN9 hc1 hc2 hq
        go_wp2_with (first
          | (go_at_call 28; refine (HME.out _).mono ?_; rintro e w5 ⟨rfl, rfl⟩)
          | (go_at_call 22; refine (HFR.out _).mono ?_; rintro e w5 ⟨rfl, rfl⟩)
          | (go_at_call 25; refine (HTO.out _).mono ?_; rintro e w5 ⟨rfl, rfl⟩)
          | (go_at_call 24; refine (HLE.out _).mono ?_; rintro e w5 ⟨rfl, rfl⟩))
        go_roundw
        case rel => exact ⟨i + 1, by omega, by have := HI.out; omega, by go_num, trivial⟩
        case measure => have := HI.out; simp [intOf]; omega
      · have hz : (((q - p : Nat) : Int) == 0) = false := by rw [beq_eq_false_iff_ne]; omega
        clear hi1 hi2 hlt hm hm1 e1 e2 e3 e4 e5 e6 e7 hg' hN9 hc1 hc2 hq
        go_wp2_with (first
          | (go_at_call 28; refine (HME.out _).mono ?_; rintro e w5 ⟨rfl, rfl⟩)
          | (go_at_call 22; refine (HFR.out _).mono ?_; rintro e w5 ⟨rfl, rfl⟩)
          | (go_at_call 25; refine (HTO.out _).mono ?_; rintro e w5 ⟨rfl, rfl⟩)
          | (go_at_call 24; refine (HLE.out _).mono ?_; rintro e w5 ⟨rfl, rfl⟩))
        go_roundw
        case rel => exact ⟨i + 1, by omega, by have := HI.out; omega, by go_num, trivial⟩
        case measure => have := HI.out; simp [intOf]; omega
    · have hnl : ¬ (i : Int) < (L.length : Int) := by omega
      obtain ⟨R, hR⟩ : ∃ R, R = (firstF F T.length 0).isSome := ⟨_, rfl⟩
      have HR := Lib.hid hR
      have hgt : (0 : Int) < (L.length : Int) ↔ R = true := by
        rw [hR]
        have h0 := HAN.out
        cases hf : firstF F T.length 0 with
        | none =>
          have := h0.2 hf
          constructor
          · intro q; omega
          · intro q; cases q
        | some c =>
          constructor
          · intro q; rfl
          · intro q
            have : L.length ≠ 0 := fun e => by have := h0.1 e; rw [hf] at this; cases this
            omega
      cases R with
      | true =>
        have hg1 : 0 < L.length := by have := hgt.2 rfl; omega
        clear hgt hR hi1 hi2 hlt
        go_wp2_with (go_at_call 17; refine (HHA.out _ HBE.out true HR.out).mono ?_; rintro e w6 ⟨rfl, hb⟩; have HB6 := Lib.hid (HBE.out.trans (hb.mono HBE.out.size)); clear hb)
        go_ret
        exact ⟨by simp [hg1], HB6.out⟩
      | false =>
        have hg1 : ¬ 0 < L.length := fun q => by have := hgt.1 (by omega); cases this
        clear hgt hR hi1 hi2 hlt
        go_wp2_with (go_at_call 17; refine (HHA.out _ HBE.out false HR.out).mono ?_; rintro e w6 ⟨rfl, hb⟩; have HB6 := Lib.hid (HBE.out.trans (hb.mono HBE.out.size)); clear hb)
        go_ret
        exact ⟨by simp [hg1], HB6.out⟩
end Go.Proofs.YthpiapemjadgdaaGreatDoor.Mt
