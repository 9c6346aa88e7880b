/- Finds: what the laws ask first: the small case: the walk. -/
import Derived.Test.YthpiapemjadgdaaGreatDoorFnFPk
import Derived.Test.YthpiapemjadgdaaGreatDoorBk28
import Derived.Test.YthpiapemjadgdaaGreatDoorBk29
namespace Go.Proofs.YthpiapemjadgdaaGreatDoor.Mt
open Go.RowKit Go.Shelf
open Go.Proofs.YthpiapemjadgdaaGreatDoor.Rx
open Go.Proofs.YthpiapemjadgdaaGreatDoor.Rx.Tr
open Go.Proofs.YthpiapemjadgdaaGreatDoor.Fn
open Go.Proofs.YthpiapemjadgdaaGreatDoor.St (Wf word mem SV SV_eq ofL wf_ofL bytesL)
set_option linter.unusedVariables false
set_option linter.unusedSimpArgs false
/-- The longest ones are in their places. -/
theorem fok_long (T : List UInt8) (t : Tr) : FOk T.length (longP T t) := by
  have key : ∀ i c, longP T t i = some c → CapsOk T.length c ∧ ∃ j, i ≤ j ∧ j ≤ T.length ∧ gr c 0 = some (i, j) := fun i c h => by
    obtain ⟨q, h1, h2, _⟩ := dn_some h
    have hok := whole_ok (by omega) (by omega) h2
    refine ⟨hok, i + q, by omega, by omega, ?_⟩
    unfold wholeP at h2
    cases hf : fitP T t i (i + q) nones with
    | none => rw [hf] at h2; cases h2
    | some a =>
      rw [hf] at h2
      have e := Option.some.inj h2
      rw [← e, gr_set (fit_ok t i (i + q) nones a (by omega) (by omega) (caps_none _) hf).1 (by decide)]
      simp
  refine ⟨fun i c h => (key i c h).1, fun i c h => ?_, fun i c h => ?_, fun i c h => ?_⟩
  · obtain ⟨_, j, _, _, e⟩ := key i c h
    unfold from0; rw [e]
  · obtain ⟨_, j, _, _, e⟩ := key i c h
    unfold from0 to0; rw [e]
  · obtain ⟨_, j, h1, h2, e⟩ := key i c h
    unfold from0 to0; rw [e]; exact ⟨h1, h2⟩
def T7 : Tr := .times 0 (-1) (.set (ofL [97]))
def l7 : List Caps := [[some (0, 0), none, none, none, none, none, none, none, none, none], [some (1, 4), none, none, none, none, none, none, none, none, none], [some (5, 5), none, none, none, none, none, none, none, none, none]]
theorem t7_text : textT T7 = [42, 48, 44, 45, 49, 59, 91, 54, 49, 93] := by
  have e0 : Lib.itoa 0 = [48] := by rw [itoa_digit (by decide) (by decide)]; rfl
  have e1 : Lib.itoa (-1) = [45, 49] := by
    unfold Lib.itoa
    rw [if_pos (by decide), show Int.natAbs (-1) = 1 from rfl, Lib.decDigits, dif_pos (by decide)]
    rfl
  simp only [T7, textT]
  rw [e0, e1, bytes_97]
  rfl
theorem t7_good : Go.Proofs.YthpiapemjadgdaaGreatDoor.Rx.Good T7 := by
  refine ⟨?_, by decide, by decide⟩
  unfold Go.Proofs.YthpiapemjadgdaaGreatDoor.Rx.Whole
  simp only [T7, Fine, Tr.rk]
  decide
theorem t7_sets : SetsOk T7 := wf_ofL _
theorem t7_all : allF (longP [98, 97, 97, 97, 99] T7) 5 = l7 := by decide +kernel
theorem t7_has : (firstF (longP [] T7) 0 0).isSome = true := by decide +kernel
theorem t7_len : (T7.nodes 0).length = 2 := rfl
set_option maxRecDepth 100000 in
set_option maxHeartbeats 3200000 in
theorem fshown_core (hna : NoneOk) (hlg : ∀ (ao : Option Addr) (c : Nat) (w : World), Ns w (.slice ao (T7.nodes 0).length c) (T7.nodes 0) → ∀ T : List UInt8, T.length ≤ 100000 → LongOk w (.slice ao (T7.nodes 0).length c) T (longP T T7)) (w : World) (hL : Lay w) :
    Calls Tryz.prog 13 #[] w fun e w' => e = .returned (.bool true) ∧ Below w.heap.size w w' := by
  have hp := parse_text t7_good t7_sets
  rw [t7_text] at hp
  have HP0 := parse_any [42, 48, 44, 45, 49, 59, 91, 54, 49, 93] w hL (by decide)
  unfold ParseR at HP0
  rw [hp] at HP0
  have HP := Lib.hid HP0
  have hal := fun (g cap : Nat) (W : World) (h : Ns W (.slice (some ⟨g, 0, none⟩) (T7.nodes 0).length cap) (T7.nodes 0)) => all_any hna (some ⟨g, 0, none⟩) (T7.nodes 0).length cap [98, 97, 97, 97, 99] (by decide) (longP [98, 97, 97, 97, 99] T7) (fok_long _ _) W (hlg _ _ _ h _ (by decide))
  rw [show ([98, 97, 97, 97, 99] : List UInt8).length = 5 from rfl, t7_all] at hal
  have hha := fun (g cap : Nat) (W : World) (h : Ns W (.slice (some ⟨g, 0, none⟩) (T7.nodes 0).length cap) (T7.nodes 0)) => has_any hna (.slice (some ⟨g, 0, none⟩) (T7.nodes 0).length cap) [] (by decide) (longP [] T7) W (hlg _ _ _ h _ (by decide)) true t7_has.symm
  have hln := t7_len
  have HCUT := Lib.hid (fun W => cut_cap (T := [98, 97, 97, 97, 99]) (x := some (1, 4)) (by decide) ⟨by decide, by decide⟩ W)
  have HFRM := Lib.hid (fun W => from_cap (N := 5) (i := 5) (j := 5) (by decide) ⟨by decide, by decide⟩ W)
  have HLN := Lib.hid hln
  generalize T7.nodes 0 = l at *
  rw [hln] at hal hha
  have HAL := Lib.hid hal
  have HHA := Lib.hid hha
  clear hal hha hln HP0 hp hL hlg hna
  go_enter Tryz.func13, Tryz.ntmps13
  go_wp2_with (first
    | (go_at_call 38; refine HP.out.mono ?_; rintro e w1 ⟨hb, hr⟩; rcases hr with ⟨q, _⟩ | ⟨l', v, hq, rfl, ho⟩; exact absurd q (by intro q; cases q); obtain rfl := Option.some.inj hq; have HB1 := Lib.hid hb; have HNS := Lib.hid (own_ns ho); obtain ⟨g, cap, rfl, hcap⟩ : ∃ g cap, v = .slice (some ⟨g, 0, none⟩) 2 cap ∧ 2 ≤ cap := (by rcases own_forms ho with ⟨_, h0⟩ | ⟨g, cap, hv, hc⟩; (have := HLN.out; omega); (rw [HLN.out] at hv hc; exact ⟨g, cap, hv, hc⟩)); clear hb ho hq hcap)
    | (go_at_call 19; refine (HAL.out g cap w1 HNS.out).mono ?_; rintro e w2 ⟨v, rfl, ho, hb⟩; obtain ⟨ae, cap2, rfl, hcap, hcs⟩ := caps_form ho; rw [show l7.length = 3 from rfl] at hcap ⊢; have HB2 := Lib.hid (HB1.out.trans (hb.mono HB1.out.size)); have HNS2 := Lib.hid (HNS.out.below hb); obtain ⟨g2, hg2, hy1, z1⟩ := hcs 1 (by decide); obtain ⟨g3, hg3, hy2, z2⟩ := hcs 2 (by decide); obtain rfl : g2 = g3 := (by rw [hg2] at hg3; simpa using hg3); subst hg2; rw [show gr (l7[1]'(by decide)) 0 = some (1, 4) from rfl] at hy1; rw [show gr (l7[2]'(by decide)) 0 = some (5, 5) from rfl] at hy2; clear hb ho hcs z1 z2 hg3)
    | (go_at_call 39; refine (HCUT.out _).mono ?_; rintro e w5 ⟨rfl, rfl⟩)
    | (go_at_call 22; refine (HFRM.out _).mono ?_; rintro e w5 ⟨rfl, rfl⟩)
    | (go_at_call 17; refine (HHA.out g cap _ HNS2.out).mono ?_; rintro e w6 ⟨rfl, hb⟩; have HB6 := Lib.hid (HB2.out.trans (hb.mono HB2.out.size)); clear hb))
  go_ret
  exact ⟨rfl, HB6.out⟩
end Go.Proofs.YthpiapemjadgdaaGreatDoor.Mt
