/- Patterns: RxTells: the walk. -/
import Derived.Test.YtdjedjfanfbbcaaGreatDoorRxL0
import Derived.Test.YtdjedjfanfbbcaaGreatDoorRrZ
namespace Go.Proofs.YtdjedjfanfbbcaaGreatDoor.Rx
open Go.RowKit Go.Shelf
open Tr
open Go.Proofs.YtdjedjfanfbbcaaGreatDoor.St (Wf word zeroW Tab wf_foldW')
set_option linter.unusedVariables false
set_option linter.unusedSimpArgs false
theorem own_len {w : World} {B g cap : Nat} {l : List Nd} {ty : TypeId} (h : w.ownsRow B ty 10 (.slice (some ⟨g, 0, none⟩) l.length cap) l.length (flat (l.map foldN))) : w.ownsRow B ty 10 (.slice (some ⟨g, 0, none⟩) (l.map foldN).length cap) (l.map foldN).length (flat (l.map foldN)) := by
  have e : (l.map foldN).length = l.length := by simp
  rw [e]
  exact h
theorem ns_nil (w : World) : Ns w (.slice none ([] : List Nd).length 0) [] := ⟨none, 0, rfl, fun i hi => absurd hi (by simp)⟩
set_option maxRecDepth 100000 in
set_option maxHeartbeats 3200000 in
theorem rxTells_walk (W : World) (hL : Lay W) (ao : Option Addr) (c : Nat) (l : List Nd) (m : l.length ≤ maxLen) (B : Ns W (.slice ao l.length c) l) (F : ∀ n ∈ l, Wf n.s) :
    Calls Tryz.prog 4 #[.slice ao l.length c] W fun e W' => e = .returned (.bool true) ∧ Below W.heap.size W W' := by
  have HSH := Lib.hid (fun W' (hb : Below W.heap.size W W') => shown_any W' (hL.below hb))
  have HL := Lib.hid (fun W' (hb : Below W.heap.size W W') => hL.below hb)
  have HB := Lib.hid (Below.refl W.heap.size W)
  have HN := Lib.hid (fun W' (hb : Below W.heap.size W W') => B.below hb)
  clear hL B
  by_cases hlen : l.length ≤ 130
  · have hgt : ¬ (130 : Int) < ((l.length : Nat) : Int) := by omega
    have HI := Lib.hid (fun W' (hb : Below W.heap.size W W') => its_any ao c l W' (HN.out W' hb) (by omega))
    have HG0 := fun W' (hb : Below W.heap.size W W') => groups_any ao c l W' (HN.out W' hb) F
    have HR0 := fun W' (hb : Below W.heap.size W W') => refs_any ao c l W' (HN.out W' hb) F
    have HT0 := fun W' (hb : Below W.heap.size W W') => text_any ao c l W' (HN.out W' hb) F (HL.out W' hb)
    have HM0 := fun W' (hb : Below W.heap.size W W') => may_any ao c l W' (HN.out W' hb) F
    have RM0 := fun o' c' W' h => rmay_any o' c' l W' h F
    have RG0 := fun o' c' W' h => rgroups_any o' c' l W' h F
    have RR0 := fun o' c' W' h => rrefs_any o' c' l W' h F
    have RT0 := fun o' c' W' h => rtext_any o' c' l W' h F
    have htt : (textL l == textL l) = true := by rw [beq_iff_eq]
    have hgg : (groupsL l == groupsL l) = true := by rw [beq_iff_eq]
    have htl := textL_len l
    generalize textL l = tl at *
    generalize groupsL l = gl at *
    generalize refsL l = rl at *
    have HT := Lib.hid HT0
    have HG := Lib.hid HG0
    have HR := Lib.hid HR0
    have RG := Lib.hid RG0
    have RR := Lib.hid RR0
    have RT := Lib.hid RT0
    clear HT0 HG0 HR0 RG0 RR0 RT0
    cases hm : mayL l
    · have HF := Lib.hid (fun W' (hb : Below W.heap.size W W') => foldW_none ao c l W' (HN.out W' hb) F hm)
      have RF := Lib.hid (fun o' c' W' h => rfold_none o' c' l W' h F hm)
      rw [hm] at HM0 RM0
      have HM := Lib.hid HM0
      have RM := Lib.hid RM0
      have HI2 := Lib.hid (fun W' => its_any none 0 [] W' (ns_nil W') (by simp))
      have HS := Lib.hid (fun (o' : Option Addr) (c' : Nat) W' (h : Ns W' (.slice o' ([] : List Nd).length c') []) => same_any o' none c' 0 [] [] W' h (ns_nil W') (by simp) (by simp) (by simp))
      rw [show decide (([] : List Nd) = []) = true from rfl] at HS
      clear HM0 RM0 hm m F
      go_enter Tryz.func4, Tryz.ntmps4
      go_wp2_with (first
      | (go_at_call 5; refine (HSH.out _ HB.out).mono ?_; rintro e w' ⟨rfl, hb⟩; have HB := Lib.hid (HB.out.trans (hb.mono HB.out.size)); clear hb)
      | (go_at_call 9; have hq := HI.out; clear HI; refine (hq _ HB.out).mono ?_; clear hq; rintro e w' ⟨v, rfl, ho, hb⟩; obtain ⟨ao3, c3, rfl⟩ := own_slice ho; have HRN := Lib.hid (own_nsR ho); clear ho; have HB := Lib.hid (HB.out.trans (hb.mono HB.out.size)); clear hb)
      | (go_at_call 10; refine (HM.out _ HB.out).mono ?_; rintro e w' ⟨rfl, hb⟩; have hrn := HRN.out; clear HRN; have HRN := Lib.hid (hrn.below hb); clear hrn; have HB := Lib.hid (HB.out.trans (hb.mono HB.out.size)); clear hb)
      | (go_at_call 11; refine (RM.out _ _ _ HRN.out).mono ?_; rintro e w' ⟨rfl, hb⟩; have hrn := HRN.out; clear HRN; have HRN := Lib.hid (hrn.below hb); clear hrn; have HB := Lib.hid (HB.out.trans (hb.mono HB.out.size)); clear hb)
      | (go_at_call 12; refine (HG.out _ HB.out).mono ?_; rintro e w' ⟨rfl, hb⟩; have hrn := HRN.out; clear HRN; have HRN := Lib.hid (hrn.below hb); clear hrn; have HB := Lib.hid (HB.out.trans (hb.mono HB.out.size)); clear hb)
      | (go_at_call 13; refine (RG.out _ _ _ HRN.out).mono ?_; rintro e w' ⟨rfl, hb⟩; have hrn := HRN.out; clear HRN; have HRN := Lib.hid (hrn.below hb); clear hrn; have HB := Lib.hid (HB.out.trans (hb.mono HB.out.size)); clear hb)
      | (go_at_call 14; refine (HR.out _ HB.out).mono ?_; rintro e w' ⟨rfl, hb⟩; have hrn := HRN.out; clear HRN; have HRN := Lib.hid (hrn.below hb); clear hrn; have HB := Lib.hid (HB.out.trans (hb.mono HB.out.size)); clear hb)
      | (go_at_call 15; refine (RR.out _ _ _ HRN.out).mono ?_; rintro e w' ⟨rfl, hb⟩; have hrn := HRN.out; clear HRN; have HRN := Lib.hid (hrn.below hb); clear hrn; have HB := Lib.hid (HB.out.trans (hb.mono HB.out.size)); clear hb)
      | (go_at_call 16; refine (HT.out _ HB.out).mono ?_; rintro e w' ⟨rfl, hb⟩; have hrn := HRN.out; clear HRN; have HRN := Lib.hid (hrn.below hb); clear hrn; have HB := Lib.hid (HB.out.trans (hb.mono HB.out.size)); clear hb)
      | (go_at_call 17; refine (RT.out _ _ _ HRN.out).mono ?_; rintro e w' ⟨rfl, hb⟩; have hrn := HRN.out; clear HRN; have HRN := Lib.hid (hrn.below hb); clear hrn; have HB := Lib.hid (HB.out.trans (hb.mono HB.out.size)); clear hb)
      | (go_at_call 18; refine (HF.out _ HB.out).mono ?_; rintro e w' ⟨rfl, hb⟩; have hrn := HRN.out; clear HRN; have HRN := Lib.hid (hrn.below hb); clear hrn; have HB := Lib.hid (HB.out.trans (hb.mono HB.out.size)); clear hb)
      | (go_at_call 9; refine (HI2.out _).mono ?_; rintro e w' ⟨v, rfl, ho, hb⟩; obtain ⟨ao4, c4, rfl⟩ := own_slice ho; have HA := Lib.hid (own_nsR ho); clear ho; have hrn := HRN.out; clear HRN; have HRN := Lib.hid (hrn.below hb); clear hrn; have HB := Lib.hid (HB.out.trans (hb.mono HB.out.size)); clear hb)
      | (go_at_call 19; refine (RF.out _ _ _ HRN.out).mono ?_; rintro e w' ⟨rfl, hb⟩; have ha := HA.out; clear HA; have HA := Lib.hid (ha.below hb); clear ha; have hrn := HRN.out; clear HRN; have HRN := Lib.hid (hrn.below hb); clear hrn; have HB := Lib.hid (HB.out.trans (hb.mono HB.out.size)); clear hb)
      | (go_at_call 8; refine (HS.out _ _ _ HA.out).mono ?_; rintro e w' ⟨rfl, hb⟩; have hrn := HRN.out; clear HRN; have HRN := Lib.hid (hrn.below hb); clear hrn; have HB := Lib.hid (HB.out.trans (hb.mono HB.out.size)); clear hb))
      go_ret
      exact ⟨rfl, HB.out⟩
    · obtain ⟨t, hp, h1, h2, h3⟩ := may_some hm
      have hl0 : 0 < l.length := by rw [h1, nodes_len]; exact size_pos t
      have hl120 : l.length ≤ 120 := by rw [h1, nodes_len]; exact h2.2.1
      obtain ⟨b0, o0, rfl, hdr⟩ := (HN.out W (Below.refl _ _)).at hl0
      clear hp h1 h2 h3 hdr
      have el : (l.map foldN).length = l.length := by simp
      have FF : ∀ n ∈ l.map foldN, Wf n.s := by
        intro n hn
        obtain ⟨k, hk, rfl⟩ := List.mem_map.1 hn
        exact wf_foldW' (F k hk)
      have HF := Lib.hid (fun W' (hb : Below W.heap.size W W') => foldW_any b0 o0 c l W' (HN.out W' hb) F (HL.out W' hb) hm hl0 hl120)
      have RF := Lib.hid (fun b' o' c' W' (hb : Below W.heap.size W W') h => rfold_any b' o' c' l W' h F (HL.out W' hb) hm hl0 hl120)
      rw [hm] at HM0 RM0
      have HM := Lib.hid HM0
      have RM := Lib.hid RM0
      have HI2 := Lib.hid (fun o' c' W' (h : Ns W' (.slice o' (l.map foldN).length c') (l.map foldN)) => its_any o' c' (l.map foldN) W' h (by rw [el]; omega))
      have HS0 := fun (o1 o2 : Option Addr) (c1 c2 : Nat) W' (h1 : Ns W' (.slice o1 (l.map foldN).length c1) (l.map foldN)) (h2 : Ns W' (.slice o2 (l.map foldN).length c2) (l.map foldN)) => same_any o1 o2 c1 c2 (l.map foldN) (l.map foldN) W' h1 h2 FF FF (by rw [el]; omega)
      rw [show decide (l.map foldN = l.map foldN) = true from decide_eq_true rfl] at HS0
      have HS := Lib.hid HS0
      rw [el] at HI2 HS
      have HL0 := Lib.hid hl0
      have HEL := Lib.hid el
      clear HM0 RM0 HS0 hm m F FF el
      go_enter Tryz.func4, Tryz.ntmps4
      go_wp2_with (first
      | (go_at_call 5; refine (HSH.out _ HB.out).mono ?_; rintro e w' ⟨rfl, hb⟩; have HB := Lib.hid (HB.out.trans (hb.mono HB.out.size)); clear hb)
      | (go_at_call 9; have hq := HI.out; clear HI; refine (hq _ HB.out).mono ?_; clear hq; rintro e w' ⟨v, rfl, ho, hb⟩; obtain ⟨ao3, c3, rfl⟩ := own_slice ho; have HRN := Lib.hid (own_nsR ho); clear ho; have HB := Lib.hid (HB.out.trans (hb.mono HB.out.size)); clear hb)
      | (go_at_call 10; refine (HM.out _ HB.out).mono ?_; rintro e w' ⟨rfl, hb⟩; have hrn := HRN.out; clear HRN; have HRN := Lib.hid (hrn.below hb); clear hrn; have HB := Lib.hid (HB.out.trans (hb.mono HB.out.size)); clear hb)
      | (go_at_call 11; refine (RM.out _ _ _ HRN.out).mono ?_; rintro e w' ⟨rfl, hb⟩; have hrn := HRN.out; clear HRN; have HRN := Lib.hid (hrn.below hb); clear hrn; have HB := Lib.hid (HB.out.trans (hb.mono HB.out.size)); clear hb)
      | (go_at_call 12; refine (HG.out _ HB.out).mono ?_; rintro e w' ⟨rfl, hb⟩; have hrn := HRN.out; clear HRN; have HRN := Lib.hid (hrn.below hb); clear hrn; have HB := Lib.hid (HB.out.trans (hb.mono HB.out.size)); clear hb)
      | (go_at_call 13; refine (RG.out _ _ _ HRN.out).mono ?_; rintro e w' ⟨rfl, hb⟩; have hrn := HRN.out; clear HRN; have HRN := Lib.hid (hrn.below hb); clear hrn; have HB := Lib.hid (HB.out.trans (hb.mono HB.out.size)); clear hb)
      | (go_at_call 14; refine (HR.out _ HB.out).mono ?_; rintro e w' ⟨rfl, hb⟩; have hrn := HRN.out; clear HRN; have HRN := Lib.hid (hrn.below hb); clear hrn; have HB := Lib.hid (HB.out.trans (hb.mono HB.out.size)); clear hb)
      | (go_at_call 15; refine (RR.out _ _ _ HRN.out).mono ?_; rintro e w' ⟨rfl, hb⟩; have hrn := HRN.out; clear HRN; have HRN := Lib.hid (hrn.below hb); clear hrn; have HB := Lib.hid (HB.out.trans (hb.mono HB.out.size)); clear hb)
      | (go_at_call 16; refine (HT.out _ HB.out).mono ?_; rintro e w' ⟨rfl, hb⟩; have hrn := HRN.out; clear HRN; have HRN := Lib.hid (hrn.below hb); clear hrn; have HB := Lib.hid (HB.out.trans (hb.mono HB.out.size)); clear hb)
      | (go_at_call 17; refine (RT.out _ _ _ HRN.out).mono ?_; rintro e w' ⟨rfl, hb⟩; have hrn := HRN.out; clear HRN; have HRN := Lib.hid (hrn.below hb); clear hrn; have HB := Lib.hid (HB.out.trans (hb.mono HB.out.size)); clear hb)
      | (go_at_call 18; refine (HF.out _ HB.out).mono ?_; rintro e w' ⟨g, cap, rfl, ho, hb⟩; have HFN := Lib.hid (own_ns (own_len ho)); rw [HEL.out] at HFN; clear ho; have hrn := HRN.out; clear HRN; have HRN := Lib.hid (hrn.below hb); clear hrn; have HB := Lib.hid (HB.out.trans (hb.mono HB.out.size)); clear hb)
      | (go_at_call 9; refine (HI2.out _ _ _ HFN.out).mono ?_; rintro e w' ⟨v, rfl, ho, hb⟩; obtain ⟨ao4, c4, rfl⟩ := own_slice ho; have HA := Lib.hid (own_nsR (l := l.map foldN) (by rw [HEL.out]; exact ho)); clear ho; have hrn := HRN.out; clear HRN; have HRN := Lib.hid (hrn.below hb); clear hrn; have HB := Lib.hid (HB.out.trans (hb.mono HB.out.size)); clear hb; obtain ⟨b3, o3, rfl, hdr⟩ := HRN.out.at HL0.out; clear hdr)
      | (go_at_call 19; refine (RF.out _ _ _ _ HB.out HRN.out).mono ?_; rintro e w' ⟨g2, cap2, rfl, ho, hb⟩; have HA2 := Lib.hid (own_nsR (own_len ho)); rw [HEL.out] at HA2; clear ho; have ha := HA.out; clear HA; have HA := Lib.hid (ha.below hb); clear ha; have hrn := HRN.out; clear HRN; have HRN := Lib.hid (hrn.below hb); clear hrn; have HB := Lib.hid (HB.out.trans (hb.mono HB.out.size)); clear hb)
      | (go_at_call 8; refine (HS.out _ _ _ _ _ HA.out HA2.out).mono ?_; rintro e w' ⟨rfl, hb⟩; have hrn := HRN.out; clear HRN; have HRN := Lib.hid (hrn.below hb); clear hrn; have HB := Lib.hid (HB.out.trans (hb.mono HB.out.size)); clear hb))
      go_ret
      exact ⟨rfl, HB.out⟩
  · have hgt : (130 : Int) < ((l.length : Nat) : Int) := by omega
    clear HN hlen m F
    go_enter Tryz.func4, Tryz.ntmps4
    go_wp2_with (go_at_call 5; refine (HSH.out _ HB.out).mono ?_; rintro e w' ⟨rfl, hb⟩; have HB := Lib.hid (HB.out.trans (hb.mono HB.out.size)); clear hb)
    go_ret
    exact ⟨rfl, HB.out⟩
end Go.Proofs.YtdjedjfanfbbcaaGreatDoor.Rx
