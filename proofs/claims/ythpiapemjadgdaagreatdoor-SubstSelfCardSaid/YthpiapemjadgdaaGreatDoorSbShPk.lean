/- Subst: what the laws ask first: the small case: the walk. -/
import Derived.Test.YthpiapemjadgdaaGreatDoorSbLpPk
import Derived.Test.YthpiapemjadgdaaGreatDoorSbPbPk
import Derived.Test.YthpiapemjadgdaaGreatDoorCk26
namespace Go.Proofs.YthpiapemjadgdaaGreatDoor.Mt
open Go.RowKit Go.Shelf
open Go.Proofs.YthpiapemjadgdaaGreatDoor.Rx
open Go.Proofs.YthpiapemjadgdaaGreatDoor.Rx.Tr
open Go.Proofs.YthpiapemjadgdaaGreatDoor.Fn
open Go.Proofs.YthpiapemjadgdaaGreatDoor.St (Wf word mem SV SV_eq ofL wf_ofL bytesL)
set_option linter.unusedVariables false
set_option linter.unusedSimpArgs false
def T9 : Tr := .times 0 (-1) (.set (ofL [120]))
theorem bytes_120 : bytesL (ofL [120]) = [120] := by decide +kernel
theorem t9_text : textT T9 = [42, 48, 44, 45, 49, 59, 91, 55, 56, 93] := by
  have e0 : Lib.itoa 0 = [48] := by rw [itoa_digit (by decide) (by decide)]; rfl
  have e1 : Lib.itoa (-1) = [45, 49] := by
    unfold Lib.itoa
    rw [if_pos (by decide), show Int.natAbs (-1) = 1 from rfl, Lib.decDigits, dif_pos (by decide)]
    rfl
  simp only [T9, textT]
  rw [e0, e1, bytes_120]
  rfl
theorem t9_good : Go.Proofs.YthpiapemjadgdaaGreatDoor.Rx.Good T9 := by
  refine ⟨?_, by decide, by decide⟩
  unfold Go.Proofs.YthpiapemjadgdaaGreatDoor.Rx.Whole
  simp only [T9, Fine, Tr.rk]
  decide
theorem t9_sets : SetsOk T9 := wf_ofL _
def R9 : List UInt8 × Nat := ([45, 97, 45, 98, 45, 120, 99, 45], 4)
def l9 : List Pt := [⟨[45], -1⟩, ⟨[], 0⟩]
theorem t9_sub : R9 = subP [97, 98, 120, 99] (fun c => fillP [97, 98, 120, 99] c l9) 1 true (allF (longP [97, 98, 120, 99] T9) 4) := by decide +kernel
theorem t9_par : parS [45, 38] 0 [] [] = (some l9, 0) := by
  rw [par_c (by decide) (by decide) (by decide), par_38, parS.eq_def]
  rfl
theorem t9_node : nodeA false 120 ⟨[42, 48, 44, 45, 49, 59, 91, 55, 56, 93], [], 0, false⟩ = true := by decide +kernel
theorem t9_kinds : ∀ (k : Nat) (h : k < (T9.nodes 0).length), ((T9.nodes 0)[k].k = 1 ∧ k = 0) ∨ (T9.nodes 0)[k].k = 6 := by decide +kernel
theorem t9_len : (T9.nodes 0).length = 2 := rfl
set_option maxRecDepth 100000 in
set_option maxHeartbeats 3200000 in
theorem sshown_any (w : World) (hL : Lay w) :
    Calls Tryz.prog 30 #[] w fun e w' => e = .returned (.bool true) ∧ Below w.heap.size w w' := by
  have hp := parse_text t9_good t9_sets
  rw [t9_text] at hp
  have HP0 := parse_any7 [42, 48, 44, 45, 49, 59, 91, 55, 56, 93] w hL (by decide) T9 t9_good t9_text hp t9_node t9_kinds
  unfold ParseR at HP0
  rw [hp] at HP0
  have HP := Lib.hid HP0
  have hpp := fun W => parse_any [45, 38] (by decide) W _ t9_par
  unfold ParAns at hpp
  dsimp only at hpp
  have HPP := Lib.hid hpp
  have HSU := Lib.hid (fun (g cap : Nat) (pa : Option Addr) (pc : Nat) (W : World) (h : Ns W (.slice (some ⟨g, 0, none⟩) (T9.nodes 0).length cap) (T9.nodes 0)) (hpi : PIn W pa l9) =>
    sub_any (.slice (some ⟨g, 0, none⟩) (T9.nodes 0).length cap) pa pc l9 [97, 98, 120, 99] (by decide) 1 true (by decide) (by decide) (allF (longP [97, 98, 120, 99] T9) 4) (row_all (fok_long _ _)) W hpi (fun W2 hb2 => all_any none_ok (some ⟨g, 0, none⟩) (T9.nodes 0).length cap [97, 98, 120, 99] (by decide) (longP [97, 98, 120, 99] T9) (fok_long _ _) W2 (fun W3 i hW hi => Longest_yes T9 t9_good t9_sets _ cap W3 ((h.below hb2).below hW) [97, 98, 120, 99] (by decide) i hi _ rfl)) R9 t9_sub)
  have hln := t9_len
  generalize T9.nodes 0 = l at *
  have HLN := Lib.hid hln
  rw [hln] at HSU
  clear hln HP0 hp hL hpp
  go_enter Tryz.func30, Tryz.ntmps30
  go_wp2_with (first
    | (go_at_call 38; refine HP.out.mono ?_; rintro e w1 ⟨hb, hr⟩; rcases hr with ⟨q, _⟩ | ⟨l', v, hq, rfl, ho⟩; exact absurd q (by intro q; cases q); obtain rfl := Option.some.inj hq; have HB1 := Lib.hid hb; have HNS := Lib.hid (own_ns ho); obtain ⟨g, cap, rfl, hcap⟩ : ∃ g cap, v = .slice (some ⟨g, 0, none⟩) 2 cap ∧ 2 ≤ cap := (by rcases own_forms ho with ⟨_, h0⟩ | ⟨g, cap, hv, hc⟩; (have := HLN.out; omega); (rw [HLN.out] at hv hc; exact ⟨g, cap, hv, hc⟩)); clear hb ho hq hcap)
    | (go_at_call 34; refine (HPP.out _).mono ?_; rintro e w2 ⟨v2, rfl, ho, hb⟩; obtain ⟨pa, pc, rfl, hpi⟩ := pin_own ho; have HB2 := Lib.hid (HB1.out.trans (hb.mono HB1.out.size)); have HNS2 := Lib.hid (HNS.out.below hb); have HPI := Lib.hid hpi; rw [show l9.length = 2 from rfl]; clear hb ho hpi)
    | (go_at_call 31; refine (HSU.out g cap pa pc _ HNS2.out HPI.out).mono ?_; rintro e w3 ⟨rfl, hb⟩; have HB3 := Lib.hid (HB2.out.trans (hb.mono HB2.out.size)); rw [show R9.1 = [45, 97, 45, 98, 45, 120, 99, 45] from rfl, show R9.2 = 4 from rfl]; clear hb))
  go_ret
  exact ⟨rfl, HB3.out⟩
end Go.Proofs.YthpiapemjadgdaaGreatDoor.Mt
