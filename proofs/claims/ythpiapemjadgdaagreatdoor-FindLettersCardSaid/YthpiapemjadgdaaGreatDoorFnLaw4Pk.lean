/- FindLetters: of any two texts. -/
import Derived.Test.YthpiapemjadgdaaGreatDoorFnLPk
import Derived.Test.YthpiapemjadgdaaGreatDoorFnGPk
namespace Go.Proofs.YthpiapemjadgdaaGreatDoor.Mt
open Go.RowKit Go.Shelf
open Go.Proofs.YthpiapemjadgdaaGreatDoor.Rx
open Go.Proofs.YthpiapemjadgdaaGreatDoor.Rx.Tr
open Go.Proofs.YthpiapemjadgdaaGreatDoor.Fn
open Go.Proofs.YthpiapemjadgdaaGreatDoor.St (Wf word mem SV SV_eq ofL wf_ofL bytesL)
set_option linter.unusedVariables false
set_option linter.unusedSimpArgs false
set_option maxRecDepth 100000 in
set_option maxHeartbeats 3200000 in
theorem letters_skip (W : World) (hL : Lay W) (s T : List UInt8) (hsl : s.length ≤ maxLen) (hTl : T.length ≤ maxLen) (hbad : 6 < s.length ∨ s = [] ∨ 8 < T.length) :
    Calls Tryz.prog 6 #[S s, S T] W fun e W' => e = .returned (.bool true) ∧ Below W.heap.size W W' := by
  have HB0 := Lib.hid (Below.refl W.heap.size W)
  have HSH := Lib.hid (fun (W' : World) (hb : Below W.heap.size W W') => fshown_any W' (hL.below hb))
  clear hL
  by_cases h1 : 6 < s.length
  · have g1 : (6 : Int) < (s.length : Int) := by omega
    clear hbad h1 hsl hTl
    go_enter Tryz.func6, Tryz.ntmps6
    go_wp2_with (go_at_call 13; refine (HSH.out _ HB0.out).mono ?_; rintro e w2 ⟨rfl, hb⟩; have HB1 := Lib.hid (HB0.out.trans (hb.mono HB0.out.size)); clear hb)
    go_ret
    exact ⟨rfl, HB1.out⟩
  · by_cases h2 : s = []
    · subst h2
      clear hbad h1 hsl hTl
      go_enter Tryz.func6, Tryz.ntmps6
      go_wp2_with (go_at_call 13; refine (HSH.out _ HB0.out).mono ?_; rintro e w2 ⟨rfl, hb⟩; have HB1 := Lib.hid (HB0.out.trans (hb.mono HB0.out.size)); clear hb)
      go_ret
      exact ⟨rfl, HB1.out⟩
    · have h3 : 8 < T.length := by
        rcases hbad with q | q | q
        · exact absurd q h1
        · exact absurd q h2
        · exact q
      have g1 : ¬ (6 : Int) < (s.length : Int) := by omega
      have g3 : (8 : Int) < (T.length : Int) := by omega
      have he : s.isEmpty = false := by
        cases s with
        | nil => exact absurd rfl h2
        | cons x y => rfl
      clear hbad h1 h2 h3 hsl hTl
      go_enter Tryz.func6, Tryz.ntmps6
      go_wp2_with (go_at_call 13; refine (HSH.out _ HB0.out).mono ?_; rintro e w2 ⟨rfl, hb⟩; have HB1 := Lib.hid (HB0.out.trans (hb.mono HB0.out.size)); clear hb)
      go_ret
      exact ⟨rfl, HB1.out⟩
theorem findLetters_walk (W : World) (hL : Lay W) (a0 : ByteArray) (w0 : a0.size ≤ maxLen) (a1 : ByteArray) (w1 : a1.size ≤ maxLen) :
    Calls Tryz.prog 6 #[.string a0, .string a1] W fun e W' => e = .returned (.bool true) ∧ Below W.heap.size W W' := by
  obtain ⟨s, rfl⟩ : ∃ s : List UInt8, a0 = ⟨s.toArray⟩ := ⟨a0.data.toList, (Lib.mk_data a0).symm⟩
  obtain ⟨T, rfl⟩ : ∃ T : List UInt8, a1 = ⟨T.toArray⟩ := ⟨a1.data.toList, (Lib.mk_data a1).symm⟩
  by_cases hbad : 6 < s.length ∨ s = [] ∨ 8 < T.length
  · exact letters_skip W hL s T w0 w1 hbad
  · have h6 : s.length ≤ 6 := by
      rcases Nat.lt_or_ge 6 s.length with q | q
      · exact absurd (Or.inl q) hbad
      · exact q
    have hs : s ≠ [] := fun q => hbad (Or.inr (Or.inl q))
    have hT : T.length ≤ 8 := by
      rcases Nat.lt_or_ge 8 T.length with q | q
      · exact absurd (Or.inr (Or.inr q)) hbad
      · exact q
    have hg := lt_good hs h6
    have hst := lt_sets s
    have hlo : ∀ (ao : Option Addr) (c : Nat) (W' : World), Ns W' (.slice ao ((LT s).nodes 0).length c) ((LT s).nodes 0) → LongOk W' (.slice ao ((LT s).nodes 0).length c) T (longP T (LT s)) := fun ao c W' h W1 i hW hi => Longest_yes (LT s) hg hst ao c W1 (h.below hW) T (by omega) i hi _ rfl
    refine letters_core W s T hs h6 hT (fun W' h => fshown_any W' (hL.below h)) (fun ao c W' h => first_from none_ok _ T (by omega) _ W' (hlo ao c W' h) 0 0 (Or.inr rfl) (by decide) _ rfl) (fun ao c W' h => has_any none_ok _ T (by omega) _ W' (hlo ao c W' h) _ rfl) (fun ao c W' h => ?_)
    have := may_any ao c ((LT s).nodes 0) W' h (nodes_sets (LT s) 0 hst)
    rw [show mayL ((LT s).nodes 0) = true from by unfold mayL; rw [patOf_good hg]; rfl] at this
    exact this
end Go.Proofs.YthpiapemjadgdaaGreatDoor.Mt
