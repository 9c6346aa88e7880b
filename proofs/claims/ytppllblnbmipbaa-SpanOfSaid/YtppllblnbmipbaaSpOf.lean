/- SpanOf: the walk. -/
import Derived.Test.YtppllblnbmipbaaSpPlain
namespace Go.Proofs.Ytppllblnbmipbaa.Sp
open Go.RowKit Fl

theorem none_facts : may noneB noneB = false ∧ fromV noneB noneB = -1 ∧ toV noneB noneB = -1 ∧ eqB noneB noneB = true := by
  have h := may_none
  exact ⟨h, by unfold fromV; rw [h]; rfl, by unfold toV; rw [h]; rfl, eqB_none⟩
theorem wf_i64 {n : Int} (h : (Lit.int .i64 n).wf = true) : -9223372036854775808 ≤ n ∧ n ≤ 9223372036854775807 := by
  simpa [Lit.wf, IntKind.min, IntKind.max, IntKind.signed, IntKind.bits] using h

set_option maxHeartbeats 400000 in
theorem spanOf_walk (a b : Int) (wa : (Lit.int .i64 a).wf = true) (wb : (Lit.int .i64 b).wf = true) (w : World) :
    Calls Try.prog 3 #[.int .i64 a, .int .i64 b] w fun e w' => e = .returned (.bool true) ∧ Grown w w' := by
  obtain ⟨a1, a2⟩ := wf_i64 wa
  obtain ⟨b1, b2⟩ := wf_i64 wb
  have hm := may_fi a b a1 a2 b1 b2
  obtain ⟨n1, n2, n3, n4⟩ := none_facts
  cases hi : inB a b
  · rw [hi] at hm
    have k1 : kA (fi a) (fi b) = noneB := by unfold kA; rw [hm]; rfl
    have k2 : kB (fi a) (fi b) = noneB := by unfold kB; rw [hm]; rfl
    have k3 : rA a b = noneB := by unfold rA; rw [hi]; rfl
    have k4 : rB a b = noneB := by unfold rB; rw [hi]; rfl
    clear wa wb a1 a2 b1 b2
    go_enter Try.func3, Try.ntmps3
    go_wp2_with (first | (go_at_call 10; refine (of_any _ _ _).mono ?_; rintro e w' ⟨rfl, rfl⟩) | (go_at_call 11; refine (rof_any _ _ _).mono ?_; rintro e w' ⟨rfl, rfl⟩) | (go_at_call 14; refine (from_any _ _ _).mono ?_; rintro e w' ⟨rfl, rfl⟩) | (go_at_call 15; refine (to_any _ _ _).mono ?_; rintro e w' ⟨rfl, rfl⟩) | (go_at_call 13; refine (may_any _ _ _).mono ?_; rintro e w' ⟨rfl, rfl⟩) | (go_at_call 12; refine (same_any _ _ _ _ _).mono ?_; rintro e w' ⟨rfl, rfl⟩) | (go_at_call 16; refine (shown_any _).mono ?_; rintro e w' ⟨rfl, rfl⟩))
    go_ret
    exact ⟨rfl, Grown.refl _⟩
  · obtain ⟨g1, g2, g3, g4, g5⟩ := fi_in hi
    have k1 : kA (fi a) (fi b) = fi a := by unfold kA; rw [g1]; rfl
    have k2 : kB (fi a) (fi b) = fi b := by unfold kB; rw [g1]; rfl
    have k3 : rA a b = fi a := by unfold rA; rw [hi]; rfl
    have k4 : rB a b = fi b := by unfold rB; rw [hi]; rfl
    have e1 := eqB_fi a a1 a2
    have e2 := eqB_fi b b1 b2
    clear wa wb a1 a2 b1 b2 hm
    go_enter Try.func3, Try.ntmps3
    go_wp2_with (first | (go_at_call 10; refine (of_any _ _ _).mono ?_; rintro e w' ⟨rfl, rfl⟩) | (go_at_call 11; refine (rof_any _ _ _).mono ?_; rintro e w' ⟨rfl, rfl⟩) | (go_at_call 14; refine (from_any _ _ _).mono ?_; rintro e w' ⟨rfl, rfl⟩) | (go_at_call 15; refine (to_any _ _ _).mono ?_; rintro e w' ⟨rfl, rfl⟩) | (go_at_call 13; refine (may_any _ _ _).mono ?_; rintro e w' ⟨rfl, rfl⟩) | (go_at_call 12; refine (same_any _ _ _ _ _).mono ?_; rintro e w' ⟨rfl, rfl⟩) | (go_at_call 16; refine (shown_any _).mono ?_; rintro e w' ⟨rfl, rfl⟩))
    go_ret
    exact ⟨rfl, Grown.refl _⟩
end Go.Proofs.Ytppllblnbmipbaa.Sp
