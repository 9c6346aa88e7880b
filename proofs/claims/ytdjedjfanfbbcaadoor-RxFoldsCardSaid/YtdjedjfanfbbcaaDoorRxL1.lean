/- Patterns: RxBack, RxApart: the walk. -/
import Derived.Test.YtdjedjfanfbbcaaDoorRxArg
import Derived.Test.YtdjedjfanfbbcaaDoorRxFo
namespace Go.Proofs.YtdjedjfanfbbcaaDoor.Rx
open Go.RowKit Go.Shelf
open Tr
open Go.Proofs.YtdjedjfanfbbcaaDoor.St (Wf word zeroW Tab SV SV_eq)
set_option linter.unusedVariables false
set_option linter.unusedSimpArgs false
/-- What is told is not too long. -/
theorem textL_len (l : List Nd) : (textL l).length ≤ 100000 := by
  unfold textL
  cases hp : patOf l with
  | none => exact Nat.zero_le _
  | some t =>
    obtain ⟨rfl, hg⟩ := patOf_some hp
    have := text_len _ t hg.1
    have := hg.2.1
    show (textT t).length ≤ _
    omega
theorem may_some {l : List Nd} (h : mayL l = true) : ∃ t, patOf l = some t ∧ l = t.nodes 0 ∧ Good t ∧ textL l = textT t := by
  unfold mayL at h
  obtain ⟨t, ht⟩ := Option.isSome_iff_exists.1 h
  obtain ⟨h1, h2⟩ := patOf_some ht
  exact ⟨t, ht, h1, h2, by unfold textL; rw [ht]⟩
theorem may_none {l : List Nd} (h : mayL l = false) : textL l = [] := by
  unfold mayL at h
  have : patOf l = none := by
    cases hp : patOf l with
    | none => rfl
    | some t => rw [hp] at h; cases h
  unfold textL
  rw [this]
theorem parse_back {l : List Nd} (hw : ∀ n ∈ l, Wf n.s) (h : mayL l = true) : parseL (textL l) = some l := by
  obtain ⟨t, _, h1, h2, h3⟩ := may_some h
  rw [h3]
  rw [parse_text h2 (sets_nodes t 0 (by rw [← h1]; exact hw)), h1]
set_option maxRecDepth 100000 in
set_option maxHeartbeats 1600000 in
theorem rxBack_walk (W : World) (hL : Lay W) (ao : Option Addr) (c : Nat) (l : List Nd) (m : l.length ≤ maxLen) (B : Ns W (.slice ao l.length c) l) (F : ∀ n ∈ l, Wf n.s) :
    Calls Tryd.prog 3 #[.slice ao l.length c] W fun e W' => e = .returned (.bool true) ∧ Below W.heap.size W W' := by
  have HSH := Lib.hid (fun W' (hb : Below W.heap.size W W') => shown_any W' (hL.below hb))
  have HL := Lib.hid (fun W' (hb : Below W.heap.size W W') => hL.below hb)
  have HB := Lib.hid (Below.refl W.heap.size W)
  have HN := Lib.hid (fun W' (hb : Below W.heap.size W W') => B.below hb)
  clear hL B
  by_cases hlen : l.length ≤ 130
  · have hgt : ¬ (130 : Int) < ((l.length : Nat) : Int) := by omega
    have HT := Lib.hid (fun W' (hb : Below W.heap.size W W') => text_any ao c l W' (HN.out W' hb) F (HL.out W' hb))
    have HP := Lib.hid (fun W' (hb : Below W.heap.size W W') => parse_any (textL l) W' (HL.out W' hb) (textL_len l))
    have HM0 := fun W' (hb : Below W.heap.size W W') => may_any ao c l W' (HN.out W' hb) F
    unfold ParseR at HP
    have HI := Lib.hid (fun W' (hb : Below W.heap.size W W') => its_any ao c l W' (HN.out W' hb) (by omega))
    have HIP := Lib.hid (fun (o2 : Option Addr) (c2 : Nat) (W' : World) (h : Ns W' (.slice o2 l.length c2) l) => its_any o2 c2 l W' h (by omega))
    have HSM0 := fun (o1 o2 : Option Addr) (c1 c2 : Nat) (W' : World) (h1 : Ns W' (.slice o1 l.length c1) l) (h2 : Ns W' (.slice o2 l.length c2) l) => same_any o1 o2 c1 c2 l l W' h1 h2 F F (by omega)
    have hdd : decide (l = l) = true := decide_eq_true rfl
    rw [hdd] at HSM0
    have HSM := Lib.hid HSM0
    cases hm : mayL l
    · rw [hm] at HM0
      have HM := Lib.hid HM0
      have ht := may_none hm
      rw [ht] at HT HP
      rw [parse_nil] at HP
      clear hm ht HM0 HSM0 m F hdd
      go_enter Tryd.func3, Tryd.ntmps3
      go_wp2_with (first
      | (go_at_call 7; refine (HSH.out _ HB.out).mono ?_; rintro e w' ⟨rfl, hb⟩; have HB := Lib.hid (HB.out.trans (hb.mono HB.out.size)); clear hb)
      | (go_at_call 8; refine (HT.out _ HB.out).mono ?_; rintro e w' ⟨rfl, hb⟩; skip; have HB := Lib.hid (HB.out.trans (hb.mono HB.out.size)); clear hb)
      | (go_at_call 9; refine (HP.out _ HB.out).mono ?_; rintro e w' ⟨hb, hr⟩; rcases hr with ⟨_, rfl⟩ | ⟨_, _, q, _⟩; rotate_left; exact absurd q (by intro q; cases q); have HB := Lib.hid (HB.out.trans (hb.mono HB.out.size)); clear hb)
      | (go_at_call 10; refine (HM.out _ HB.out).mono ?_; rintro e w' ⟨rfl, hb⟩; skip; have HB := Lib.hid (HB.out.trans (hb.mono HB.out.size)); clear hb))
      go_ret
      exact ⟨rfl, HB.out⟩
    · rw [hm] at HM0
      have HM := Lib.hid HM0
      rw [parse_back F hm] at HP
      clear hm HM0 HSM0 m F hdd
      go_enter Tryd.func3, Tryd.ntmps3
      go_wp2_with (first
      | (go_at_call 7; refine (HSH.out _ HB.out).mono ?_; rintro e w' ⟨rfl, hb⟩; have HB := Lib.hid (HB.out.trans (hb.mono HB.out.size)); clear hb)
      | (go_at_call 8; refine (HT.out _ HB.out).mono ?_; rintro e w' ⟨rfl, hb⟩; skip; have HB := Lib.hid (HB.out.trans (hb.mono HB.out.size)); clear hb)
      | (go_at_call 9; refine (HP.out _ HB.out).mono ?_; rintro e w' ⟨hb, hr⟩; rcases hr with ⟨q, _⟩ | ⟨l', v, hq, rfl, ho⟩; exact absurd q (by intro q; cases q); obtain rfl := Option.some.inj hq; obtain ⟨ao2, c2, rfl⟩ := own_slice ho; have HPN := Lib.hid (own_ns ho); clear ho hq HP; have HB := Lib.hid (HB.out.trans (hb.mono HB.out.size)); clear hb)
      | (go_at_call 10; refine (HM.out _ HB.out).mono ?_; rintro e w' ⟨rfl, hb⟩; have hpn2 := HPN.out.below hb; clear HPN; have HPN := Lib.hid hpn2; clear hpn2; have HB := Lib.hid (HB.out.trans (hb.mono HB.out.size)); clear hb)
      | (go_at_call 12; have hpn := HPN.out; clear HPN; refine (HIP.out _ _ _ hpn).mono ?_; rintro e w' ⟨v, rfl, ho, hb⟩; obtain ⟨ao3, c3, rfl⟩ := own_slice ho; have HA1 := Lib.hid (own_nsR ho); clear ho hpn; have HB := Lib.hid (HB.out.trans (hb.mono HB.out.size)); clear hb)
      | (go_at_call 12; refine (HI.out _ HB.out).mono ?_; rintro e w' ⟨v, rfl, ho, hb⟩; obtain ⟨ao4, c4, rfl⟩ := own_slice ho; have HA2 := Lib.hid (own_nsR ho); have HA1 := Lib.hid (HA1.out.below hb); clear ho; have HB := Lib.hid (HB.out.trans (hb.mono HB.out.size)); clear hb)
      | (go_at_call 11; refine (HSM.out _ _ _ _ _ HA1.out HA2.out).mono ?_; rintro e w' ⟨rfl, hb⟩; skip; have HB := Lib.hid (HB.out.trans (hb.mono HB.out.size)); clear hb))
      go_ret
      exact ⟨rfl, HB.out⟩
  · have hgt : (130 : Int) < ((l.length : Nat) : Int) := by omega
    clear HN hlen m F
    go_enter Tryd.func3, Tryd.ntmps3
    go_wp2_with (go_at_call 7; refine (HSH.out _ HB.out).mono ?_; rintro e w' ⟨rfl, hb⟩; have HB := Lib.hid (HB.out.trans (hb.mono HB.out.size)); clear hb)
    go_ret
    exact ⟨rfl, HB.out⟩
set_option maxRecDepth 100000 in
set_option maxHeartbeats 1600000 in
theorem rxApart_walk (W : World) (hL : Lay W) (ao : Option Addr) (c : Nat) (a : List Nd) (m : a.length ≤ maxLen) (B : Ns W (.slice ao a.length c) a) (F : ∀ n ∈ a, Wf n.s) (bo : Option Addr) (d : Nat) (b : List Nd) (m2 : b.length ≤ maxLen) (B2 : Ns W (.slice bo b.length d) b) (F2 : ∀ n ∈ b, Wf n.s) :
    Calls Tryd.prog 4 #[.slice ao a.length c, .slice bo b.length d] W fun e W' => e = .returned (.bool true) ∧ Below W.heap.size W W' := by
  have HSH := Lib.hid (fun W' (hb : Below W.heap.size W W') => shown_any W' (hL.below hb))
  have HL := Lib.hid (fun W' (hb : Below W.heap.size W W') => hL.below hb)
  have HB := Lib.hid (Below.refl W.heap.size W)
  have HNa := Lib.hid (fun W' (hb : Below W.heap.size W W') => B.below hb)
  have HNb := Lib.hid (fun W' (hb : Below W.heap.size W W') => B2.below hb)
  have HMa0 := fun W' (hb : Below W.heap.size W W') => may_any ao c a W' (HNa.out W' hb) F
  have HMb0 := fun W' (hb : Below W.heap.size W W') => may_any bo d b W' (HNb.out W' hb) F2
  clear hL B B2
  by_cases hla : a.length ≤ 130
  · have hga : ¬ (130 : Int) < ((a.length : Nat) : Int) := by omega
    by_cases hlb : b.length ≤ 130
    · have hgb : ¬ (130 : Int) < ((b.length : Nat) : Int) := by omega
      cases hma : mayL a
      · rw [hma] at HMa0
        have HMa := Lib.hid HMa0
        clear HMa0 HMb0 hma m m2 F F2 HNa HNb
        go_enter Tryd.func4, Tryd.ntmps4
        go_wp2_with (first
      | (go_at_call 7; refine (HSH.out _ HB.out).mono ?_; rintro e w' ⟨rfl, hb⟩; have HB := Lib.hid (HB.out.trans (hb.mono HB.out.size)); clear hb)
      | (go_at_call 10; refine (HMa.out _ HB.out).mono ?_; rintro e w' ⟨rfl, hb⟩; skip; have HB := Lib.hid (HB.out.trans (hb.mono HB.out.size)); clear hb))
        go_ret
        exact ⟨rfl, HB.out⟩
      · cases hmb : mayL b
        · rw [hma] at HMa0
          rw [hmb] at HMb0
          have HMa := Lib.hid HMa0
          have HMb := Lib.hid HMb0
          clear HMa0 HMb0 hma hmb m m2 F F2 HNa HNb
          go_enter Tryd.func4, Tryd.ntmps4
          go_wp2_with (first
      | (go_at_call 7; refine (HSH.out _ HB.out).mono ?_; rintro e w' ⟨rfl, hb⟩; have HB := Lib.hid (HB.out.trans (hb.mono HB.out.size)); clear hb)
      | (go_at_call 10; have hq := HMa.out; clear HMa; refine (hq _ HB.out).mono ?_; clear hq; rintro e w' ⟨rfl, hb⟩; have HB := Lib.hid (HB.out.trans (hb.mono HB.out.size)); clear hb)
      | (go_at_call 10; refine (HMb.out _ HB.out).mono ?_; rintro e w' ⟨rfl, hb⟩; skip; have HB := Lib.hid (HB.out.trans (hb.mono HB.out.size)); clear hb))
          go_ret
          exact ⟨rfl, HB.out⟩
        · rw [hma] at HMa0
          rw [hmb] at HMb0
          have HMa := Lib.hid HMa0
          have HMb := Lib.hid HMb0
          have HTa0 := fun W' (hb : Below W.heap.size W W') => text_any ao c a W' (HNa.out W' hb) F (HL.out W' hb)
          have HTb0 := fun W' (hb : Below W.heap.size W W') => text_any bo d b W' (HNb.out W' hb) F2 (HL.out W' hb)
          have HIa := Lib.hid (fun W' (hb : Below W.heap.size W W') => its_any ao c a W' (HNa.out W' hb) (by omega))
          have HIb := Lib.hid (fun W' (hb : Below W.heap.size W W') => its_any bo d b W' (HNb.out W' hb) (by omega))
          have HSM0 := fun (o1 o2 : Option Addr) (c1 c2 : Nat) (W' : World) (h1 : Ns W' (.slice o1 a.length c1) a) (h2 : Ns W' (.slice o2 b.length c2) b) => same_any o1 o2 c1 c2 a b W' h1 h2 F F2 (by omega)
          have heq : (textL a == textL b) = decide (a = b) := by
            obtain ⟨t, _, h1, h2, h3⟩ := may_some hma
            obtain ⟨u, _, k1, k2, k3⟩ := may_some hmb
            by_cases hab : a = b
            · rw [hab, decide_eq_true rfl]; simp
            · rw [decide_eq_false hab, beq_eq_false_iff_ne]
              intro q
              rw [h3, k3] at q
              exact hab (by rw [h1, k1]; exact tree_text h2 k2 (sets_nodes t 0 (by rw [← h1]; exact F)) (sets_nodes u 0 (by rw [← k1]; exact F2)) q)
          have hla1 := textL_len a
          have hla2 := textL_len b
          generalize textL a = ta at *
          generalize textL b = tb at *
          generalize decide (a = b) = x at *
          have HTa := Lib.hid HTa0
          have HTb := Lib.hid HTb0
          have HSM := Lib.hid HSM0
          clear HTa0 HTb0 HMa0 HMb0 hma hmb m m2 F F2 HNa HNb HSM0
          cases x <;> (
          · go_enter Tryd.func4, Tryd.ntmps4
            go_wp2_with (first
      | (go_at_call 7; refine (HSH.out _ HB.out).mono ?_; rintro e w' ⟨rfl, hb⟩; have HB := Lib.hid (HB.out.trans (hb.mono HB.out.size)); clear hb)
      | (go_at_call 10; have hq := HMa.out; clear HMa; refine (hq _ HB.out).mono ?_; clear hq; rintro e w' ⟨rfl, hb⟩; have HB := Lib.hid (HB.out.trans (hb.mono HB.out.size)); clear hb)
      | (go_at_call 10; refine (HMb.out _ HB.out).mono ?_; rintro e w' ⟨rfl, hb⟩; skip; have HB := Lib.hid (HB.out.trans (hb.mono HB.out.size)); clear hb)
      | (go_at_call 8; have hq := HTa.out; clear HTa; refine (hq _ HB.out).mono ?_; clear hq; rintro e w' ⟨rfl, hb⟩; have HB := Lib.hid (HB.out.trans (hb.mono HB.out.size)); clear hb)
      | (go_at_call 8; refine (HTb.out _ HB.out).mono ?_; rintro e w' ⟨rfl, hb⟩; skip; have HB := Lib.hid (HB.out.trans (hb.mono HB.out.size)); clear hb)
      | (go_at_call 12; have hq := HIa.out; clear HIa; refine (hq _ HB.out).mono ?_; clear hq; rintro e w' ⟨v, rfl, ho, hb⟩; obtain ⟨ao3, c3, rfl⟩ := own_slice ho; have HA1 := Lib.hid (own_nsR ho); clear ho; have HB := Lib.hid (HB.out.trans (hb.mono HB.out.size)); clear hb)
      | (go_at_call 12; refine (HIb.out _ HB.out).mono ?_; rintro e w' ⟨v, rfl, ho, hb⟩; obtain ⟨ao4, c4, rfl⟩ := own_slice ho; have HA2 := Lib.hid (own_nsR ho); have HA1 := Lib.hid (HA1.out.below hb); clear ho; have HB := Lib.hid (HB.out.trans (hb.mono HB.out.size)); clear hb)
      | (go_at_call 11; refine (HSM.out _ _ _ _ _ HA1.out HA2.out).mono ?_; rintro e w' ⟨rfl, hb⟩; skip; have HB := Lib.hid (HB.out.trans (hb.mono HB.out.size)); clear hb))
            go_ret
            exact ⟨rfl, HB.out⟩)
    · have hgb : (130 : Int) < ((b.length : Nat) : Int) := by omega
      clear HMa0 HMb0 HNa HNb hlb m m2 F F2
      go_enter Tryd.func4, Tryd.ntmps4
      go_wp2_with (go_at_call 7; refine (HSH.out _ HB.out).mono ?_; rintro e w' ⟨rfl, hb⟩; have HB := Lib.hid (HB.out.trans (hb.mono HB.out.size)); clear hb)
      go_ret
      exact ⟨rfl, HB.out⟩
  · have hga : (130 : Int) < ((a.length : Nat) : Int) := by omega
    clear HMa0 HMb0 HNa HNb hla m m2 F F2
    go_enter Tryd.func4, Tryd.ntmps4
    go_wp2_with (go_at_call 7; refine (HSH.out _ HB.out).mono ?_; rintro e w' ⟨rfl, hb⟩; have HB := Lib.hid (HB.out.trans (hb.mono HB.out.size)); clear hb)
    go_ret
    exact ⟨rfl, HB.out⟩
end Go.Proofs.YtdjedjfanfbbcaaDoor.Rx
