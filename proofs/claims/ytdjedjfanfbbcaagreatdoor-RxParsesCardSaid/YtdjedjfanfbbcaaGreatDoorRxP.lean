/- Patterns: Text of any nodes, and Parse: the walks. -/
import Derived.Test.YtdjedjfanfbbcaaGreatDoorRxN
import Derived.Test.YtdjedjfanfbbcaaGreatDoorRxTxt
import Derived.Test.YtdjedjfanfbbcaaGreatDoorRxFw
namespace Go.Proofs.YtdjedjfanfbbcaaGreatDoor.Rx
open Go.RowKit Go.Shelf
open Go.Proofs.YtdjedjfanfbbcaaGreatDoor.St (Wf word zeroW Tab wf_two wf_orL wf_ofL wf_zero orL ofL)
set_option linter.unusedVariables false
set_option linter.unusedSimpArgs false
theorem l_close (r : Rd) : (closeP r).l = r.l := by
  obtain ⟨rest, l, g, bad⟩ := r
  unfold closeP
  cases rest with
  | nil => rfl
  | cons c t => dsimp only; split <;> rfl
theorem l_ref (r : Rd) : (refP r).1.l = r.l := by
  obtain ⟨rest, l, g, bad⟩ := r
  unfold refP
  cases rest <;> rfl
theorem wf_push {r : Rd} (h : ∀ n ∈ r.l, Wf n.s) {m : Nd} (hm : Wf m.s) : ∀ n ∈ (pushP r m).1.l, Wf n.s := by
  intro n hn
  unfold pushP at hn
  rcases List.mem_append.1 hn with q | q
  · exact h n q
  · obtain rfl := List.mem_singleton.1 q
    exact hm
/-- The sets of nodes that are read are sets. -/
theorem wf_node : ∀ (left : Nat) (r : Rd), (∀ n ∈ r.l, Wf n.s) → ∀ n ∈ (nodeP left r).1.l, Wf n.s
  | 0, r, h => h
  | left + 1, ⟨rest, l, g, bad⟩, h => by
    have hz : Wf z4 := wf_zero
    unfold nodeP
    split
    · exact h
    cases rest with
    | nil => exact h
    | cons c t =>
      dsimp only
      split
      · exact wf_push h hz
      split
      · exact wf_push h (wf_set _)
      split
      · exact wf_push h hz
      split
      · exact wf_push h hz
      split
      · exact wf_push (by exact wf_node left _ (wf_node left _ h)) hz
      split
      · exact wf_push (by exact wf_node left _ h) hz
      split
      · exact wf_push (by rw [l_close]; exact wf_node left _ h) hz
      split
      · exact wf_push (by rw [l_ref]; exact h) hz
      · exact wf_push h hz
theorem parse_wf {s : List UInt8} {l : List Nd} (h : parseL s = some l) : ∀ n ∈ l, Wf n.s := by
  unfold parseL at h
  dsimp only at h
  split at h
  · obtain rfl := Option.some.inj h
    exact wf_node 120 _ (by intro n hn; cases hn)
  · cases h
set_option maxRecDepth 100000 in
theorem text_none (ao : Option Addr) (c : Nat) (l : List Nd) (w : World) (h : Ns w (.slice ao l.length c) l) (hw : ∀ n ∈ l, Wf n.s) (hm : mayL l = false) :
    Calls Tryz.prog 16 #[.slice ao l.length c] w fun e w' => e = .returned (S []) ∧ Below w.heap.size w w' := by
  have HM0 := may_any ao c l w h hw
  rw [hm] at HM0
  have HM := Lib.hid HM0
  clear HM0 h hm hw
  go_enter Tryz.func16, Tryz.ntmps16
  go_wp2_with (go_at_call 10; refine HM.out.mono ?_; rintro e w0 ⟨rfl, hb⟩; have HB0 := Lib.hid hb; clear hb)
  go_ret
  exact ⟨rfl, HB0.out⟩
theorem text_any (ao : Option Addr) (c : Nat) (l : List Nd) (w : World) (h : Ns w (.slice ao l.length c) l) (hw : ∀ n ∈ l, Wf n.s) (hL : Lay w) :
    Calls Tryz.prog 16 #[.slice ao l.length c] w fun e w' => e = .returned (S (textL l)) ∧ Below w.heap.size w w' := by
  cases hp : patOf l with
  | none =>
    have e1 : textL l = [] := by unfold textL; rw [hp]
    rw [e1]
    exact text_none ao c l w h hw (by unfold mayL; rw [hp]; rfl)
  | some t =>
    obtain ⟨rfl, hg⟩ := patOf_some hp
    have e1 : textL (t.nodes 0) = textT t := by unfold textL; rw [hp]
    rw [e1]
    exact text_good ao c t hg w h hw hL
/-- What Parse answers. -/
def ParseR (w : World) (s : List UInt8) (e : Ending) (w' : World) : Prop :=
  Below w.heap.size w w' ∧ ((parseL s = none ∧ e = .returned (.tuple #[.slice none 0 0, E 40])) ∨ ∃ l v, parseL s = some l ∧ e = .returned (.tuple #[v, E 0]) ∧ w'.ownsRow w.heap.size 45 10 v l.length (flat l))
set_option maxRecDepth 100000 in
set_option maxHeartbeats 1600000 in
theorem parse_any (s : List UInt8) (w : World) (hL : Lay w) (hs : s.length ≤ 100000) :
    Calls Tryz.prog 6 #[S s] w (ParseR w s) := by
  have hq0 : RW w w.heap.size ⟨s, [], 0, false⟩ (.slice none 0 0) (w.alloc (.cells #[S s, .slice none 0 0, E 0, .bool false] 49)) :=
    ⟨heap_alloc_new _ _, World.ownsRow_nil _ _ _ _, (by intro q; cases q), Nat.le_refl _, (Below.refl _ _).alloc (Nat.le_refl _) _⟩
  have hn9 := (node_any w w.heap.size hL 120 (by decide) ⟨s, [], 0, false⟩ _ _ hq0 ⟨by simpa using hs, Int.le_refl _, by show (0 : Int) + ((s.length : Nat) : Int) ≤ 100000; omega⟩)
  unfold NodeAns at hn9
  have HN := Lib.hid hn9
  clear hn9
  have hwf := wf_node 120 ⟨s, [], 0, false⟩ (by intro n hn; cases hn)
  have HP := Lib.hid (show parseL s = if (nodeP 120 ⟨s, [], 0, false⟩).1.bad = false ∧ mayL (nodeP 120 ⟨s, [], 0, false⟩).1.l = true ∧ textL (nodeP 120 ⟨s, [], 0, false⟩).1.l = s then some (nodeP 120 ⟨s, [], 0, false⟩).1.l else none from rfl)
  have HL := Lib.hid hL
  generalize nodeP 120 ⟨s, [], 0, false⟩ = p at *
  obtain ⟨⟨rest, l, g, bad⟩, at0⟩ := p
  dsimp only at hwf HP
  clear hq0 hL
  go_enter Tryz.func6, Tryz.ntmps6
  cases bad
  · have HP1 := Lib.hid (HP.out)
    cases hm : mayL l
    · have HO := Lib.hid (show parseL s = none from by rw [HP.out, if_neg (by rintro ⟨_, q, _⟩; rw [hm] at q; cases q)])
      have HM := Lib.hid (fun ao c W h => may_any ao c l W h hwf)
      rw [hm] at HM
      clear hm HP HP1
      go_wp2_with (first
        | (go_at_call 21; refine HN.out.mono ?_; rintro e w1 ⟨v, rfl, hr, hk⟩; obtain ⟨ao, cap, rfl⟩ := own_slice hr.own; have HR := Lib.hid hr; have HNS := Lib.hid (own_ns hr.own); clear hr hk; obtain ⟨⟨c0, c1, c2, c3⟩, f0, f1, f2, f3⟩ := HR.out.cells; dsimp only at c0 c1 c2 c3)
        | (go_at_call 10; refine (HM.out _ _ _ HNS.out).mono ?_; rintro e w2 ⟨rfl, hb⟩; have HR2 := Lib.hid (HR.out.below hb); clear hb))
      go_ret2
      exact ⟨HR2.out.bel, Or.inl ⟨HO.out, rfl⟩⟩
    · have HM := Lib.hid (fun ao c W h => may_any ao c l W h hwf)
      rw [hm] at HM
      have HT := Lib.hid (fun ao c W h hl => text_any ao c l W h hwf hl)
      by_cases ht : textL l = s
      · have HO := Lib.hid (show parseL s = some l from by rw [HP.out, if_pos ⟨rfl, hm, ht⟩])
        have hq : (s == s) = true := by rw [beq_iff_eq]
        rw [ht] at HT
        clear hm HP HP1 ht
        go_wp2_with (first
          | (go_at_call 21; refine HN.out.mono ?_; rintro e w1 ⟨v, rfl, hr, hk⟩; obtain ⟨ao, cap, rfl⟩ := own_slice hr.own; have HR := Lib.hid hr; have HNS := Lib.hid (own_ns hr.own); clear hr hk; obtain ⟨⟨c0, c1, c2, c3⟩, f0, f1, f2, f3⟩ := HR.out.cells; dsimp only at c0 c1 c2 c3)
          | (go_at_call 10; refine (HM.out _ _ _ HNS.out).mono ?_; rintro e w2 ⟨rfl, hb⟩; have HR2 := Lib.hid (HR.out.below hb); have HNS2 := Lib.hid (HNS.out.below hb); clear hb; obtain ⟨⟨d0, d1, d2, d3⟩, _, _, _, _⟩ := HR2.out.cells; dsimp only at d0 d1 d2 d3)
          | (go_at_call 16; refine (HT.out _ _ _ HNS2.out (HR2.out.lay HL.out)).mono ?_; rintro e w3 ⟨rfl, hb⟩; have HR3 := Lib.hid (HR2.out.below hb); clear hb; obtain ⟨⟨g0, g1, g2, g3⟩, _, _, _, _⟩ := HR3.out.cells; dsimp only at g0 g1 g2 g3))
        go_ret2
        exact ⟨HR3.out.bel, Or.inr ⟨l, _, HO.out, rfl, HR3.out.own⟩⟩
      · have HO := Lib.hid (show parseL s = none from by rw [HP.out, if_neg (by rintro ⟨_, _, q⟩; exact ht q)])
        have hq : (textL l == s) = false := by rw [beq_eq_false_iff_ne]; exact ht
        generalize textL l = tl at *
        clear hm HP HP1 ht
        go_wp2_with (first
          | (go_at_call 21; refine HN.out.mono ?_; rintro e w1 ⟨v, rfl, hr, hk⟩; obtain ⟨ao, cap, rfl⟩ := own_slice hr.own; have HR := Lib.hid hr; have HNS := Lib.hid (own_ns hr.own); clear hr hk; obtain ⟨⟨c0, c1, c2, c3⟩, f0, f1, f2, f3⟩ := HR.out.cells; dsimp only at c0 c1 c2 c3)
          | (go_at_call 10; refine (HM.out _ _ _ HNS.out).mono ?_; rintro e w2 ⟨rfl, hb⟩; have HR2 := Lib.hid (HR.out.below hb); have HNS2 := Lib.hid (HNS.out.below hb); clear hb; obtain ⟨⟨d0, d1, d2, d3⟩, _, _, _, _⟩ := HR2.out.cells; dsimp only at d0 d1 d2 d3)
          | (go_at_call 16; refine (HT.out _ _ _ HNS2.out (HR2.out.lay HL.out)).mono ?_; rintro e w3 ⟨rfl, hb⟩; have HR3 := Lib.hid (HR2.out.below hb); clear hb; obtain ⟨⟨g0, g1, g2, g3⟩, _, _, _, _⟩ := HR3.out.cells; dsimp only at g0 g1 g2 g3))
        go_ret2
        exact ⟨HR3.out.bel, Or.inl ⟨HO.out, rfl⟩⟩
  · have HO := Lib.hid (show parseL s = none from by rw [HP.out, if_neg (by rintro ⟨q, _⟩; cases q)])
    clear HP
    go_wp2_with (go_at_call 21; refine HN.out.mono ?_; rintro e w1 ⟨v, rfl, hr, hk⟩; obtain ⟨ao, cap, rfl⟩ := own_slice hr.own; have HR := Lib.hid hr; clear hr hk; obtain ⟨⟨c0, c1, c2, c3⟩, f0, f1, f2, f3⟩ := HR.out.cells; dsimp only at c0 c1 c2 c3)
    go_ret2
    exact ⟨HR.out.bel, Or.inl ⟨HO.out, rfl⟩⟩
end Go.Proofs.YtdjedjfanfbbcaaGreatDoor.Rx
