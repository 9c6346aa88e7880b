/- Patterns: what the laws ask first: the walk. -/
import Derived.Test.YtdjedjfanfbbcaaGreatDoorTk
import Derived.Test.YtdjedjfanfbbcaaGreatDoorRxP
import Derived.Test.YtdjedjfanfbbcaaGreatDoorRxS
namespace Go.Proofs.YtdjedjfanfbbcaaGreatDoor.Rx
open Go.RowKit Go.Shelf
open Tr
open Go.Proofs.YtdjedjfanfbbcaaGreatDoor.Ad (itoa_dec)
open Go.Proofs.YtdjedjfanfbbcaaGreatDoor.St (Wf word zeroW SV SV_eq ofL wf_ofL of_any bytesL)
set_option linter.unusedVariables false
set_option linter.unusedSimpArgs false
def T1 : Tr := .cat (.set (ofL [97])) (.times 0 (-1) (.set (ofL [98])))
theorem bytes_97 : bytesL (ofL [97]) = [97] := by decide +kernel
theorem bytes_98 : bytesL (ofL [98]) = [98] := by decide +kernel
theorem t1_text : textT T1 = [38, 91, 54, 49, 93, 42, 48, 44, 45, 49, 59, 91, 54, 50, 93] := by
  have e0 : Lib.itoa 0 = [48] := by rw [itoa_digit (by decide) (by decide)]; rfl
  have e1 : Lib.itoa (-1) = [45, 49] := by
    unfold Lib.itoa
    rw [if_pos (by decide), show Int.natAbs (-1) = 1 from rfl, Lib.decDigits, dif_pos (by decide)]
    rfl
  unfold T1 textT textT textT
  rw [e0, e1, bytes_97, bytes_98]
  rfl
theorem t1_good : Good T1 := by
  refine ⟨?_, by decide, by decide⟩
  unfold Whole T1 Fine Fine Fine
  refine ⟨by decide, ⟨by decide, by decide, by decide, Or.inl rfl, Or.inl rfl⟩, by decide, by decide, by decide⟩
theorem t1_sets : SetsOk T1 := ⟨wf_ofL _, wf_ofL _⟩
theorem t1_nodes : (T1.nodes 0).length = 4 ∧ (T1.nodes 0)[0]? = some ⟨1, ofL [97], 0, 0, 0, 0, 0⟩ := ⟨rfl, rfl⟩
theorem groups_1 : groupsL (T1.nodes 0) = 0 := by
  unfold groupsL
  rw [patOf_good t1_good]
  rfl
theorem eql_set {s : List Nat} (h : Wf s) (W : World) : (binOp .eql 43 (.agg #[U (word s 0), U (word s 1), U (word s 2), U (word s 3)]) (.agg #[U (word s 0), U (word s 1), U (word s 2), U (word s 3)])).run Tryz.prog W = .ok (.bool true) W := by
  rw [run_eql_struct, show (10000 : Nat) = 9998 + 2 from rfl, run_eq4g]
  simp
/-- What the last region holds. -/
structure SH (w : World) (sa : List Nat) (l : List Nd) (g cap : Nat) (w' : World) : Prop where
  ns : Ns w' (.slice (some ⟨g, 0, none⟩) 4 cap) l
  bel : Below w.heap.size w w'
  n0 : l[0]? = some ⟨1, sa, 0, 0, 0, 0, 0⟩
  l4 : l.length = 4
theorem SH.below {w w1 w2 : World} {sa : List Nat} {l : List Nd} {g cap : Nat} (h : SH w sa l g cap w1) (hb : Below w1.heap.size w1 w2) : SH w sa l g cap w2 :=
  ⟨h.ns.below hb, h.bel.trans (hb.mono h.bel.size), h.n0, h.l4⟩
theorem SH.cells {w w' : World} {sa : List Nat} {l : List Nd} {g cap : Nat} (h : SH w sa l g cap w') :
    w'.cell? ⟨g, 1, none⟩ = some (U (word sa 0)) ∧ w'.cell? ⟨g, 2, none⟩ = some (U (word sa 1)) ∧ w'.cell? ⟨g, 3, none⟩ = some (U (word sa 2)) ∧ w'.cell? ⟨g, 4, none⟩ = some (U (word sa 3)) := by
  have h4 := h.l4
  obtain ⟨B, o, hq, q0, q1, q2, q3, q4, _⟩ := h.ns.at (i := 0) (by omega)
  simp only [Option.some.injEq, Addr.mk.injEq, and_true] at hq
  obtain ⟨rfl, rfl⟩ := hq
  have e : l[0]'(by omega) = ⟨1, sa, 0, 0, 0, 0, 0⟩ := by
    have := h.n0
    rw [List.getElem?_eq_getElem (by omega)] at this
    exact Option.some.inj this
  rw [e] at q1 q2 q3 q4
  simp only [Nat.zero_mul, Nat.zero_add] at q1 q2 q3 q4
  exact ⟨q1, q2, q3, q4⟩
set_option maxRecDepth 100000 in
set_option maxHeartbeats 1600000 in
theorem shown_any (w : World) (hL : Lay w) :
    Calls Tryz.prog 5 #[] w fun e w' => e = .returned (.bool true) ∧ Below w.heap.size w w' := by
  have hp := parse_text t1_good t1_sets
  rw [t1_text] at hp
  have hwf := parse_wf hp
  obtain ⟨hm, ht⟩ := parse_some hp
  obtain ⟨hl4, hn0⟩ := t1_nodes
  have hg := groups_1
  have HP0 := parse_any [38, 91, 54, 49, 93, 42, 48, 44, 45, 49, 59, 91, 54, 50, 93] w hL (by decide)
  unfold ParseR at HP0
  rw [hp] at HP0
  generalize T1.nodes 0 = l at *
  have HP := Lib.hid HP0
  have HL := Lib.hid hL
  have CM0 := fun ao c W h => may_any ao c l W h hwf
  have CT0 := fun ao c W h hW => text_any ao c l W h hwf hW
  have CG0 := fun ao c W h => groups_any ao c l W h hwf
  rw [hm] at CM0
  rw [ht] at CT0
  rw [hg] at CG0
  rw [hl4] at CM0 CT0 CG0
  have CM := Lib.hid CM0
  have CT := Lib.hid CT0
  have CG := Lib.hid CG0
  have CO := Lib.hid (fun W => by
    have h1 := of_any [97] W (by decide)
    rw [SV_eq (wf_ofL [97])] at h1
    exact h1)
  have HEQ := fun W => eql_set (wf_ofL [97]) W
  have HN0 := Lib.hid hn0
  have HLN := Lib.hid hl4
  generalize ofL [97] = sa at *
  clear HP0 CM0 CT0 CG0 hp hm ht hg hn0 hwf hL hl4
  go_enter Tryz.func5, Tryz.ntmps5
  go_wp2_with (go_at_call 6; refine HP.out.mono ?_; rintro e w1 ⟨hb, hr⟩; rcases hr with ⟨q, _⟩ | ⟨l', v, hq, rfl, ho⟩; exact absurd q (by intro q; cases q); obtain rfl := Option.some.inj hq; have HB1 := Lib.hid hb; have HO1 := Lib.hid ho; clear hb hq ho HP)
  have hno := own_ns HO1.out
  obtain ⟨g, cap, rfl, hcap⟩ : ∃ g cap, v = .slice (some ⟨g, 0, none⟩) 4 cap ∧ 4 ≤ cap := by
    rcases own_forms HO1.out with ⟨_, h0⟩ | ⟨g, cap, hv, hc⟩
    · have := HLN.out; omega
    · rw [HLN.out] at hv hc; exact ⟨g, cap, hv, hc⟩
  have HNS := Lib.hid hno
  clear hno HO1
  refine wp_region_noPanic ?_
  refine wp_region_held_drew (S := fun w' => SH w sa l g cap w') (by kernel_rfl) ?_ (fun hHeld => ?_)
  · (try dsimp only); exact SH.mk (HNS.out.below (Below.refl _ _).drew) (HB1.out.trans ((Below.refl _ _).drew.mono HB1.out.size)) HN0.out HLN.out
  clear HB1 HNS
  generalize w1.drew = w3 at *
  refine Tk.take 0 (hy := by (intro w hSw; (try dsimp only at hSw); (obtain ⟨sh0, sh1, sh2, sh3⟩ := hSw.cells); go_simp) <;> with_reducible rfl) (h := ?_)
  refine Tk.take 1 (hy := by (intro w hSw; (try dsimp only at hSw); (obtain ⟨sh0, sh1, sh2, sh3⟩ := hSw.cells); go_simp) <;> with_reducible rfl) (h := ?_)
  refine Tk.take 2 (hy := by (intro w hSw; (try dsimp only at hSw); (obtain ⟨sh0, sh1, sh2, sh3⟩ := hSw.cells); go_simp) <;> with_reducible rfl) (h := ?_)
  refine Tk.take 3 (hy := by (intro w hSw; (try dsimp only at hSw); (obtain ⟨sh0, sh1, sh2, sh3⟩ := hSw.cells); go_simp) <;> with_reducible rfl) (h := ?_)
  refine wpAnyH_ready (rs := [4]) (by kernel_rfl) (by simp) ?_
  refine AllReadyH.cons (o := ?o4s) ?hi4s (fun K hK => ?st4s) AllReadyH.nil
  case hi4s => simp only [List.getElem?_toArray, List.getElem?_cons_succ, List.getElem?_cons_zero]; rfl
  go_simp
  (go_at_call 10; refine (CM.out _ _ _ hHeld.ns).mono ?_; rintro e u4 ⟨rfl, hbl⟩)
  refine hK.out _ _ ?_ (fun hHeld => ?_)
  · (try dsimp only); (exact SH.below hHeld hbl)
  clear hK K
  try simp only [Act.put, List.setIfInBounds_toArray, List.set_cons_zero, List.set_cons_succ]
  refine Tk.take 5 (hy := by (intro w hSw; (try dsimp only at hSw); (obtain ⟨sh0, sh1, sh2, sh3⟩ := hSw.cells); go_simp) <;> with_reducible rfl) (h := ?_)
  refine Tk.take 6 (hy := by (intro w hSw; (try dsimp only at hSw); (obtain ⟨sh0, sh1, sh2, sh3⟩ := hSw.cells); go_simp) <;> with_reducible rfl) (h := ?_)
  refine Tk.take 7 (hy := by (intro w hSw; (try dsimp only at hSw); (obtain ⟨sh0, sh1, sh2, sh3⟩ := hSw.cells); go_simp) <;> with_reducible rfl) (h := ?_)
  refine wpAnyH_ready (rs := [8]) (by kernel_rfl) (by simp) ?_
  refine AllReadyH.cons (o := ?o8s) ?hi8s (fun K hK => ?st8s) AllReadyH.nil
  case hi8s => simp only [List.getElem?_toArray, List.getElem?_cons_succ, List.getElem?_cons_zero]; rfl
  go_simp
  (go_at_call 16; refine (CT.out _ _ _ hHeld.ns (HL.out.below hHeld.bel)).mono ?_; rintro e u8 ⟨rfl, hbl⟩)
  refine hK.out _ _ ?_ (fun hHeld => ?_)
  · (try dsimp only); (exact SH.below hHeld hbl)
  clear hK K
  try simp only [Act.put, List.setIfInBounds_toArray, List.set_cons_zero, List.set_cons_succ]
  refine Tk.take 9 (hy := by (intro w hSw; (try dsimp only at hSw); (obtain ⟨sh0, sh1, sh2, sh3⟩ := hSw.cells); go_simp) <;> with_reducible rfl) (h := ?_)
  refine Tk.take 10 (hy := by (intro w hSw; (try dsimp only at hSw); (obtain ⟨sh0, sh1, sh2, sh3⟩ := hSw.cells); go_simp) <;> with_reducible rfl) (h := ?_)
  refine Tk.take 11 (hy := by (intro w hSw; (try dsimp only at hSw); (obtain ⟨sh0, sh1, sh2, sh3⟩ := hSw.cells); go_simp) <;> with_reducible rfl) (h := ?_)
  refine Tk.take 12 (hy := by (intro w hSw; (try dsimp only at hSw); (obtain ⟨sh0, sh1, sh2, sh3⟩ := hSw.cells); go_simp) <;> with_reducible rfl) (h := ?_)
  refine Tk.take 13 (hy := by (intro w hSw; (try dsimp only at hSw); (obtain ⟨sh0, sh1, sh2, sh3⟩ := hSw.cells); go_simp) <;> with_reducible rfl) (h := ?_)
  refine Tk.take 14 (hy := by (intro w hSw; (try dsimp only at hSw); (obtain ⟨sh0, sh1, sh2, sh3⟩ := hSw.cells); go_simp) <;> with_reducible rfl) (h := ?_)
  refine Tk.take 15 (hy := by (intro w hSw; (try dsimp only at hSw); (obtain ⟨sh0, sh1, sh2, sh3⟩ := hSw.cells); go_simp) <;> with_reducible rfl) (h := ?_)
  refine Tk.take 16 (hy := by (intro w hSw; (try dsimp only at hSw); (obtain ⟨sh0, sh1, sh2, sh3⟩ := hSw.cells); go_simp) <;> with_reducible rfl) (h := ?_)
  refine Tk.take 17 (hy := by (intro w hSw; (try dsimp only at hSw); (obtain ⟨sh0, sh1, sh2, sh3⟩ := hSw.cells); go_simp) <;> with_reducible rfl) (h := ?_)
  refine Tk.take 18 (hy := by (intro w hSw; (try dsimp only at hSw); (obtain ⟨sh0, sh1, sh2, sh3⟩ := hSw.cells); go_simp) <;> with_reducible rfl) (h := ?_)
  refine Tk.take 19 (hy := by (intro w hSw; (try dsimp only at hSw); (obtain ⟨sh0, sh1, sh2, sh3⟩ := hSw.cells); go_simp) <;> with_reducible rfl) (h := ?_)
  refine Tk.take 20 (hy := by (intro w hSw; (try dsimp only at hSw); (obtain ⟨sh0, sh1, sh2, sh3⟩ := hSw.cells); go_simp) <;> with_reducible rfl) (h := ?_)
  refine wpAnyH_ready (rs := [21]) (by kernel_rfl) (by simp) ?_
  refine AllReadyH.cons (o := ?o21s) ?hi21s (fun K hK => ?st21s) AllReadyH.nil
  case hi21s => simp only [List.getElem?_toArray, List.getElem?_cons_succ, List.getElem?_cons_zero]; rfl
  go_simp
  (go_at_call 20; refine (CO.out _).mono ?_; rintro e u21 ⟨rfl, hbl⟩)
  refine hK.out _ _ ?_ (fun hHeld => ?_)
  · (try dsimp only); (exact SH.below hHeld hbl)
  clear hK K
  try simp only [Act.put, List.setIfInBounds_toArray, List.set_cons_zero, List.set_cons_succ]
  refine Tk.take 22 (hy := by (intro w hSw; (try dsimp only at hSw); (obtain ⟨sh0, sh1, sh2, sh3⟩ := hSw.cells); go_simp) <;> with_reducible rfl) (h := ?_)
  refine Tk.take 23 (hy := by (intro w hSw; (try dsimp only at hSw); (obtain ⟨sh0, sh1, sh2, sh3⟩ := hSw.cells); go_simp) <;> with_reducible rfl) (h := ?_)
  refine Tk.take 24 (hy := by (intro w hSw; (try dsimp only at hSw); (obtain ⟨sh0, sh1, sh2, sh3⟩ := hSw.cells); go_simp) <;> with_reducible rfl) (h := ?_)
  refine Tk.take 25 (hy := by (intro w hSw; (try dsimp only at hSw); (obtain ⟨sh0, sh1, sh2, sh3⟩ := hSw.cells); go_simp) <;> with_reducible rfl) (h := ?_)
  refine wpAnyH_ready (rs := [26]) (by kernel_rfl) (by simp) ?_
  refine AllReadyH.cons (o := ?o26s) ?hi26s (fun K hK => ?st26s) AllReadyH.nil
  case hi26s => simp only [List.getElem?_toArray, List.getElem?_cons_succ, List.getElem?_cons_zero]; rfl
  go_simp
  (go_at_call 12; refine (CG.out _ _ _ hHeld.ns).mono ?_; rintro e u26 ⟨rfl, hbl⟩)
  refine hK.out _ _ ?_ (fun hHeld => ?_)
  · (try dsimp only); (exact SH.below hHeld hbl)
  clear hK K
  try simp only [Act.put, List.setIfInBounds_toArray, List.set_cons_zero, List.set_cons_succ]
  refine Tk.take 27 (hy := by (intro w hSw; (try dsimp only at hSw); (obtain ⟨sh0, sh1, sh2, sh3⟩ := hSw.cells); go_simp) <;> with_reducible rfl) (h := ?_)
  refine Tk.take 28 (hy := by (intro w hSw; (try dsimp only at hSw); (obtain ⟨sh0, sh1, sh2, sh3⟩ := hSw.cells); go_simp) <;> with_reducible rfl) (h := ?_)
  refine Tk.take 29 (hy := by (intro w hSw; (try dsimp only at hSw); (obtain ⟨sh0, sh1, sh2, sh3⟩ := hSw.cells); go_simp) <;> with_reducible rfl) (h := ?_)
  refine wpAnyH_done (by kernel_rfl) ?_ _
  refine NoPanic.normal ?_
  have HSH := Lib.hid hHeld
  clear hHeld
  go_wp2
  go_ret
  exact ⟨rfl, HSH.out.bel⟩
end Go.Proofs.YtdjedjfanfbbcaaGreatDoor.Rx
