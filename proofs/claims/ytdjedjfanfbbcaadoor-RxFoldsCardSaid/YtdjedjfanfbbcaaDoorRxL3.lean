/- Patterns: RxFolds: the walk. -/
import Derived.Test.YtdjedjfanfbbcaaDoorRxL1
import Derived.Test.YtdjedjfanfbbcaaDoorRxFo
import Derived.Test.YtdjedjfanfbbcaaDoorRxFw
import Derived.Test.YtdjedjfanfbbcaaDoorSl9
import Derived.Test.YtdjedjfanfbbcaaDoorSlFold
namespace Go.Proofs.YtdjedjfanfbbcaaDoor.Rx
open Go.RowKit Go.Shelf
open Tr
open Go.Proofs.YtdjedjfanfbbcaaDoor.St (Wf word zeroW Tab SV SV_eq ls2 wf_two or_any orL foldW wf_foldW' or_fold wf_orL Ls)
set_option linter.unusedVariables false
set_option linter.unusedSimpArgs false
/-- What is folded, of nodes. -/
theorem own_nsF {w : World} {B g cap : Nat} {l : List Nd} (h : w.ownsRow B 40 10 (.slice (some ⟨g, 0, none⟩) l.length cap) l.length (flat (l.map foldN))) : Ns w (.slice (some ⟨g, 0, none⟩) l.length cap) (l.map foldN) := by
  have e : (l.map foldN).length = l.length := by simp
  exact own_ns (by rw [e]; exact h)
theorem folded {l : List Nd} (F : ∀ n ∈ l, Wf n.s) (h : mayL l = true) : mayL (l.map foldN) = true ∧ groupsL (l.map foldN) = groupsL l ∧ refsL (l.map foldN) = refsL l ∧ (l.map foldN).map foldN = l.map foldN ∧ (∀ n ∈ l.map foldN, Wf n.s) := by
  obtain ⟨t, hp, h1, h2, h3⟩ := may_some h
  have hs : SetsOk t := sets_nodes t 0 (by rw [← h1]; exact F)
  have e : l.map foldN = (foldT t).nodes 0 := by rw [h1, fold_nodes]
  have hg := fold_good h2 hs
  have hpf := patOf_good hg
  have c1 : cnt (foldT t) = cnt t := by
    have a := num_g (foldT t) num0
    have b := num_g t num0
    rw [fold_num] at a
    omega
  have c2 : decide (0 < refsT (foldT t)) = decide (0 < refsT t) := by
    have a := num_r (foldT t) num0
    have b := num_r t num0
    rw [fold_num] at a
    rw [a] at b
    simpa [num0] using b
  refine ⟨?_, ?_, ?_, ?_, ?_⟩
  · unfold mayL; rw [e, hpf]; rfl
  · unfold groupsL; rw [e, hpf, hp]; exact c1
  · unfold refsL; rw [e, hpf, hp]; exact c2
  · rw [e, ← fold_nodes, fold_again t hs]
  · rw [e]; exact nodes_sets _ 0 (fold_sets t hs)
/-- Two rows of nodes beside each other. -/
structure FS (W : World) (ao : Option Addr) (c : Nat) (l : List Nd) (g cap : Nat) (w' : World) : Prop where
  nl : Ns w' (.slice ao l.length c) l
  nf : Ns w' (.slice (some ⟨g, 0, none⟩) l.length cap) (l.map foldN)
  bel : Below W.heap.size W w'
theorem FS.below {W w1 w2 : World} {ao : Option Addr} {c : Nat} {l : List Nd} {g cap : Nat} (h : FS W ao c l g cap w1) (hb : Below w1.heap.size w1 w2) : FS W ao c l g cap w2 := ⟨h.nl.below hb, h.nf.below hb, h.bel.trans (hb.mono h.bel.size)⟩
theorem FS.cells {W w' : World} {b0 o0 c : Nat} {l : List Nd} {g cap : Nat} (h : FS W (some ⟨b0, o0, none⟩) c l g cap w') {k : Nat} (hk : k < l.length) :
    (w'.cell? ⟨b0, o0 + k * 10 + 1, none⟩ = some (U (word l[k].s 0)) ∧ w'.cell? ⟨b0, o0 + k * 10 + 2, none⟩ = some (U (word l[k].s 1)) ∧ w'.cell? ⟨b0, o0 + k * 10 + 3, none⟩ = some (U (word l[k].s 2)) ∧ w'.cell? ⟨b0, o0 + k * 10 + 4, none⟩ = some (U (word l[k].s 3))) ∧
    w'.cell? ⟨g, k * 10 + 1, none⟩ = some (U (word (foldW l[k].s) 0)) ∧ w'.cell? ⟨g, k * 10 + 2, none⟩ = some (U (word (foldW l[k].s) 1)) ∧ w'.cell? ⟨g, k * 10 + 3, none⟩ = some (U (word (foldW l[k].s) 2)) ∧ w'.cell? ⟨g, k * 10 + 4, none⟩ = some (U (word (foldW l[k].s) 3)) := by
  obtain ⟨B, o, hq, q0, q1, q2, q3, q4, _⟩ := h.nl.at hk
  obtain ⟨B', o', hq', p0, p1, p2, p3, p4, _⟩ := h.nf.at (i := k) (by simpa using hk)
  simp only [Option.some.injEq, Addr.mk.injEq, and_true] at hq hq'
  obtain ⟨rfl, rfl⟩ := hq
  obtain ⟨rfl, rfl⟩ := hq'
  simp only [Nat.zero_add, List.getElem_map] at p1 p2 p3 p4
  exact ⟨⟨q1, q2, q3, q4⟩, p1, p2, p3, p4⟩
theorem neq_set {s : List Nat} (W : World) : (binOp .neq 37 (.agg #[U (word s 0), U (word s 1), U (word s 2), U (word s 3)]) (.agg #[U (word s 0), U (word s 1), U (word s 2), U (word s 3)])).run Tryd.prog W = .ok (.bool false) W := by
  rw [run_neq_struct, show (10000 : Nat) = 9998 + 2 from rfl, run_eq4g]
  simp
set_option maxRecDepth 100000 in
set_option maxHeartbeats 3200000 in
theorem rxFolds_walk (W : World) (hL : Lay W) (ao : Option Addr) (c : Nat) (l : List Nd) (m : l.length ≤ maxLen) (B : Ns W (.slice ao l.length c) l) (F : ∀ n ∈ l, Wf n.s) :
    Calls Tryd.prog 6 #[.slice ao l.length c] W fun e W' => e = .returned (.bool true) ∧ Below W.heap.size W W' := by
  have HSH := Lib.hid (fun W' (hb : Below W.heap.size W W') => shown_any W' (hL.below hb))
  have HL := Lib.hid (fun W' (hb : Below W.heap.size W W') => hL.below hb)
  have HB := Lib.hid (Below.refl W.heap.size W)
  have HN := Lib.hid (fun W' (hb : Below W.heap.size W W') => B.below hb)
  have HM0 := fun W' (hb : Below W.heap.size W W') => may_any ao c l W' (HN.out W' hb) F
  clear hL B
  by_cases hlen : l.length ≤ 130
  · have hgt : ¬ (130 : Int) < ((l.length : Nat) : Int) := by omega
    cases hm : mayL l
    · rw [hm] at HM0
      have HM := Lib.hid HM0
      clear hm HM0 m F HN
      go_enter Tryd.func6, Tryd.ntmps6
      go_wp2_with (first
      | (go_at_call 7; refine (HSH.out _ HB.out).mono ?_; rintro e w' ⟨rfl, hb⟩; have HB := Lib.hid (HB.out.trans (hb.mono HB.out.size)); clear hb)
      | (go_at_call 10; refine (HM.out _ HB.out).mono ?_; rintro e w' ⟨rfl, hb⟩; skip; have HB := Lib.hid (HB.out.trans (hb.mono HB.out.size)); clear hb))
      go_ret
      exact ⟨rfl, HB.out⟩
    · rw [hm] at HM0
      have HM := Lib.hid HM0
      obtain ⟨t, hp, h1, h2, h3⟩ := may_some hm
      have hl0 : 0 < l.length := by rw [h1, nodes_len]; exact size_pos t
      have hl120 : l.length ≤ 120 := by rw [h1, nodes_len]; exact h2.2.1
      obtain ⟨b0, o0, rfl, _⟩ := (HN.out W (Below.refl _ _)).at hl0
      clear hp h1 h2 h3
      obtain ⟨f1, f2, f3, f4, f5⟩ := folded F hm
      have el : (l.map foldN).length = l.length := by simp
      have HF1 := Lib.hid (fun W' (hb : Below W.heap.size W W') => foldW_any b0 o0 c l W' (HN.out W' hb) F (HL.out W' hb) hm hl0 hl120)
      have HF20 := fun (g cap : Nat) (W' : World) (hb : Below W.heap.size W W') (h : Ns W' (.slice (some ⟨g, 0, none⟩) l.length cap) (l.map foldN)) => foldW_any g 0 cap (l.map foldN) W' (by rw [el]; exact h) f5 (HL.out W' hb) f1 (by rw [el]; exact hl0) (by rw [el]; exact hl120)
      have HMF0 := fun (o : Option Addr) (cap : Nat) (W' : World) (h : Ns W' (.slice o l.length cap) (l.map foldN)) => may_any o cap (l.map foldN) W' (by rw [el]; exact h) f5
      have HGF0 := fun (o : Option Addr) (cap : Nat) (W' : World) (h : Ns W' (.slice o l.length cap) (l.map foldN)) => groups_any o cap (l.map foldN) W' (by rw [el]; exact h) f5
      have HRF0 := fun (o : Option Addr) (cap : Nat) (W' : World) (h : Ns W' (.slice o l.length cap) (l.map foldN)) => refs_any o cap (l.map foldN) W' (by rw [el]; exact h) f5
      have HTF0 := fun (o : Option Addr) (cap : Nat) (W' : World) (hb : Below W.heap.size W W') (h : Ns W' (.slice o l.length cap) (l.map foldN)) => text_any o cap (l.map foldN) W' (by rw [el]; exact h) f5 (HL.out W' hb)
      rw [f1] at HMF0
      rw [f2] at HGF0
      rw [f3] at HRF0
      rw [f4] at HF20
      rw [el] at HF20 HMF0 HGF0 HRF0 HTF0
      have HG0 := fun W' (hb : Below W.heap.size W W') => groups_any (some ⟨b0, o0, none⟩) c l W' (HN.out W' hb) F
      have HR0 := fun W' (hb : Below W.heap.size W W') => refs_any (some ⟨b0, o0, none⟩) c l W' (HN.out W' hb) F
      have htl := textL_len (l.map foldN)
      generalize groupsL l = gl at *
      generalize refsL l = rl at *
      generalize textL (l.map foldN) = tf at *
      have HF2 := Lib.hid HF20
      have HMF := Lib.hid HMF0
      have HGF := Lib.hid HGF0
      have HRF := Lib.hid HRF0
      have HTF := Lib.hid HTF0
      have HG := Lib.hid HG0
      have HR := Lib.hid HR0
      have HEL := Lib.hid el
      clear HF20 HMF0 HGF0 HRF0 HTF0 HG0 HR0 HM0 f1 f2 f3 f4 el hm
      have HWF := Lib.hid (fun (k : Nat) (hk : k < l.length) => show Wf l[k].s from F _ (List.getElem_mem hk))
      have hgg : (gl == gl) = true := by rw [beq_iff_eq]
      have htt : (tf == tf) = true := by rw [beq_iff_eq]
      clear m F f5
      have HMl := HM
      go_enter Tryd.func6, Tryd.ntmps6
      go_wp2_with (first
      | (go_at_call 7; refine (HSH.out _ HB.out).mono ?_; rintro e w' ⟨rfl, hb⟩; have HB := Lib.hid (HB.out.trans (hb.mono HB.out.size)); clear hb)
      | (go_at_call 10; have hq := HMl.out; clear HMl HM; refine (hq _ HB.out).mono ?_; clear hq; rintro e w' ⟨rfl, hb⟩; have HB := Lib.hid (HB.out.trans (hb.mono HB.out.size)); clear hb)
      | (go_at_call 15; have hq := HF1.out; clear HF1; refine (hq _ HB.out).mono ?_; clear hq; rintro e w' ⟨g, cap, rfl, ho, hb⟩; have HFN := Lib.hid (own_nsF ho); clear ho; have HB := Lib.hid (HB.out.trans (hb.mono HB.out.size)); clear hb)
      | (go_at_call 10; refine (HMF.out _ _ _ HFN.out).mono ?_; rintro e w' ⟨rfl, hb⟩; have hfn := HFN.out; clear HFN; have HFN := Lib.hid (hfn.below hb); clear hfn; have HB := Lib.hid (HB.out.trans (hb.mono HB.out.size)); clear hb)
      | (go_at_call 13; have hq := HGF.out; clear HGF; refine (hq _ _ _ HFN.out).mono ?_; clear hq; rintro e w' ⟨rfl, hb⟩; have hfn := HFN.out; clear HFN; have HFN := Lib.hid (hfn.below hb); clear hfn; have HB := Lib.hid (HB.out.trans (hb.mono HB.out.size)); clear hb)
      | (go_at_call 13; refine (HG.out _ HB.out).mono ?_; rintro e w' ⟨rfl, hb⟩; have hfn := HFN.out; clear HFN; have HFN := Lib.hid (hfn.below hb); clear hfn; have HB := Lib.hid (HB.out.trans (hb.mono HB.out.size)); clear hb)
      | (go_at_call 14; have hq := HRF.out; clear HRF; refine (hq _ _ _ HFN.out).mono ?_; clear hq; rintro e w' ⟨rfl, hb⟩; have hfn := HFN.out; clear HFN; have HFN := Lib.hid (hfn.below hb); clear hfn; have HB := Lib.hid (HB.out.trans (hb.mono HB.out.size)); clear hb)
      | (go_at_call 14; refine (HR.out _ HB.out).mono ?_; rintro e w' ⟨rfl, hb⟩; have hfn := HFN.out; clear HFN; have HFN := Lib.hid (hfn.below hb); clear hfn; have HB := Lib.hid (HB.out.trans (hb.mono HB.out.size)); clear hb)
      | (go_at_call 15; refine (HF2.out _ _ _ HB.out HFN.out).mono ?_; rintro e w' ⟨g2, cap2, rfl, ho, hb⟩; have HFN2 := Lib.hid (own_ns (l := l.map foldN) (by rw [HEL.out]; exact ho)); clear ho; have hfn := HFN.out; clear HFN; have HFN := Lib.hid (hfn.below hb); clear hfn; have HB := Lib.hid (HB.out.trans (hb.mono HB.out.size)); clear hb)
      | (go_at_call 8; have hq := HFN2.out; clear HFN2; refine (HTF.out _ _ _ HB.out hq).mono ?_; clear hq; rintro e w' ⟨rfl, hb⟩; have hfn := HFN.out; clear HFN; have HFN := Lib.hid (hfn.below hb); clear hfn; have HB := Lib.hid (HB.out.trans (hb.mono HB.out.size)); clear hb)
      | (go_at_call 8; refine (HTF.out _ _ _ HB.out HFN.out).mono ?_; rintro e w' ⟨rfl, hb⟩; have hfn := HFN.out; clear HFN; have HFN := Lib.hid (hfn.below hb); clear hfn; have HB := Lib.hid (HB.out.trans (hb.mono HB.out.size)); clear hb))
      have HFS := Lib.hid (FS.mk (HN.out _ HB.out) HFN.out HB.out)
      clear HB HFN
      go_loopw [4] (fun i wr => ∃ (k : Nat), k ≤ l.length ∧ i = .int .i64 (k : Nat) ∧ Hid (FS W (some ⟨b0, o0, none⟩) c l g cap wr)) (fun i _ => l.length - (intOf i).toNat)
      case atStart => exact ⟨0, Nat.zero_le _, rfl, HFS⟩
      case round =>
        clear HFS
        obtain ⟨k, hk, rfl, HFS⟩ := hrel
        by_cases hlt2 : k < l.length
        · have hlt' : ((k : Nat) : Int) < ((l.length : Nat) : Int) := by omega
          have hws := HWF.out k hlt2
          have HEQ := fun W' => neq_set (s := foldW l[k].s) W'
          have COR := Lib.hid (fun (W : World) (bk : Nat) (h1 : bk < W.heap.size) (h2 : Ls W bk [l[k].s, foldW l[k].s]) => by
            have h3 := or_any [l[k].s, foldW l[k].s] bk W (wf_two hws (wf_foldW' hws)) (by simp) h1 h2
            rw [or_fold hws, SV_eq (wf_foldW' hws)] at h3
            exact h3)
          clear hws
          go_wp2
          refine wp_region_noPanic ?_
          refine wp_region_held_drew (S := fun w' => FS W (some ⟨b0, o0, none⟩) c l g cap w') (by kernel_rfl) ?_ (fun hHeld => ?_)
          · (try dsimp only); exact HFS.out.below (Below.refl _ _).drew
          clear HFS
          generalize wr.drew = w3 at *
          refine wpAnyH_take (i := 0) (oi := ?o0f) (v := ?v0f) ?hi0f (by kernel_rfl) (by kernel_rfl) (by kernel_rfl) (fun _ _ _ h => h) ?hy0f (by assumption) ?r0f
          case hi0f => simp only [List.getElem?_toArray, List.getElem?_cons_succ, List.getElem?_cons_zero]; rfl
          case hy0f => exact Or.inl ⟨by rfl, by (intro w hSw; (try dsimp only at hSw); (obtain ⟨⟨a1, a2, a3, a4⟩, b1, b2, b3, b4⟩ := hSw.cells hlt2); go_simp) <;> with_reducible rfl⟩
          try simp only [Act.put, List.setIfInBounds_toArray, List.set_cons_zero, List.set_cons_succ]
          refine wpAnyH_take (i := 1) (oi := ?o1f) (v := ?v1f) ?hi1f (by kernel_rfl) (by kernel_rfl) (by kernel_rfl) (fun _ _ _ h => h) ?hy1f (by assumption) ?r1f
          case hi1f => simp only [List.getElem?_toArray, List.getElem?_cons_succ, List.getElem?_cons_zero]; rfl
          case hy1f => exact Or.inl ⟨by rfl, by (intro w hSw; (try dsimp only at hSw); (obtain ⟨⟨a1, a2, a3, a4⟩, b1, b2, b3, b4⟩ := hSw.cells hlt2); go_simp) <;> with_reducible rfl⟩
          try simp only [Act.put, List.setIfInBounds_toArray, List.set_cons_zero, List.set_cons_succ]
          refine wpAnyH_take (i := 2) (oi := ?o2f) (v := ?v2f) ?hi2f (by kernel_rfl) (by kernel_rfl) (by kernel_rfl) (fun _ _ _ h => h) ?hy2f (by assumption) ?r2f
          case hi2f => simp only [List.getElem?_toArray, List.getElem?_cons_succ, List.getElem?_cons_zero]; rfl
          case hy2f => exact Or.inl ⟨by rfl, by (intro w hSw; (try dsimp only at hSw); (obtain ⟨⟨a1, a2, a3, a4⟩, b1, b2, b3, b4⟩ := hSw.cells hlt2); go_simp) <;> with_reducible rfl⟩
          try simp only [Act.put, List.setIfInBounds_toArray, List.set_cons_zero, List.set_cons_succ]
          refine wpAnyH_take (i := 3) (oi := ?o3f) (v := ?v3f) ?hi3f (by kernel_rfl) (by kernel_rfl) (by kernel_rfl) (fun _ _ _ h => h) ?hy3f (by assumption) ?r3f
          case hi3f => simp only [List.getElem?_toArray, List.getElem?_cons_succ, List.getElem?_cons_zero]; rfl
          case hy3f => exact Or.inl ⟨by rfl, by (intro w hSw; (try dsimp only at hSw); (obtain ⟨⟨a1, a2, a3, a4⟩, b1, b2, b3, b4⟩ := hSw.cells hlt2); go_simp) <;> with_reducible rfl⟩
          try simp only [Act.put, List.setIfInBounds_toArray, List.set_cons_zero, List.set_cons_succ]
          refine wpAnyH_take (i := 4) (oi := ?o4f) (v := ?v4f) ?hi4f (by kernel_rfl) (by kernel_rfl) (by kernel_rfl) (fun _ _ _ h => h) ?hy4f (by assumption) ?r4f
          case hi4f => simp only [List.getElem?_toArray, List.getElem?_cons_succ, List.getElem?_cons_zero]; rfl
          case hy4f => exact Or.inl ⟨by rfl, by (intro w hSw; (try dsimp only at hSw); (obtain ⟨⟨a1, a2, a3, a4⟩, b1, b2, b3, b4⟩ := hSw.cells hlt2); go_simp) <;> with_reducible rfl⟩
          try simp only [Act.put, List.setIfInBounds_toArray, List.set_cons_zero, List.set_cons_succ]
          refine wpAnyH_take (i := 5) (oi := ?o5f) (v := ?v5f) ?hi5f (by kernel_rfl) (by kernel_rfl) (by kernel_rfl) (fun _ _ _ h => h) ?hy5f (by assumption) ?r5f
          case hi5f => simp only [List.getElem?_toArray, List.getElem?_cons_succ, List.getElem?_cons_zero]; rfl
          case hy5f => exact Or.inl ⟨by rfl, by (intro w hSw; (try dsimp only at hSw); (obtain ⟨⟨a1, a2, a3, a4⟩, b1, b2, b3, b4⟩ := hSw.cells hlt2); go_simp) <;> with_reducible rfl⟩
          try simp only [Act.put, List.setIfInBounds_toArray, List.set_cons_zero, List.set_cons_succ]
          refine wpAnyH_take (i := 6) (oi := ?o6f) (v := ?v6f) ?hi6f (by kernel_rfl) (by kernel_rfl) (by kernel_rfl) (fun _ _ _ h => h) ?hy6f (by assumption) ?r6f
          case hi6f => simp only [List.getElem?_toArray, List.getElem?_cons_succ, List.getElem?_cons_zero]; rfl
          case hy6f => exact Or.inl ⟨by rfl, by (intro w hSw; (try dsimp only at hSw); (obtain ⟨⟨a1, a2, a3, a4⟩, b1, b2, b3, b4⟩ := hSw.cells hlt2); go_simp) <;> with_reducible rfl⟩
          try simp only [Act.put, List.setIfInBounds_toArray, List.set_cons_zero, List.set_cons_succ]
          refine wpAnyH_take (i := 7) (oi := ?o7f) (v := ?v7f) ?hi7f (by kernel_rfl) (by kernel_rfl) (by kernel_rfl) (fun _ _ _ h => h) ?hy7f (by assumption) ?r7f
          case hi7f => simp only [List.getElem?_toArray, List.getElem?_cons_succ, List.getElem?_cons_zero]; rfl
          case hy7f => exact Or.inl ⟨by rfl, by (intro w hSw; (try dsimp only at hSw); (obtain ⟨⟨a1, a2, a3, a4⟩, b1, b2, b3, b4⟩ := hSw.cells hlt2); go_simp) <;> with_reducible rfl⟩
          try simp only [Act.put, List.setIfInBounds_toArray, List.set_cons_zero, List.set_cons_succ]
          refine wpAnyH_take (i := 8) (oi := ?o8f) (v := ?v8f) ?hi8f (by kernel_rfl) (by kernel_rfl) (by kernel_rfl) (fun _ _ _ h => h) ?hy8f (by assumption) ?r8f
          case hi8f => simp only [List.getElem?_toArray, List.getElem?_cons_succ, List.getElem?_cons_zero]; rfl
          case hy8f => exact Or.inl ⟨by rfl, by (intro w hSw; (try dsimp only at hSw); (obtain ⟨⟨a1, a2, a3, a4⟩, b1, b2, b3, b4⟩ := hSw.cells hlt2); go_simp) <;> with_reducible rfl⟩
          try simp only [Act.put, List.setIfInBounds_toArray, List.set_cons_zero, List.set_cons_succ]
          refine wpAnyH_take (i := 9) (oi := ?o9f) (v := ?v9f) ?hi9f (by kernel_rfl) (by kernel_rfl) (by kernel_rfl) (fun _ _ _ h => h) ?hy9f (by assumption) ?r9f
          case hi9f => simp only [List.getElem?_toArray, List.getElem?_cons_succ, List.getElem?_cons_zero]; rfl
          case hy9f => exact Or.inl ⟨by rfl, by (intro w hSw; (try dsimp only at hSw); (obtain ⟨⟨a1, a2, a3, a4⟩, b1, b2, b3, b4⟩ := hSw.cells hlt2); go_simp) <;> with_reducible rfl⟩
          try simp only [Act.put, List.setIfInBounds_toArray, List.set_cons_zero, List.set_cons_succ]
          refine wpAnyH_take (i := 12) (oi := ?o12f) (v := ?v12f) ?hi12f (by kernel_rfl) (by kernel_rfl) (by kernel_rfl) (fun _ _ _ h => h) ?hy12f (by assumption) ?r12f
          case hi12f => simp only [List.getElem?_toArray, List.getElem?_cons_succ, List.getElem?_cons_zero]; rfl
          case hy12f => exact Or.inl ⟨by rfl, by (intro w hSw; (try dsimp only at hSw); (obtain ⟨⟨a1, a2, a3, a4⟩, b1, b2, b3, b4⟩ := hSw.cells hlt2); go_simp) <;> with_reducible rfl⟩
          try simp only [Act.put, List.setIfInBounds_toArray, List.set_cons_zero, List.set_cons_succ]
          refine wpAnyH_take (i := 13) (oi := ?o13f) (v := ?v13f) ?hi13f (by kernel_rfl) (by kernel_rfl) (by kernel_rfl) (fun _ _ _ h => h) ?hy13f (by assumption) ?r13f
          case hi13f => simp only [List.getElem?_toArray, List.getElem?_cons_succ, List.getElem?_cons_zero]; rfl
          case hy13f => exact Or.inl ⟨by rfl, by (intro w hSw; (try dsimp only at hSw); (obtain ⟨⟨a1, a2, a3, a4⟩, b1, b2, b3, b4⟩ := hSw.cells hlt2); go_simp) <;> with_reducible rfl⟩
          try simp only [Act.put, List.setIfInBounds_toArray, List.set_cons_zero, List.set_cons_succ]
          refine wpAnyH_take (i := 14) (oi := ?o14f) (v := ?v14f) ?hi14f (by kernel_rfl) (by kernel_rfl) (by kernel_rfl) (fun _ _ _ h => h) ?hy14f (by assumption) ?r14f
          case hi14f => simp only [List.getElem?_toArray, List.getElem?_cons_succ, List.getElem?_cons_zero]; rfl
          case hy14f => exact Or.inl ⟨by rfl, by (intro w hSw; (try dsimp only at hSw); (obtain ⟨⟨a1, a2, a3, a4⟩, b1, b2, b3, b4⟩ := hSw.cells hlt2); go_simp) <;> with_reducible rfl⟩
          try simp only [Act.put, List.setIfInBounds_toArray, List.set_cons_zero, List.set_cons_succ]
          refine wpAnyH_take (i := 15) (oi := ?o15f) (v := ?v15f) ?hi15f (by kernel_rfl) (by kernel_rfl) (by kernel_rfl) (fun _ _ _ h => h) ?hy15f (by assumption) ?r15f
          case hi15f => simp only [List.getElem?_toArray, List.getElem?_cons_succ, List.getElem?_cons_zero]; rfl
          case hy15f => exact Or.inl ⟨by rfl, by (intro w hSw; (try dsimp only at hSw); (obtain ⟨⟨a1, a2, a3, a4⟩, b1, b2, b3, b4⟩ := hSw.cells hlt2); go_simp) <;> with_reducible rfl⟩
          try simp only [Act.put, List.setIfInBounds_toArray, List.set_cons_zero, List.set_cons_succ]
          refine wpAnyH_take (i := 16) (oi := ?o16f) (v := ?v16f) ?hi16f (by kernel_rfl) (by kernel_rfl) (by kernel_rfl) (fun _ _ _ h => h) ?hy16f (by assumption) ?r16f
          case hi16f => simp only [List.getElem?_toArray, List.getElem?_cons_succ, List.getElem?_cons_zero]; rfl
          case hy16f => exact Or.inl ⟨by rfl, by (intro w hSw; (try dsimp only at hSw); (obtain ⟨⟨a1, a2, a3, a4⟩, b1, b2, b3, b4⟩ := hSw.cells hlt2); go_simp) <;> with_reducible rfl⟩
          try simp only [Act.put, List.setIfInBounds_toArray, List.set_cons_zero, List.set_cons_succ]
          refine wpAnyH_ready (rs := [10]) (by kernel_rfl) (by simp) ?_
          refine AllReadyH.cons (o := ?o10f) ?hi10f (fun K hK => ?st10f) AllReadyH.nil
          case hi10f => simp only [List.getElem?_toArray, List.getElem?_cons_succ, List.getElem?_cons_zero]; rfl
          go_simp
          refine hK.out _ _ ?_ (fun hHeld => ?_)
          · (try dsimp only); (exact hHeld.below ((Below.refl _ _).alloc (Nat.le_refl _) _))
          clear hK K
          try simp only [Act.put, List.setIfInBounds_toArray, List.set_cons_zero, List.set_cons_succ]
          have HLS := Lib.hid (@ls2 _ w3.heap.size l[k].s (foldW l[k].s) _ _ (heap_alloc_new w3 (.cells #[U (word l[k].s 0), U (word l[k].s 1), U (word l[k].s 2), U (word l[k].s 3), U (word (foldW l[k].s) 0), U (word (foldW l[k].s) 1), U (word (foldW l[k].s) 2), U (word (foldW l[k].s) 3)] 37)))
          refine wpAnyH_ready (rs := [11]) (by kernel_rfl) (by simp) ?_
          refine AllReadyH.cons (o := ?o11f) ?hi11f (fun K hK => ?st11f) AllReadyH.nil
          case hi11f => simp only [List.getElem?_toArray, List.getElem?_cons_succ, List.getElem?_cons_zero]; rfl
          go_simp
          (go_at_call 16; refine (COR.out _ _ (by simp) HLS.out).mono ?_; rintro e w4 ⟨rfl, hbl⟩)
          refine hK.out _ _ ?_ (fun hHeld => ?_)
          · (try dsimp only); (exact hHeld.below hbl)
          clear hK K
          try simp only [Act.put, List.setIfInBounds_toArray, List.set_cons_zero, List.set_cons_succ]
          refine wpAnyH_take (i := 17) (oi := ?o17f) (v := ?v17f) ?hi17f (by kernel_rfl) (by kernel_rfl) (by kernel_rfl) (fun _ _ _ h => h) ?hy17f (by assumption) ?r17f
          case hi17f => simp only [List.getElem?_toArray, List.getElem?_cons_succ, List.getElem?_cons_zero]; rfl
          case hy17f => exact Or.inl ⟨by rfl, by (intro w hSw; (try dsimp only at hSw); (obtain ⟨⟨a1, a2, a3, a4⟩, b1, b2, b3, b4⟩ := hSw.cells hlt2); go_simp) <;> with_reducible rfl⟩
          try simp only [Act.put, List.setIfInBounds_toArray, List.set_cons_zero, List.set_cons_succ]
          refine wpAnyH_done (by kernel_rfl) ?_ _
          refine NoPanic.normal ?_
          have HFS := Lib.hid hHeld
          clear hHeld
          go_wp2
          go_roundw
          case rel => exact ⟨k + 1, by omega, by go_num, HFS⟩
          case measure => simp [intOf]; omega
        · obtain rfl : k = l.length := by omega
          go_wp2
          go_ret
          exact ⟨rfl, HFS.out.bel⟩
  · have hgt : (130 : Int) < ((l.length : Nat) : Int) := by omega
    clear HN hlen m F HM0
    go_enter Tryd.func6, Tryd.ntmps6
    go_wp2_with (go_at_call 7; refine (HSH.out _ HB.out).mono ?_; rintro e w' ⟨rfl, hb⟩; have HB := Lib.hid (HB.out.trans (hb.mono HB.out.size)); clear hb)
    go_ret
    exact ⟨rfl, HB.out⟩
end Go.Proofs.YtdjedjfanfbbcaaDoor.Rx
