/- Patterns: slices.Clone and Fold: the walks. -/
import Derived.Test.YtdjedjfanfbbcaaGreatDoorRxOwn
import Derived.Test.YtdjedjfanfbbcaaGreatDoorRxLook
import Derived.Test.YtdjedjfanfbbcaaGreatDoorRxC
import Derived.Test.YtdjedjfanfbbcaaGreatDoorRxFo
namespace Go.Proofs.YtdjedjfanfbbcaaGreatDoor.Rx
open Go.RowKit Go.Shelf
open Go.Proofs.YtdjedjfanfbbcaaGreatDoor.St (Wf word zeroW Tab SV SV_eq foldW fold_any wf_foldW')
open Tr
set_option linter.unusedVariables false
set_option linter.unusedSimpArgs false
set_option maxRecDepth 100000 in
set_option maxHeartbeats 1600000 in
theorem clone_any (b o c : Nat) (l : List Nd) (w : World) (h : Ns w (.slice (some ⟨b, o, none⟩) l.length c) l) (hl0 : 0 < l.length) (hl : l.length ≤ 120) :
    Calls Tryz.prog 31 #[.slice (some ⟨b, o, none⟩) l.length c] w fun e w' => ∃ g cap, e = .returned (.slice (some ⟨g, 0, none⟩) l.length cap) ∧ w'.ownsRow w.heap.size 45 10 (.slice (some ⟨g, 0, none⟩) l.length cap) l.length (flat l) ∧ Below w.heap.size w w' := by
  obtain ⟨i0, hi, hz0, hz1, hz2⟩ := info_parts infoNd
  have HNS := Lib.hid (Ns.below h ((Below.refl w.heap.size w).alloc (Nat.le_refl _) (.cells #[] 45)))
  have HL := Lib.hid (flat_len l)
  have he : ∀ w : World, (binOp .eql 23 (.slice (some ⟨b, o, none⟩) l.length c) (.slice none 0 0)).run Tryz.prog w = .ok (.bool false) w := fun _ => rfl
  clear h
  have HOm := Lib.hid (World.ownsRow_lit (size := 10) (e := 45) (base := w.heap.size) w #[] 0 (Nat.le_refl _) (by decide) rfl)
  go_enter Tryz.func31, Tryz.ntmps31
  go_wp2_with (at_builtin; refine wpList_append_own _ rfl _ _ 23 rfl w.heap.size 45 i0 _ 10 80 Tryz.underlying23 hi hz0 hz1 hz2 rfl (by decide) _ _ _ rfl HOm.out ⟨b, o, none⟩ l.length c (flat l) rfl HL.out (ns_news HNS.out) (flat_cells l) (by unfold maxLen; omega) (by omega) (by simp) ?_)
  rintro v' w4 hown hgrow -
  have HB := Lib.hid (((Below.refl w.heap.size w).alloc (Nat.le_refl _) (.cells #[] 45)).grown hgrow (by simp) (own_ge HOm.out))
  obtain ⟨g, cap, rfl, hcap⟩ : ∃ g cap, v' = .slice (some ⟨g, 0, none⟩) l.length cap ∧ l.length ≤ cap := by
    rcases own_forms hown with ⟨rfl, h0⟩ | ⟨g, cap, rfl, hc⟩
    · omega
    · exact ⟨g, cap, rfl, hc⟩
  have HO := Lib.hid hown
  clear hown hgrow
  go_wp2
  go_ret
  exact ⟨g, cap, rfl, by have := HO.out; simpa using this, HB.out⟩
/-- The nodes up to a place folded. -/
def mixL (l : List Nd) (k : Nat) : List Nd := (l.take k).map foldN ++ l.drop k
theorem mix_len (l : List Nd) (k : Nat) (h : k ≤ l.length) : (mixL l k).length = l.length := by unfold mixL; simp; omega
theorem mix_at {l : List Nd} {k : Nat} (h : k < l.length) : (mixL l k)[k]? = some l[k] := by
  unfold mixL
  rw [List.getElem?_append_right (by simp; omega)]
  simp
  rw [show k - min k l.length = 0 by omega, Nat.add_zero, List.getElem?_eq_getElem h]
theorem mix_set {l : List Nd} {k : Nat} (h : k < l.length) : (mixL l k).set k (foldN l[k]) = mixL l (k + 1) := by
  unfold mixL
  rw [List.set_append_right _ _ (by simp; omega)]
  rw [show k - ((l.take k).map foldN).length = 0 by simp; omega]
  rw [List.drop_eq_getElem_cons h, List.set_cons_zero, List.take_succ_eq_append_getElem h, List.map_append]
  simp
set_option maxRecDepth 100000 in
set_option maxHeartbeats 1600000 in
theorem foldW_any (b o c : Nat) (l : List Nd) (w : World) (h : Ns w (.slice (some ⟨b, o, none⟩) l.length c) l) (hw : ∀ n ∈ l, Wf n.s) (hL : Lay w) (hm : mayL l = true) (hl0 : 0 < l.length) (hl : l.length ≤ 120) :
    Calls Tryz.prog 18 #[.slice (some ⟨b, o, none⟩) l.length c] w fun e w' => ∃ g cap, e = .returned (.slice (some ⟨g, 0, none⟩) l.length cap) ∧ w'.ownsRow w.heap.size 45 10 (.slice (some ⟨g, 0, none⟩) l.length cap) l.length (flat (l.map foldN)) ∧ Below w.heap.size w w' := by
  have HM0 := may_any (some ⟨b, o, none⟩) c l w h hw
  rw [hm] at HM0
  have HM := Lib.hid HM0
  have HL := Lib.hid hL
  have HC := Lib.hid (fun W (hb : Below w.heap.size w W) => clone_any b o c l W (h.below hb) hl0 hl)
  clear HM0 hL h hm
  go_enter Tryz.func18, Tryz.ntmps18
  go_wp2_with (first
    | (go_at_call 10; refine HM.out.mono ?_; rintro e w0 ⟨rfl, hb⟩; have HB0 := Lib.hid hb; clear hb)
    | (go_at_call 31; refine (HC.out _ HB0.out).mono ?_; rintro e w1 ⟨g, cap, rfl, ho, hb⟩; have HO0 := Lib.hid (Go.Joins.ownsRow_le ho HB0.out.size); have HB1 := Lib.hid (HB0.out.trans (hb.mono HB0.out.size)); clear ho hb))
  go_loopw [11] (fun i wr => ∃ (k : Nat), k ≤ l.length ∧ i = .int .i64 (k : Nat) ∧ Hid (wr.ownsRow w.heap.size 45 10 (.slice (some ⟨g, 0, none⟩) l.length cap) l.length (flat (mixL l k))) ∧ Hid (Below w.heap.size w wr)) (fun i _ => l.length - (intOf i).toNat)
  case atStart => exact ⟨0, Nat.zero_le _, rfl, Lib.hid (by have := HO0.out; simpa [mixL] using this), HB1⟩
  case round =>
    clear HO0 HB0 HB1
    obtain ⟨k, hk, rfl, HO, HB⟩ := hrel
    by_cases hlt : k < l.length
    · have hlt' : ((k : Nat) : Int) < ((l.length : Nat) : Int) := by omega
      have hml := mix_len l k hk
      have hmx := mix_at hlt
      have hwn : Wf l[k].s := hw _ (List.getElem_mem _)
      have hmk : k < (mixL l k).length := by omega
      have hme : (mixL l k)[k] = l[k] := by rw [List.getElem?_eq_getElem hmk] at hmx; exact Option.some.inj hmx
      have hc : ∀ r, r < 10 → ∀ W, Below wr.heap.size wr W → W.cell? ⟨g, k * 10 + r, none⟩ = (NC l[k])[r]? := fun r hr W hb => by
        rw [(own_below HO.out hb).cellAt _ (by omega), flat_get _ k hmk r hr, hme]
      have HC4 := Lib.hid hc
      have HFZ := Lib.hid (fun r W (hb : Below wr.heap.size wr W) => (own_below HO.out hb).frozenAt (k * 10 + r))
      have q1 := hc 1 (by decide) wr (Below.refl _ _)
      have q2 := hc 2 (by decide) wr (Below.refl _ _)
      have q3 := hc 3 (by decide) wr (Below.refl _ _)
      have q4 := hc 4 (by decide) wr (Below.refl _ _)
      clear hc
      have HN := Lib.hid (show mixL l (k + 1) = (mixL l k).set k ⟨(mixL l k)[k].k, foldW l[k].s, (mixL l k)[k].a, (mixL l k)[k].b, (mixL l k)[k].mn, (mixL l k)[k].mx, (mixL l k)[k].n⟩ from by rw [← mix_set hlt, hme]; rfl)
      have CF := Lib.hid (fun W (hb : Below wr.heap.size wr W) => by
        have hla := HL.out.below (HB.out.trans (hb.mono HB.out.size))
        have h1 := fold_any l[k].s W hwn hla.tl hla.tab
        rw [SV_eq hwn, SV_eq (wf_foldW' hwn)] at h1
        exact h1)
      go_wp2_with (go_at_call 32; refine (CF.out _ (Below.refl _ _)).mono ?_; rintro e w2 ⟨rfl, hb2⟩; have HB2 := Lib.hid hb2; have p1 := HC4.out 1 (by decide) _ hb2; have p2 := HC4.out 2 (by decide) _ hb2; have p3 := HC4.out 3 (by decide) _ hb2; have p4 := HC4.out 4 (by decide) _ hb2; have z1 := HFZ.out 1 _ hb2; have z2 := HFZ.out 2 _ hb2; have z3 := HFZ.out 3 _ hb2; have z4 := HFZ.out 4 _ hb2; clear hb2)
      have hge := own_ge HO.out g rfl
      have O2 := (own_below HO.out HB2.out).stored (k * 10 + 1) (U (word (foldW l[k].s) 0))
      have O3 := O2.1.stored (k * 10 + 2) (U (word (foldW l[k].s) 1))
      have O4 := O3.1.stored (k * 10 + 3) (U (word (foldW l[k].s) 2))
      have O5 := O4.1.stored (k * 10 + 4) (U (word (foldW l[k].s) 3))
      refine ⟨⟨k + 1, by omega, by go_num, Lib.hid ?_, Lib.hid ?_⟩, by simp [intOf]; omega⟩
      · rw [HN.out, ← flat_set _ _ hmk]
        exact O5.1
      · exact ((((HB.out.trans (HB2.out.mono HB.out.size)).setCell hge _).setCell hge _).setCell hge _).setCell hge _
    · obtain rfl : k = l.length := by omega
      have HO2 := Lib.hid (show wr.ownsRow w.heap.size 45 10 (.slice (some ⟨g, 0, none⟩) l.length cap) l.length (flat (l.map foldN)) from by have := HO.out; simpa [mixL] using this)
      clear HO
      go_wp2
      go_ret
      exact ⟨g, cap, rfl, HO2.out, HB.out⟩
set_option maxRecDepth 100000 in
theorem foldW_none (ao : Option Addr) (c : Nat) (l : List Nd) (w : World) (h : Ns w (.slice ao l.length c) l) (hw : ∀ n ∈ l, Wf n.s) (hm : mayL l = false) :
    Calls Tryz.prog 18 #[.slice ao l.length c] w fun e w' => e = .returned (.slice none 0 0) ∧ Below w.heap.size w w' := by
  have HM0 := may_any ao c l w h hw
  rw [hm] at HM0
  have HM := Lib.hid HM0
  clear HM0 h hm hw
  go_enter Tryz.func18, Tryz.ntmps18
  go_wp2_with (go_at_call 10; refine HM.out.mono ?_; rintro e w0 ⟨rfl, hb⟩; have HB0 := Lib.hid hb; clear hb)
  go_ret
  exact ⟨rfl, HB0.out⟩
end Go.Proofs.YtdjedjfanfbbcaaGreatDoor.Rx
