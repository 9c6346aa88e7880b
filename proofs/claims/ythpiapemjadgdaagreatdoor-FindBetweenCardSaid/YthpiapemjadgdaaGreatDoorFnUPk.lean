/- FindBetween: the walk. -/
import Derived.Test.YthpiapemjadgdaaGreatDoorFnTPk
import Derived.Test.YthpiapemjadgdaaGreatDoorBk08
namespace Go.Proofs.YthpiapemjadgdaaGreatDoor.Mt
open Go.RowKit Go.Shelf
open Go.Proofs.YthpiapemjadgdaaGreatDoor.Rx
open Go.Proofs.YthpiapemjadgdaaGreatDoor.Fn
set_option linter.unusedVariables false
set_option linter.unusedSimpArgs false
theorem caps_same {N : Nat} (hN : N ≤ 999999999) {c : Caps} (hc : CapsOk N c) (W : World) : (Op.equalIn 10000 27 (CV c) (CV c)).run Tryz.prog W = .ok true W := by
  rw [show (10000 : Nat) = 9998 + 2 from rfl, run_eq_caps Tryz.underlying27 hN hc hc]
  simp
/-- Where the one ahead of a find ended, and one more (0: there is none). -/
def laOf (L : List Caps) : Nat → Nat
  | 0 => 0
  | p + 1 => match L[p]? with
    | some b => to0 b + 1
    | none => 0
theorem ch_la {F : Nat → Option Caps} {N : Nat} {L : List Caps} (h : Ch F N 0 L) {i : Nat} {c : Caps} (hi : L[i]? = some c) :
    F (from0 c) = some c ∧ laOf L i - 1 ≤ from0 c ∧ ∀ k d, laOf L i - 1 ≤ k → k < from0 c → F k = some d → k + 1 = laOf L i ∧ to0 d = from0 d := by
  obtain ⟨lb, a0, a1, x1, x2, x3, _⟩ := ch_at h hi
  have e : laOf L i = lb := by
    cases i with
    | zero => exact (a0 rfl).symm
    | succ p =>
      obtain ⟨b, hb, hl⟩ := a1 p rfl
      show (match L[p]? with | some b => to0 b + 1 | none => 0) = lb
      rw [hb, hl]
  rw [e]
  exact ⟨x1, x2, x3⟩
set_option maxRecDepth 100000 in
set_option maxHeartbeats 6400000 in
theorem between_core (hna : NoneOk) (W : World) (ao : Option Addr) (n cc : Nat) (T : List UInt8) (hT : T.length ≤ 100) (F : Nat → Option Caps) (hF : FOk T.length F)
    (hbd : ∀ W' : World, Calls Tryz.prog 12 #[.slice ao n cc, S T] W fun e w' => e = .returned (.bool true) ∧ W = w')
    (hsh : ∀ W' : World, Below W.heap.size W W' → Calls Tryz.prog 13 #[] W' fun e w' => e = .returned (.bool true) ∧ Below W'.heap.size W' w')
    (hlo : LongOk W (.slice ao n cc) T F) :
    Calls Tryz.prog 5 #[.slice ao n cc, S T] W fun e W' => e = .returned (.bool true) ∧ Below W.heap.size W W' := by
  have HB0 := Lib.hid (Below.refl W.heap.size W)
  have HBD := Lib.hid hbd
  have HSH := Lib.hid hsh
  have HAL := Lib.hid (fun (W' : World) (hb : Below W.heap.size W W') => all_any hna ao n cc T (by omega) F hF W' (hlo.below hb))
  have HLO := Lib.hid hlo
  have HT := Lib.hid hT
  have HF := Lib.hid hF
  have HCH := Lib.hid (all_ch hF)
  have HLL := Lib.hid (show (allF F T.length).length ≤ 1000 from by have := fin_len F T.length (2 * (T.length + 1) + 1) 0 0; unfold allF; omega)
  clear hbd hsh hlo hT hF hna
  generalize allF F T.length = L at *
  go_enter Tryz.func5, Tryz.ntmps5
  rw [show Code.region 16 = Fz 16 from rfl]
  go_wp2_with (first
    | (go_at_call 12; refine (HBD.out W).mono ?_; rintro e w1 ⟨rfl, rfl⟩)
    | (go_at_call 13; refine (HSH.out _ HB0.out).mono ?_; rintro e w2 ⟨rfl, hb⟩; have HB1 := Lib.hid (HB0.out.trans (hb.mono HB0.out.size)); clear hb)
    | (go_at_call 19; refine (HAL.out _ HB1.out).mono ?_; rintro e we ⟨v, rfl, ho, hb⟩; obtain ⟨ae, cap, rfl, hcap, hcs⟩ := caps_form ho; have HCS := Lib.hid hcs; have HBE := Lib.hid (HB1.out.trans (hb.mono HB1.out.size)); clear hb hcs ho))
  go_loopw [6, 7] (fun lv iv wr => ∃ i : Nat, i ≤ L.length ∧ iv = .int .i64 (i : Nat) ∧ lv = .int .i64 ((laOf L i : Int) - 1) ∧ Hid (Below W.heap.size W wr) ∧ Hid (CsIn wr ae L)) (fun _ iv _ => L.length - (intOf iv).toNat)
  case atStart => exact ⟨0, Nat.zero_le _, rfl, rfl, HBE, HCS⟩
  case round =>
    clear HBE HCS
    obtain ⟨i, hi, rfl, rfl, HB, HC⟩ := hrel
    by_cases hlt : i < L.length
    · obtain ⟨c, hc⟩ : ∃ c, L[i]'hlt = c := ⟨_, rfl⟩
      have hic : L[i]? = some c := by rw [List.getElem?_eq_getElem hlt, hc]
      obtain ⟨x1, x2, x3⟩ := ch_la HCH.out hic
      obtain ⟨g, hg, hy, z1⟩ := HC.out i hlt
      rw [hc] at hy z1
      have hgr := HF.out.gr0 _ _ x1
      have hto := HF.out.to _ _ x1
      have hcok := HF.out.caps _ _ x1
      rw [hgr] at hy
      have hN9 : T.length ≤ 999999999 := by have := HT.out; omega
      have hok : CapOk T.length (some (from0 c, to0 c)) := ⟨hto.1, hto.2⟩
      have HFR := Lib.hid (fun W => from_cap hN9 hok W)
      have HTO := Lib.hid (fun W => to_cap hN9 hok W)
      have HNE := Lib.hid (fun W => caps_same hN9 hcok W)
      have hnx : laOf L (i + 1) = to0 c + 1 := by
        show (match L[i]? with | some b => to0 b + 1 | none => 0) = _
        rw [hic]
      have HNX := Lib.hid hnx
      have HLQ := Lib.hid (fun (W' : World) (hb : Below W.heap.size W W') => HLO.out W' (from0 c) hb (by have := hto.1; have := hto.2; omega))
      have HLF := Lib.hid (fun (W' : World) (k : Nat) (hk : k ≤ from0 c) (hb : Below W.heap.size W W') => HLO.out W' k hb (by have := hto.1; have := hto.2; omega))
      have hq := HLQ.out
      rw [x1] at hq
      have HLQ := Lib.hid hq
      have HX3 := Lib.hid x3
      have HAB := Lib.hid (show from0 c ≤ to0 c ∧ to0 c ≤ T.length from hto)
      obtain ⟨A, hA⟩ : ∃ A, from0 c = A := ⟨_, rfl⟩
      obtain ⟨B, hB⟩ : ∃ B, to0 c = B := ⟨_, rfl⟩
      obtain ⟨la, hla⟩ : ∃ la, laOf L i = la := ⟨_, rfl⟩
      obtain ⟨s, hs⟩ : ∃ s, la - 1 = s := ⟨_, rfl⟩
      have y1 := HFR.out
      have y2 := HTO.out
      have y3 := HNX.out
      have y4 := HLQ.out
      have y5 := HLF.out
      have y6 := HX3.out
      have y7 := HAB.out
      have hgr2 := hgr
      clear HFR HTO HNX HLQ HLF HX3 HAB hq hto hgr hok hcok x1 x3 hnx
      simp only [hA, hB] at y1 y2 y3 y4 y5 y7 hy x2 hgr2
      simp only [hA, hla, hs] at y6 x2
      rw [hla]
      have HFR := Lib.hid y1
      have HTO := Lib.hid y2
      have HNX := Lib.hid y3
      have HLQ := Lib.hid y4
      have HLF := Lib.hid y5
      have HX3 := Lib.hid y6
      have HAB := Lib.hid y7
      have HSA := Lib.hid (show s ≤ A from x2)
      have HSL := Lib.hid hs
      have hla1 : (la : Int) ≤ 1000 := by have := HAB.out; have := HT.out; omega
      have hmx : max ((la : Int) - 1) 0 = (s : Int) := by omega
      have k2 : (0 : Int) ≤ (i : Int) := by omega
      have k3 : (i : Int) < (L.length : Int) := by omega
      have hwi : IntKind.i64.wrap ((i : Int) + 1) = (i : Int) + 1 := by rw [IntKind.wrap_i64]; have := HLL.out; omega
      have HI := Lib.hid hlt
      have HIC := Lib.hid hc
      subst hg
      clear y1 y2 y3 y4 y5 y6 y7 x2 hA hB hla hs hi hic z1 hN9
      have HG := Lib.hid (show gr c 0 = some (A, B) from hgr2)
      clear hgr2
      go_wp2_with (go_at_call 22; refine (HFR.out _).mono ?_; rintro e w5 ⟨rfl, rfl⟩)
      clear hy
      go_loopw [9] (fun kv wr2 => ∃ k : Nat, s ≤ k ∧ k ≤ A ∧ kv = .int .i64 (k : Nat) ∧ Hid (Below W.heap.size W wr2) ∧ Hid (CsIn wr2 (some ⟨g, 0, none⟩) L)) (fun kv _ => A - (intOf kv).toNat)
      case atStart => exact ⟨s, Nat.le_refl _, HSA.out, rfl, HB, HC⟩
      case round =>
        clear HB HC
        obtain ⟨k, hk1, hk2, rfl, HBk, HCk⟩ := hrel
        by_cases hlt2 : k < A
        · have hkA : (k : Int) < (A : Int) := by omega
          have hwk : IntKind.i64.wrap ((k : Int) + 1) = (k : Int) + 1 := by rw [IntKind.wrap_i64]; have := HAB.out; have := HT.out; omega
          have HK := Lib.hid (And.intro hk1 hlt2)
          cases hFk : F k with
          | none =>
            have hlq := fun (W' : World) (hb : Below W.heap.size W W') => HLF.out W' k hk2 hb
            rw [hFk] at hlq
            have HLK := Lib.hid hlq
            clear hlq hk1 hk2 hlt2 hFk
            go_wp2_with (first
              | (go_at_call 23; refine (HLK.out _ HBk.out).mono ?_; rintro e w3 ⟨he, hb⟩; rw [show ansC none = .tuple #[CV nones, .bool false] from rfl] at he; subst he; have HB3 := Lib.hid (HBk.out.trans (hb.mono HBk.out.size)); have HC3 := Lib.hid (HCk.out.below hb); clear hb)
              | (refine wpList_store_row rfl 27 (.tmp 10) (.tmp 50) rfl _ (CC nones) rfl rfl _ CZ (heap_alloc_new _ _) (by kernel_rfl) rfl (cc_one nones) ?_; simp only [Act.put, List.setIfInBounds_toArray, List.set_cons_zero, List.set_cons_succ]; rw [box_laid]; have hbb := (Below.refl w3.heap.size w3).alloc (Nat.le_refl _) (.cells (CC nones) 27); have HB4 := Lib.hid (HB3.out.trans (hbb.mono HB3.out.size)); have HC4 := Lib.hid (HC3.out.below hbb); have HX4 := Lib.hid (heap_alloc_new w3 (.cells (CC nones) 27)); clear hbb; generalize World.alloc _ _ = W4 at HB4 HC4 HX4 ⊢))
            go_roundw
            case rel => exact ⟨k + 1, by have := HK.out; omega, by have := HK.out; omega, by go_num, HB4, HC4⟩
            case measure => have := HK.out; simp [intOf]; omega
          | some d =>
            have hlq := fun (W' : World) (hb : Below W.heap.size W W') => HLF.out W' k hk2 hb
            rw [hFk] at hlq
            have HLK := Lib.hid hlq
            obtain ⟨e1, e2⟩ := HX3.out k d hk1 hlt2 hFk
            have e3 := HF.out.at0 k d hFk
            have e4 := HF.out.gr0 k d hFk
            rw [e2, e3] at e4
            have HGD := Lib.hid e4
            have HLE := Lib.hid (fun (W : World) => show Calls Tryz.prog 24 #[capV (some (k, k))] W fun e w' => e = .returned (E 0) ∧ W = w' from by
              have h := len_cap (N := T.length) (i := k) (j := k) (by have := HT.out; omega) ⟨Nat.le_refl _, by have := HAB.out; omega⟩ W
              rw [Nat.sub_self] at h
              exact h)
            have hkl : ((k : Int) == (la : Int) - 1) = true := by rw [beq_iff_eq]; omega
            have hkn : ((k : Int) != (la : Int) - 1) = false := by rw [bne_eq_false_iff_eq]; omega
            clear hlq hk1 hk2 hlt2 hFk e1 e2 e3 e4
            go_wp2_with (first
              | (go_at_call 23; refine (HLK.out _ HBk.out).mono ?_; rintro e w3 ⟨he, hb⟩; rw [show ansC (some d) = .tuple #[CV d, .bool true] from rfl] at he; subst he; have HB3 := Lib.hid (HBk.out.trans (hb.mono HBk.out.size)); have HC3 := Lib.hid (HCk.out.below hb); clear hb)
              | (refine wpList_store_row rfl 27 (.tmp 10) (.tmp 50) rfl _ (CC d) rfl rfl _ CZ (heap_alloc_new _ _) (by kernel_rfl) rfl (cc_one d) ?_; simp only [Act.put, List.setIfInBounds_toArray, List.set_cons_zero, List.set_cons_succ]; rw [box_laid]; have hbb := (Below.refl w3.heap.size w3).alloc (Nat.le_refl _) (.cells (CC d) 27); have HB4 := Lib.hid (HB3.out.trans (hbb.mono HB3.out.size)); have HC4 := Lib.hid (HC3.out.below hbb); have HX4 := Lib.hid (heap_alloc_new w3 (.cells (CC d) 27)); clear hbb; generalize World.alloc _ _ = W4 at HB4 HC4 HX4 ⊢; have cx := cap_cell HX4.out (n := 0) (by decide); rw [HGD.out] at cx)
              | (go_at_call 24; refine (HLE.out _).mono ?_; rintro e w7 ⟨rfl, rfl⟩))
            go_roundw
            case rel => exact ⟨k + 1, by have := HK.out; omega, by have := HK.out; omega, by go_num, HB4, HC4⟩
            case measure => have := HK.out; simp [intOf]; omega
        · have hkA : ¬ (k : Int) < (A : Int) := by omega
          clear hk1 hk2 hlt2
          go_wp2_with (first
            | (go_at_call 23; refine (HLQ.out _ HBk.out).mono ?_; rintro e w3 ⟨he, hb⟩; rw [show ansC (some c) = .tuple #[CV c, .bool true] from rfl] at he; subst he; have HB3 := Lib.hid (HBk.out.trans (hb.mono HBk.out.size)); have HC3 := Lib.hid (HCk.out.below hb); clear hb)
            | (refine wpList_store_row rfl 27 (.tmp 12) (.tmp 69) rfl _ (CC c) rfl rfl _ CZ (heap_alloc_new _ _) (by kernel_rfl) rfl (cc_one c) ?_; simp only [Act.put, List.setIfInBounds_toArray, List.set_cons_zero, List.set_cons_succ]; rw [box_laid]; have hbb := (Below.refl w3.heap.size w3).alloc (Nat.le_refl _) (.cells (CC c) 27); have HB4 := Lib.hid (HB3.out.trans (hbb.mono HB3.out.size)); have HC4 := Lib.hid (HC3.out.below hbb); have HX4 := Lib.hid (heap_alloc_new w3 (.cells (CC c) 27)); clear hbb; generalize World.alloc _ _ = W4 at HB4 HC4 HX4 ⊢))
          obtain ⟨g', hg', hcl, hrg⟩ := HC4.out i HI.out
          obtain rfl : g = g' := by simpa using hg'
          rw [HIC.out] at hcl hrg
          rw [HG.out] at hcl
          clear hg'
          rw [show Fz 16 = Code.region 16 from rfl]
          refine wp_region_noPanic ?_
          refine wp_region_held_drew (S := fun w' => CB w' w3.heap.size c ∧ w'.rangeAt g (i * 10) (CC c).toList) (by kernel_rfl) ?_ (fun hHeld => ?_)
          · exact ⟨HX4.out, hrg⟩
          have HB9 := Lib.hid (show Below W.heap.size W W4.drew from HB4.out.drew)
          have HC9 := Lib.hid (show CsIn W4.drew (some ⟨g, 0, none⟩) L from HC4.out)
          have hcl9 : W4.drew.cell? ⟨g, i * 10, none⟩ = some (capV (some (A, B))) := hcl
          clear hcl hrg HB4 HC4 HX4
          generalize World.drew _ = W9 at HB9 HC9 hcl9 hHeld ⊢
          refine Tk.t 0 ?_
          refine Tk.t 1 ?_
          refine Tk.t 2 ?_
          refine Tk.t 3 (hy := fun wv hSw => exec_load_row 27 (.tmp 12) rfl w3.heap.size rfl _ (CC c) _ _ hSw.1 Tryz.underlying27 rfl (by kernel_rfl)) ?_
          refine Tk.t 4 ?_
          refine Tk.t 5 ?_
          refine Tk.t 6 ?_
          refine Tk.t 7 (hy := fun wv hSw => exec_load_mid 27 (.tmp 77) rfl g (i * 10) rfl (CC c).toList _ hSw.2 Tryz.underlying27 rfl (by kernel_rfl)) ?_
          refine Tk.t 8 (hy := by (intro w hSw; have hq := HNE.out w; go_simp) <;> with_reducible rfl) ?_
          refine Tk.t 9 ?_
          refine Tk.d ?_
          clear hHeld
          go_wp2_with (go_at_call 25; refine (HTO.out _).mono ?_; rintro e w7 ⟨rfl, rfl⟩)
          go_roundw
          case rel => exact ⟨i + 1, by have := HI.out; omega, by go_num, by rw [HNX.out, show (((B + 1 : Nat) : Int) - 1) = (B : Int) from by omega], HB9, HC9⟩
          case measure => have := HI.out; simp [intOf]; omega
    · have hnl : ¬ (i : Int) < (L.length : Int) := by omega
      clear hi hlt
      go_wp2
      go_ret
      exact ⟨rfl, HB.out⟩
end Go.Proofs.YthpiapemjadgdaaGreatDoor.Mt
