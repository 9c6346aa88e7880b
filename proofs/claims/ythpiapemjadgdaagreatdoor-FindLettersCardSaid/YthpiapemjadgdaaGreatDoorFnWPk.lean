/- Finds: the first one, and whether there is one: the walks. -/
import Derived.Test.YthpiapemjadgdaaGreatDoorFnPPk
import Derived.Test.YthpiapemjadgdaaGreatDoorBk07
import Derived.Deep.LoopGhost
namespace Go.Proofs.YthpiapemjadgdaaGreatDoor.Mt
open Go.RowKit Go.Shelf
open Go.Proofs.YthpiapemjadgdaaGreatDoor.Rx
open Go.Proofs.YthpiapemjadgdaaGreatDoor.Fn
open Go.Proofs.YthpiapemjadgdaaGreatDoor.St (Wf word mem)
set_option linter.unusedVariables false
set_option linter.unusedSimpArgs false
/-- What is the longest one at each place. -/
def LongOk (w : World) (v : Value) (T : List UInt8) (F : Nat → Option Caps) : Prop := ∀ (W : World) (i : Nat), Below w.heap.size w W → i ≤ T.length →
  Calls Tryz.prog 23 #[v, S T, E (i : Nat)] W fun e w' => e = .returned (ansC (F i)) ∧ Below W.heap.size W w'
theorem LongOk.below {w w1 : World} {v : Value} {T : List UInt8} {F : Nat → Option Caps} (h : LongOk w v T F) (hb : Below w.heap.size w w1) : LongOk w1 v T F := fun W i hW hi => h W i (hb.trans (hW.mono hb.size)) hi
/-- What answers that nothing is found. -/
def NoneOk : Prop := ∀ W : World, Calls Tryz.prog 40 #[] W fun e w' => e = .returned (CV nones) ∧ Below W.heap.size W w'
set_option maxRecDepth 100000 in
set_option maxHeartbeats 3200000 in
theorem first_from (hna : NoneOk) (v : Value) (T : List UInt8) (hT : T.length ≤ 100000) (F : Nat → Option Caps) (w : World) (hlo : LongOk w v T F) (at0 : Int) (s : Nat) (hs : (s = 0 ∧ at0 < 0) ∨ at0 = (s : Nat)) (hs2 : at0 ≤ 9223372036854775807) (R : Option Caps) (hR : R = firstF F T.length s) :
    Calls Tryz.prog 14 #[v, S T, E at0] w fun e w' => e = .returned (ansC R) ∧ Below w.heap.size w w' := by
  have HZ := Lib.hid (heap_alloc_new w (.cells CZ 27))
  have HB0 := Lib.hid ((Below.refl w.heap.size w).alloc (Nat.le_refl _) (.cells CZ 27))
  have HLO := Lib.hid hlo
  have HNA := Lib.hid hna
  have HRR := Lib.hid hR
  have HT := Lib.hid hT
  have hmx : (if (0 : Int) ≤ at0 then at0 else 0) = (s : Int) := by
    rcases hs with ⟨h1, h2⟩ | h
    · rw [if_neg (by omega)]; omega
    · rw [if_pos (by omega), h]
  have hmx2 : max at0 0 = (s : Int) := by omega
  have HS := Lib.hid (show (s : Int) ≤ 9223372036854775807 from by omega)
  clear hlo hR hT hs hs2 hna
  go_enter Tryz.func14, Tryz.ntmps14
  go_wp2
  go_loopg [8] (T.length + 1 - s) (fun m kv wr => ∃ k : Nat, m = T.length + 1 - k ∧ (k : Int) ≤ 9223372036854775807 ∧ kv = .int .i64 (k : Nat) ∧ Hid (R = firstF F T.length k) ∧ Hid (Below w.heap.size w wr) ∧ Hid (wr.heap[w.heap.size]? = some (.cells CZ 27 (0, 0))))
  case atStart => exact ⟨s, rfl, HS.out, rfl, HRR, HB0, HZ⟩
  case round =>
    clear HB0 HZ HRR
    obtain ⟨k, hm, hk, rfl, HR, HB, HL⟩ := hrel
    subst hm
    by_cases hlt : k ≤ T.length
    · have hle : (k : Int) ≤ (T.length : Int) := by omega
      have hwk : IntKind.i64.wrap ((k : Int) + 1) = (k : Int) + 1 := by rw [IntKind.wrap_i64]; have := HT.out; omega
      have HK := Lib.hid hlt
      have hst := first_step F hlt
      have hloq := fun (W : World) (hb : Below w.heap.size w W) => HLO.out W k hb hlt
      clear hlt hk
      cases hF : F k with
      | none =>
        rw [hF] at hst hloq
        have HST := Lib.hid hst
        have HLQ := Lib.hid hloq
        clear hst hloq
        go_wp2_with (first
          | (go_at_call 23; refine (HLQ.out _ HB.out).mono ?_; rintro e w3 ⟨he, hb⟩; rw [show ansC none = .tuple #[CV nones, .bool false] from rfl] at he; subst he; have HB3 := Lib.hid (HB.out.trans (hb.mono HB.out.size)); have HL3 := Lib.hid ((hb.block _ (lt_heap' HL.out)).trans HL.out); clear hb)
          | (refine wpList_store_row rfl 27 (.tmp 9) (.tmp 24) rfl _ (CC nones) rfl rfl _ CZ (heap_alloc_new _ _) (by kernel_rfl) rfl (cc_one nones) ?_; simp only [Act.put, List.setIfInBounds_toArray, List.set_cons_zero, List.set_cons_succ]; rw [box_laid]; have hbb := (Below.refl w3.heap.size w3).alloc (Nat.le_refl _) (.cells (CC nones) 27); have HB4 := Lib.hid (HB3.out.trans (hbb.mono HB3.out.size)); have HL4 := Lib.hid ((hbb.block _ (lt_heap' HL3.out)).trans HL3.out); clear hbb HB3 HL3; generalize World.alloc _ _ = W4 at HB4 HL4 ⊢))
        go_roundg (T.length - k)
        case measure => have := HK.out; omega
        case rel => exact ⟨k + 1, by omega, by have := HK.out; have := HT.out; omega, by go_num, Lib.hid (by rw [HR.out, HST.out]), HB4, HL4⟩
      | some a1 =>
        rw [hF] at hst hloq
        have HST := Lib.hid hst
        have HLQ := Lib.hid hloq
        clear hst hloq
        go_wp2_with (first
          | (go_at_call 23; refine (HLQ.out _ HB.out).mono ?_; rintro e w3 ⟨he, hb⟩; rw [show ansC (some a1) = .tuple #[CV a1, .bool true] from rfl] at he; subst he; have HB3 := Lib.hid (HB.out.trans (hb.mono HB.out.size)); have HL3 := Lib.hid ((hb.block _ (lt_heap' HL.out)).trans HL.out); clear hb)
          | (refine wpList_store_row rfl 27 (.tmp 9) (.tmp 24) rfl _ (CC a1) rfl rfl _ CZ (heap_alloc_new _ _) (by kernel_rfl) rfl (cc_one a1) ?_; simp only [Act.put, List.setIfInBounds_toArray, List.set_cons_zero, List.set_cons_succ]; rw [box_laid]; have hbb := (Below.refl w3.heap.size w3).alloc (Nat.le_refl _) (.cells (CC a1) 27); have HB4 := Lib.hid (HB3.out.trans (hbb.mono HB3.out.size)); have HL4 := Lib.hid ((hbb.block _ (lt_heap' HL3.out)).trans HL3.out); have HX4 := Lib.hid (heap_alloc_new w3 (.cells (CC a1) 27)); clear hbb HB3 HL3; generalize World.alloc _ _ = W4 at HB4 HL4 HX4 ⊢)
          | (refine wpList_load_row rfl 27 (.tmp 9) rfl w3.heap.size rfl _ (CC a1) (0, 0) _ HX4.out Tryz.underlying27 rfl (by kernel_rfl) ?_; simp only [Act.put, List.setIfInBounds_toArray, List.set_cons_zero, List.set_cons_succ])
          | (refine wpList_store_row rfl 27 (.tmp 6) (.tmp 27) rfl w.heap.size (CC a1) rfl rfl _ CZ HL4.out (by kernel_rfl) rfl (cc_one a1) ?_; simp only [Act.put, List.setIfInBounds_toArray, List.set_cons_zero, List.set_cons_succ]; have HRS := Lib.hid (And.intro (setRow_heap _ _ _ (CC a1) _ _ HL4.out) (below_setRow (B := w.heap.size) HB4.out (g := w.heap.size) (Nat.le_refl _) (CC a1))); generalize World.setRow _ _ _ = W9 at HRS ⊢))
        refine bodyPost_ret (res_caps rfl rfl HRS.out.1 rfl) rfl ?_
        refine ⟨?_, HRS.out.2⟩
        rw [HR.out, HST.out]; rfl
    · have hle : ¬ (k : Int) ≤ (T.length : Int) := by omega
      have HEND := Lib.hid (first_end F (show T.length < k from by omega))
      clear hlt hk
      go_wp2_with (first
        | (go_at_call 40; refine (HNA.out _).mono ?_; rintro e w8 ⟨rfl, hb⟩; have HB8 := Lib.hid (HB.out.trans (hb.mono HB.out.size)); have HR8 := Lib.hid ((hb.block _ (lt_heap' HL.out)).trans HL.out); clear hb)
        | (refine wpList_store_row rfl 27 (.tmp 6) (.tmp 28) rfl w.heap.size (CC nones) rfl rfl _ CZ HR8.out (by kernel_rfl) rfl (cc_one nones) ?_; simp only [Act.put, List.setIfInBounds_toArray, List.set_cons_zero, List.set_cons_succ]; have HRS := Lib.hid (And.intro (setRow_heap _ _ _ (CC nones) _ _ HR8.out) (below_setRow (B := w.heap.size) HB8.out (g := w.heap.size) (Nat.le_refl _) (CC nones))); generalize World.setRow _ _ _ = W9 at HRS ⊢))
      refine bodyPost_ret (res_caps rfl rfl HRS.out.1 rfl) rfl ?_
      refine ⟨?_, HRS.out.2⟩
      rw [HR.out, HEND.out]; rfl
/-- The first one, from any place on. -/
theorem first_any (hna : NoneOk) (v : Value) (T : List UInt8) (hT : T.length ≤ 100000) (F : Nat → Option Caps) (w : World) (hlo : LongOk w v T F) (at0 : Int) (h2 : at0 ≤ 9223372036854775807) (R : Option Caps) (hR : R = firstF F T.length at0.toNat) :
    Calls Tryz.prog 14 #[v, S T, E at0] w fun e w' => e = .returned (ansC R) ∧ Below w.heap.size w w' :=
  first_from hna v T hT F w hlo at0 at0.toNat (by omega) h2 R hR
set_option maxRecDepth 100000 in
set_option maxHeartbeats 3200000 in
theorem has_any (hna : NoneOk) (v : Value) (T : List UInt8) (hT : T.length ≤ 100000) (F : Nat → Option Caps) (w : World) (hlo : LongOk w v T F) (R : Bool) (hR : R = (firstF F T.length 0).isSome) :
    Calls Tryz.prog 17 #[v, S T] w fun e w' => e = .returned (.bool R) ∧ Below w.heap.size w w' := by
  have HF := Lib.hid (first_from hna v T hT F w hlo 0 0 (Or.inr rfl) (by decide) _ rfl)
  have HRR := Lib.hid hR
  clear hna hT hlo hR
  generalize firstF F T.length 0 = q at *
  cases q with
  | none =>
    go_enter Tryz.func17, Tryz.ntmps17
    go_wp2_with (first
      | (go_at_call 14; refine HF.out.mono ?_; rintro e w3 ⟨he, hb⟩; rw [show ansC none = .tuple #[CV nones, .bool false] from rfl] at he; subst he; have HB3 := Lib.hid hb; clear hb)
      | (refine wpList_store_row rfl 27 (.tmp 5) (.tmp 11) rfl _ (CC nones) rfl rfl _ CZ (heap_alloc_new _ _) (by kernel_rfl) rfl (cc_one nones) ?_; simp only [Act.put, List.setIfInBounds_toArray, List.set_cons_zero, List.set_cons_succ]; rw [box_laid]; have HB4 := Lib.hid (HB3.out.alloc HB3.out.size (.cells (CC nones) 27)); generalize World.alloc _ _ = W4 at HB4 ⊢))
    go_ret
    exact ⟨by rw [HRR.out]; rfl, HB4.out⟩
  | some a1 =>
    go_enter Tryz.func17, Tryz.ntmps17
    go_wp2_with (first
      | (go_at_call 14; refine HF.out.mono ?_; rintro e w3 ⟨he, hb⟩; rw [show ansC (some a1) = .tuple #[CV a1, .bool true] from rfl] at he; subst he; have HB3 := Lib.hid hb; clear hb)
      | (refine wpList_store_row rfl 27 (.tmp 5) (.tmp 11) rfl _ (CC a1) rfl rfl _ CZ (heap_alloc_new _ _) (by kernel_rfl) rfl (cc_one a1) ?_; simp only [Act.put, List.setIfInBounds_toArray, List.set_cons_zero, List.set_cons_succ]; rw [box_laid]; have HB4 := Lib.hid (HB3.out.alloc HB3.out.size (.cells (CC a1) 27)); generalize World.alloc _ _ = W4 at HB4 ⊢))
    go_ret
    exact ⟨by rw [HRR.out]; rfl, HB4.out⟩
end Go.Proofs.YthpiapemjadgdaaGreatDoor.Mt
