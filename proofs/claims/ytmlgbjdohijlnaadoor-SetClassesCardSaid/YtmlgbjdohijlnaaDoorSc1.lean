/- set.Class at every name. -/
import Derived.Test.YtmlgbjdohijlnaaDoorStB
namespace Go.Proofs.YtmlgbjdohijlnaaDoor.St
open Go.RowKit
set_option linter.unusedVariables false
set_option linter.unusedSimpArgs false
def Cl (w : World) (n : Nat) (W : World) : Prop := SB W w.heap.size zeroW ∧ SB W n (rangeW 65 90) ∧ SB W (n + 1) (rangeW 97 122) ∧ SB W (n + 2) (rangeW 48 57) ∧ Below w.heap.size w W
theorem zb_below {w X Y : World} (h : SB X w.heap.size zeroW ∧ Below w.heap.size w X) (hb : Below X.heap.size X Y) : SB Y w.heap.size zeroW ∧ Below w.heap.size w Y := ⟨sb_below h.1 hb, h.2.trans (hb.mono h.2.size)⟩
theorem Cl.below {w X Y : World} {n : Nat} (h : Cl w n X) (hb : Below X.heap.size X Y) : Cl w n Y := ⟨sb_below h.1 hb, sb_below h.2.1 hb, sb_below h.2.2.1 hb, sb_below h.2.2.2.1 hb, h.2.2.2.2.trans (hb.mono h.2.2.2.2.size)⟩
theorem Cl.alloc {w X : World} {n : Nat} (h : Cl w n X) (o : Obj) : Cl w n (X.alloc o) := h.below ((Below.refl _ X).alloc (Nat.le_refl _) o)
theorem Cl.drew {w X : World} {n : Nat} (h : Cl w n X) : Cl w n X.drew := h.below (Below.refl _ X).drew
theorem three_at (w : World) (a b c : Obj) : (((w.alloc a).alloc b).alloc c).heap[w.heap.size]? = some a ∧ (((w.alloc a).alloc b).alloc c).heap[w.heap.size + 1]? = some b ∧ (((w.alloc a).alloc b).alloc c).heap[w.heap.size + 2]? = some c := by
  have h := two_new w a b
  have e : ((w.alloc a).alloc b).heap.size = w.heap.size + 2 := by
    show ((w.heap.push a).push b).size = _
    simp
  refine ⟨(heap_alloc_old _ _ (by omega)).trans h.1, (heap_alloc_old _ _ (by omega)).trans h.2, ?_⟩
  have h' := heap_alloc_new ((w.alloc a).alloc b) c
  rwa [e] at h'
theorem put4_zero (w : World) (b : Nat) : ((((w.setCell ⟨b, 0, none⟩ (.int .u64 0)).setCell ⟨b, 1, none⟩ (.int .u64 0)).setCell ⟨b, 2, none⟩ (.int .u64 0)).setCell ⟨b, 3, none⟩ (.int .u64 0)) = put4 w b zeroW := rfl
theorem cl_mk {w X : World} (h : SB X w.heap.size zeroW ∧ Below w.heap.size w X) : Cl w X.heap.size (((X.alloc (Obj.cells #[Value.int IntKind.u64 ↑(word (rangeW 65 90) 0), Value.int IntKind.u64 ↑(word (rangeW 65 90) 1), Value.int IntKind.u64 ↑(word (rangeW 65 90) 2), Value.int IntKind.u64 ↑(word (rangeW 65 90) 3)] 25)).alloc (Obj.cells #[Value.int IntKind.u64 ↑(word (rangeW 97 122) 0), Value.int IntKind.u64 ↑(word (rangeW 97 122) 1), Value.int IntKind.u64 ↑(word (rangeW 97 122) 2), Value.int IntKind.u64 ↑(word (rangeW 97 122) 3)] 25)).alloc (Obj.cells #[Value.int IntKind.u64 ↑(word (rangeW 48 57) 0), Value.int IntKind.u64 ↑(word (rangeW 48 57) 1), Value.int IntKind.u64 ↑(word (rangeW 48 57) 2), Value.int IntKind.u64 ↑(word (rangeW 48 57) 3)] 25)) := by
  obtain ⟨h1, h2, h3⟩ := three_at X (Obj.cells #[Value.int IntKind.u64 ↑(word (rangeW 65 90) 0), Value.int IntKind.u64 ↑(word (rangeW 65 90) 1), Value.int IntKind.u64 ↑(word (rangeW 65 90) 2), Value.int IntKind.u64 ↑(word (rangeW 65 90) 3)] 25) (Obj.cells #[Value.int IntKind.u64 ↑(word (rangeW 97 122) 0), Value.int IntKind.u64 ↑(word (rangeW 97 122) 1), Value.int IntKind.u64 ↑(word (rangeW 97 122) 2), Value.int IntKind.u64 ↑(word (rangeW 97 122) 3)] 25) (Obj.cells #[Value.int IntKind.u64 ↑(word (rangeW 48 57) 0), Value.int IntKind.u64 ↑(word (rangeW 48 57) 1), Value.int IntKind.u64 ↑(word (rangeW 48 57) 2), Value.int IntKind.u64 ↑(word (rangeW 48 57) 3)] 25)
  exact ⟨sb_alloc (sb_alloc (sb_alloc h.1 _) _) _, by rw [SB, wc_eq (wf_rangeW (by decide) (by decide))]; exact h1, by rw [SB, wc_eq (wf_rangeW (by decide) (by decide))]; exact h2, by rw [SB, wc_eq (wf_rangeW (by decide) (by decide))]; exact h3,
    ((h.2.alloc h.2.size _).alloc (Nat.le_trans h.2.size (alloc_le _ _)) _).alloc (Nat.le_trans h.2.size (Nat.le_trans (alloc_le _ _) (alloc_le _ _))) _⟩
set_option maxRecDepth 100000 in
set_option maxHeartbeats 1000000 in
theorem class_upper (w : World) :
    Calls Tryd.prog 11 #[.string ⟨#[117, 112, 112, 101, 114]⟩] w fun e w' => e = .returned (.tuple #[SV (rangeW 65 90), .bool true]) ∧ Below w.heap.size w w' := by
  go_enter Tryd.func11, Tryd.ntmps11
  refine wp_seq_k fun K0 hK => ?_
  have HK := Lib.hid hK; clear hK
  go_wp2
  refine HK.out _ _ ?_
  clear HK K0
  have HC := Lib.hid (show SB (w.alloc (Obj.cells #[Value.int IntKind.u64 0, Value.int IntKind.u64 0, Value.int IntKind.u64 0, Value.int IntKind.u64 0] 25)) w.heap.size zeroW ∧ Below w.heap.size w (w.alloc (Obj.cells #[Value.int IntKind.u64 0, Value.int IntKind.u64 0, Value.int IntKind.u64 0, Value.int IntKind.u64 0] 25)) from ⟨heap_alloc_new w _, (Below.refl _ w).alloc (Nat.le_refl _) _⟩)
  generalize w.alloc (Obj.cells #[Value.int IntKind.u64 0, Value.int IntKind.u64 0, Value.int IntKind.u64 0, Value.int IntKind.u64 0] 25) = W0 at *
  refine wp_seq_k fun K1 hK => ?_
  have HK := Lib.hid hK; clear hK
  go_wp2_with (first
    | (go_at_call 20; refine (range_lit _ _ _ (by omega) (by omega)).mono ?_; rintro e w' ⟨he, hb⟩
       replace HC := Lib.hid (zb_below HC.out hb)
       simp only [Int.reduceToNat] at he
       rw [SV_eq (wf_rangeW (by decide) (by decide))] at he; subst he; clear hb))
  refine HK.out _ _ ?_
  clear HK K1
  have HL := Lib.hid (show Cl w w'.heap.size (((w'.alloc (Obj.cells #[Value.int IntKind.u64 ↑(word (rangeW 65 90) 0), Value.int IntKind.u64 ↑(word (rangeW 65 90) 1), Value.int IntKind.u64 ↑(word (rangeW 65 90) 2), Value.int IntKind.u64 ↑(word (rangeW 65 90) 3)] 25)).alloc (Obj.cells #[Value.int IntKind.u64 ↑(word (rangeW 97 122) 0), Value.int IntKind.u64 ↑(word (rangeW 97 122) 1), Value.int IntKind.u64 ↑(word (rangeW 97 122) 2), Value.int IntKind.u64 ↑(word (rangeW 97 122) 3)] 25)).alloc (Obj.cells #[Value.int IntKind.u64 ↑(word (rangeW 48 57) 0), Value.int IntKind.u64 ↑(word (rangeW 48 57) 1), Value.int IntKind.u64 ↑(word (rangeW 48 57) 2), Value.int IntKind.u64 ↑(word (rangeW 48 57) 3)] 25)) from cl_mk HC.out)
  clear HC
  generalize ((w'.alloc (Obj.cells #[Value.int IntKind.u64 ↑(word (rangeW 65 90) 0), Value.int IntKind.u64 ↑(word (rangeW 65 90) 1), Value.int IntKind.u64 ↑(word (rangeW 65 90) 2), Value.int IntKind.u64 ↑(word (rangeW 65 90) 3)] 25)).alloc (Obj.cells #[Value.int IntKind.u64 ↑(word (rangeW 97 122) 0), Value.int IntKind.u64 ↑(word (rangeW 97 122) 1), Value.int IntKind.u64 ↑(word (rangeW 97 122) 2), Value.int IntKind.u64 ↑(word (rangeW 97 122) 3)] 25)).alloc (Obj.cells #[Value.int IntKind.u64 ↑(word (rangeW 48 57) 0), Value.int IntKind.u64 ↑(word (rangeW 48 57) 1), Value.int IntKind.u64 ↑(word (rangeW 48 57) 2), Value.int IntKind.u64 ↑(word (rangeW 48 57) 3)] 25) = W at *
  generalize w'.heap.size = n at *
  obtain ⟨hz, hu, hlo, hd, hB⟩ := HL.out
  have k0 := SB.cell hz (wf_zero) (i := 0) (by omega)
  have k1 := SB.cell hz (wf_zero) (i := 1) (by omega)
  have k2 := SB.cell hz (wf_zero) (i := 2) (by omega)
  have k3 := SB.cell hz (wf_zero) (i := 3) (by omega)
  have u0 := SB.cell hu (wf_rangeW (by decide) (by decide)) (i := 0) (by omega)
  have u1 := SB.cell hu (wf_rangeW (by decide) (by decide)) (i := 1) (by omega)
  have u2 := SB.cell hu (wf_rangeW (by decide) (by decide)) (i := 2) (by omega)
  have u3 := SB.cell hu (wf_rangeW (by decide) (by decide)) (i := 3) (by omega)
  have l0 := SB.cell hlo (wf_rangeW (by decide) (by decide)) (i := 0) (by omega)
  have l1 := SB.cell hlo (wf_rangeW (by decide) (by decide)) (i := 1) (by omega)
  have l2 := SB.cell hlo (wf_rangeW (by decide) (by decide)) (i := 2) (by omega)
  have l3 := SB.cell hlo (wf_rangeW (by decide) (by decide)) (i := 3) (by omega)
  have d0 := SB.cell hd (wf_rangeW (by decide) (by decide)) (i := 0) (by omega)
  have d1 := SB.cell hd (wf_rangeW (by decide) (by decide)) (i := 1) (by omega)
  have d2 := SB.cell hd (wf_rangeW (by decide) (by decide)) (i := 2) (by omega)
  have d3 := SB.cell hd (wf_rangeW (by decide) (by decide)) (i := 3) (by omega)
  have f0 := Lib.frozen_of_heap hz 0
  have f1 := Lib.frozen_of_heap hz 1
  have f2 := Lib.frozen_of_heap hz 2
  have f3 := Lib.frozen_of_heap hz 3
  clear hz hu hlo hd hB
  go_wp2
  have hwf : Wf (rangeW 65 90) := (wf_rangeW (by decide) (by decide))
  have HSV := Lib.hid (SV_eq hwf)
  have hP := HL.out.1.put wf_zero hwf
  have hBP := put4_below HL.out.2.2.2.2 (Nat.le_refl _) (rangeW 65 90)
  rw [put4_eq]
  have m0 := hP.cell hwf (i := 0) (by omega)
  have m1 := hP.cell hwf (i := 1) (by omega)
  have m2 := hP.cell hwf (i := 2) (by omega)
  have m3 := hP.cell hwf (i := 3) (by omega)
  generalize put4 W w.heap.size (rangeW 65 90) = WW at *
  exact bodyPost_ret (v := .tuple #[SV (rangeW 65 90), .bool true]) (by rw [HSV.out]; simp [results, Tryd.results11, go_sem, m0, m1, m2, m3]) rfl ⟨rfl, hBP⟩
set_option maxRecDepth 100000 in
set_option maxHeartbeats 1000000 in
theorem class_lower (w : World) :
    Calls Tryd.prog 11 #[.string ⟨#[108, 111, 119, 101, 114]⟩] w fun e w' => e = .returned (.tuple #[SV (rangeW 97 122), .bool true]) ∧ Below w.heap.size w w' := by
  go_enter Tryd.func11, Tryd.ntmps11
  refine wp_seq_k fun K0 hK => ?_
  have HK := Lib.hid hK; clear hK
  go_wp2
  refine HK.out _ _ ?_
  clear HK K0
  have HC := Lib.hid (show SB (w.alloc (Obj.cells #[Value.int IntKind.u64 0, Value.int IntKind.u64 0, Value.int IntKind.u64 0, Value.int IntKind.u64 0] 25)) w.heap.size zeroW ∧ Below w.heap.size w (w.alloc (Obj.cells #[Value.int IntKind.u64 0, Value.int IntKind.u64 0, Value.int IntKind.u64 0, Value.int IntKind.u64 0] 25)) from ⟨heap_alloc_new w _, (Below.refl _ w).alloc (Nat.le_refl _) _⟩)
  generalize w.alloc (Obj.cells #[Value.int IntKind.u64 0, Value.int IntKind.u64 0, Value.int IntKind.u64 0, Value.int IntKind.u64 0] 25) = W0 at *
  refine wp_seq_k fun K1 hK => ?_
  have HK := Lib.hid hK; clear hK
  go_wp2_with (first
    | (go_at_call 20; refine (range_lit _ _ _ (by omega) (by omega)).mono ?_; rintro e w' ⟨he, hb⟩
       replace HC := Lib.hid (zb_below HC.out hb)
       simp only [Int.reduceToNat] at he
       rw [SV_eq (wf_rangeW (by decide) (by decide))] at he; subst he; clear hb))
  refine HK.out _ _ ?_
  clear HK K1
  have HL := Lib.hid (show Cl w w'.heap.size (((w'.alloc (Obj.cells #[Value.int IntKind.u64 ↑(word (rangeW 65 90) 0), Value.int IntKind.u64 ↑(word (rangeW 65 90) 1), Value.int IntKind.u64 ↑(word (rangeW 65 90) 2), Value.int IntKind.u64 ↑(word (rangeW 65 90) 3)] 25)).alloc (Obj.cells #[Value.int IntKind.u64 ↑(word (rangeW 97 122) 0), Value.int IntKind.u64 ↑(word (rangeW 97 122) 1), Value.int IntKind.u64 ↑(word (rangeW 97 122) 2), Value.int IntKind.u64 ↑(word (rangeW 97 122) 3)] 25)).alloc (Obj.cells #[Value.int IntKind.u64 ↑(word (rangeW 48 57) 0), Value.int IntKind.u64 ↑(word (rangeW 48 57) 1), Value.int IntKind.u64 ↑(word (rangeW 48 57) 2), Value.int IntKind.u64 ↑(word (rangeW 48 57) 3)] 25)) from cl_mk HC.out)
  clear HC
  generalize ((w'.alloc (Obj.cells #[Value.int IntKind.u64 ↑(word (rangeW 65 90) 0), Value.int IntKind.u64 ↑(word (rangeW 65 90) 1), Value.int IntKind.u64 ↑(word (rangeW 65 90) 2), Value.int IntKind.u64 ↑(word (rangeW 65 90) 3)] 25)).alloc (Obj.cells #[Value.int IntKind.u64 ↑(word (rangeW 97 122) 0), Value.int IntKind.u64 ↑(word (rangeW 97 122) 1), Value.int IntKind.u64 ↑(word (rangeW 97 122) 2), Value.int IntKind.u64 ↑(word (rangeW 97 122) 3)] 25)).alloc (Obj.cells #[Value.int IntKind.u64 ↑(word (rangeW 48 57) 0), Value.int IntKind.u64 ↑(word (rangeW 48 57) 1), Value.int IntKind.u64 ↑(word (rangeW 48 57) 2), Value.int IntKind.u64 ↑(word (rangeW 48 57) 3)] 25) = W at *
  generalize w'.heap.size = n at *
  obtain ⟨hz, hu, hlo, hd, hB⟩ := HL.out
  have k0 := SB.cell hz (wf_zero) (i := 0) (by omega)
  have k1 := SB.cell hz (wf_zero) (i := 1) (by omega)
  have k2 := SB.cell hz (wf_zero) (i := 2) (by omega)
  have k3 := SB.cell hz (wf_zero) (i := 3) (by omega)
  have u0 := SB.cell hu (wf_rangeW (by decide) (by decide)) (i := 0) (by omega)
  have u1 := SB.cell hu (wf_rangeW (by decide) (by decide)) (i := 1) (by omega)
  have u2 := SB.cell hu (wf_rangeW (by decide) (by decide)) (i := 2) (by omega)
  have u3 := SB.cell hu (wf_rangeW (by decide) (by decide)) (i := 3) (by omega)
  have l0 := SB.cell hlo (wf_rangeW (by decide) (by decide)) (i := 0) (by omega)
  have l1 := SB.cell hlo (wf_rangeW (by decide) (by decide)) (i := 1) (by omega)
  have l2 := SB.cell hlo (wf_rangeW (by decide) (by decide)) (i := 2) (by omega)
  have l3 := SB.cell hlo (wf_rangeW (by decide) (by decide)) (i := 3) (by omega)
  have d0 := SB.cell hd (wf_rangeW (by decide) (by decide)) (i := 0) (by omega)
  have d1 := SB.cell hd (wf_rangeW (by decide) (by decide)) (i := 1) (by omega)
  have d2 := SB.cell hd (wf_rangeW (by decide) (by decide)) (i := 2) (by omega)
  have d3 := SB.cell hd (wf_rangeW (by decide) (by decide)) (i := 3) (by omega)
  have f0 := Lib.frozen_of_heap hz 0
  have f1 := Lib.frozen_of_heap hz 1
  have f2 := Lib.frozen_of_heap hz 2
  have f3 := Lib.frozen_of_heap hz 3
  clear hz hu hlo hd hB
  go_wp2
  have hwf : Wf (rangeW 97 122) := (wf_rangeW (by decide) (by decide))
  have HSV := Lib.hid (SV_eq hwf)
  have hP := HL.out.1.put wf_zero hwf
  have hBP := put4_below HL.out.2.2.2.2 (Nat.le_refl _) (rangeW 97 122)
  rw [put4_eq]
  have m0 := hP.cell hwf (i := 0) (by omega)
  have m1 := hP.cell hwf (i := 1) (by omega)
  have m2 := hP.cell hwf (i := 2) (by omega)
  have m3 := hP.cell hwf (i := 3) (by omega)
  generalize put4 W w.heap.size (rangeW 97 122) = WW at *
  exact bodyPost_ret (v := .tuple #[SV (rangeW 97 122), .bool true]) (by rw [HSV.out]; simp [results, Tryd.results11, go_sem, m0, m1, m2, m3]) rfl ⟨rfl, hBP⟩
set_option maxRecDepth 100000 in
set_option maxHeartbeats 1000000 in
theorem class_digit (w : World) :
    Calls Tryd.prog 11 #[.string ⟨#[100, 105, 103, 105, 116]⟩] w fun e w' => e = .returned (.tuple #[SV (rangeW 48 57), .bool true]) ∧ Below w.heap.size w w' := by
  go_enter Tryd.func11, Tryd.ntmps11
  refine wp_seq_k fun K0 hK => ?_
  have HK := Lib.hid hK; clear hK
  go_wp2
  refine HK.out _ _ ?_
  clear HK K0
  have HC := Lib.hid (show SB (w.alloc (Obj.cells #[Value.int IntKind.u64 0, Value.int IntKind.u64 0, Value.int IntKind.u64 0, Value.int IntKind.u64 0] 25)) w.heap.size zeroW ∧ Below w.heap.size w (w.alloc (Obj.cells #[Value.int IntKind.u64 0, Value.int IntKind.u64 0, Value.int IntKind.u64 0, Value.int IntKind.u64 0] 25)) from ⟨heap_alloc_new w _, (Below.refl _ w).alloc (Nat.le_refl _) _⟩)
  generalize w.alloc (Obj.cells #[Value.int IntKind.u64 0, Value.int IntKind.u64 0, Value.int IntKind.u64 0, Value.int IntKind.u64 0] 25) = W0 at *
  refine wp_seq_k fun K1 hK => ?_
  have HK := Lib.hid hK; clear hK
  go_wp2_with (first
    | (go_at_call 20; refine (range_lit _ _ _ (by omega) (by omega)).mono ?_; rintro e w' ⟨he, hb⟩
       replace HC := Lib.hid (zb_below HC.out hb)
       simp only [Int.reduceToNat] at he
       rw [SV_eq (wf_rangeW (by decide) (by decide))] at he; subst he; clear hb))
  refine HK.out _ _ ?_
  clear HK K1
  have HL := Lib.hid (show Cl w w'.heap.size (((w'.alloc (Obj.cells #[Value.int IntKind.u64 ↑(word (rangeW 65 90) 0), Value.int IntKind.u64 ↑(word (rangeW 65 90) 1), Value.int IntKind.u64 ↑(word (rangeW 65 90) 2), Value.int IntKind.u64 ↑(word (rangeW 65 90) 3)] 25)).alloc (Obj.cells #[Value.int IntKind.u64 ↑(word (rangeW 97 122) 0), Value.int IntKind.u64 ↑(word (rangeW 97 122) 1), Value.int IntKind.u64 ↑(word (rangeW 97 122) 2), Value.int IntKind.u64 ↑(word (rangeW 97 122) 3)] 25)).alloc (Obj.cells #[Value.int IntKind.u64 ↑(word (rangeW 48 57) 0), Value.int IntKind.u64 ↑(word (rangeW 48 57) 1), Value.int IntKind.u64 ↑(word (rangeW 48 57) 2), Value.int IntKind.u64 ↑(word (rangeW 48 57) 3)] 25)) from cl_mk HC.out)
  clear HC
  generalize ((w'.alloc (Obj.cells #[Value.int IntKind.u64 ↑(word (rangeW 65 90) 0), Value.int IntKind.u64 ↑(word (rangeW 65 90) 1), Value.int IntKind.u64 ↑(word (rangeW 65 90) 2), Value.int IntKind.u64 ↑(word (rangeW 65 90) 3)] 25)).alloc (Obj.cells #[Value.int IntKind.u64 ↑(word (rangeW 97 122) 0), Value.int IntKind.u64 ↑(word (rangeW 97 122) 1), Value.int IntKind.u64 ↑(word (rangeW 97 122) 2), Value.int IntKind.u64 ↑(word (rangeW 97 122) 3)] 25)).alloc (Obj.cells #[Value.int IntKind.u64 ↑(word (rangeW 48 57) 0), Value.int IntKind.u64 ↑(word (rangeW 48 57) 1), Value.int IntKind.u64 ↑(word (rangeW 48 57) 2), Value.int IntKind.u64 ↑(word (rangeW 48 57) 3)] 25) = W at *
  generalize w'.heap.size = n at *
  obtain ⟨hz, hu, hlo, hd, hB⟩ := HL.out
  have k0 := SB.cell hz (wf_zero) (i := 0) (by omega)
  have k1 := SB.cell hz (wf_zero) (i := 1) (by omega)
  have k2 := SB.cell hz (wf_zero) (i := 2) (by omega)
  have k3 := SB.cell hz (wf_zero) (i := 3) (by omega)
  have u0 := SB.cell hu (wf_rangeW (by decide) (by decide)) (i := 0) (by omega)
  have u1 := SB.cell hu (wf_rangeW (by decide) (by decide)) (i := 1) (by omega)
  have u2 := SB.cell hu (wf_rangeW (by decide) (by decide)) (i := 2) (by omega)
  have u3 := SB.cell hu (wf_rangeW (by decide) (by decide)) (i := 3) (by omega)
  have l0 := SB.cell hlo (wf_rangeW (by decide) (by decide)) (i := 0) (by omega)
  have l1 := SB.cell hlo (wf_rangeW (by decide) (by decide)) (i := 1) (by omega)
  have l2 := SB.cell hlo (wf_rangeW (by decide) (by decide)) (i := 2) (by omega)
  have l3 := SB.cell hlo (wf_rangeW (by decide) (by decide)) (i := 3) (by omega)
  have d0 := SB.cell hd (wf_rangeW (by decide) (by decide)) (i := 0) (by omega)
  have d1 := SB.cell hd (wf_rangeW (by decide) (by decide)) (i := 1) (by omega)
  have d2 := SB.cell hd (wf_rangeW (by decide) (by decide)) (i := 2) (by omega)
  have d3 := SB.cell hd (wf_rangeW (by decide) (by decide)) (i := 3) (by omega)
  have f0 := Lib.frozen_of_heap hz 0
  have f1 := Lib.frozen_of_heap hz 1
  have f2 := Lib.frozen_of_heap hz 2
  have f3 := Lib.frozen_of_heap hz 3
  clear hz hu hlo hd hB
  go_wp2
  have hwf : Wf (rangeW 48 57) := (wf_rangeW (by decide) (by decide))
  have HSV := Lib.hid (SV_eq hwf)
  have hP := HL.out.1.put wf_zero hwf
  have hBP := put4_below HL.out.2.2.2.2 (Nat.le_refl _) (rangeW 48 57)
  rw [put4_eq]
  have m0 := hP.cell hwf (i := 0) (by omega)
  have m1 := hP.cell hwf (i := 1) (by omega)
  have m2 := hP.cell hwf (i := 2) (by omega)
  have m3 := hP.cell hwf (i := 3) (by omega)
  generalize put4 W w.heap.size (rangeW 48 57) = WW at *
  exact bodyPost_ret (v := .tuple #[SV (rangeW 48 57), .bool true]) (by rw [HSV.out]; simp [results, Tryd.results11, go_sem, m0, m1, m2, m3]) rfl ⟨rfl, hBP⟩
set_option maxRecDepth 100000 in
set_option maxHeartbeats 1000000 in
theorem class_alpha (w : World) :
    Calls Tryd.prog 11 #[.string ⟨#[97, 108, 112, 104, 97]⟩] w fun e w' => e = .returned (.tuple #[SV (orL [rangeW 65 90, rangeW 97 122]), .bool true]) ∧ Below w.heap.size w w' := by
  go_enter Tryd.func11, Tryd.ntmps11
  refine wp_seq_k fun K0 hK => ?_
  have HK := Lib.hid hK; clear hK
  go_wp2
  refine HK.out _ _ ?_
  clear HK K0
  have HC := Lib.hid (show SB (w.alloc (Obj.cells #[Value.int IntKind.u64 0, Value.int IntKind.u64 0, Value.int IntKind.u64 0, Value.int IntKind.u64 0] 25)) w.heap.size zeroW ∧ Below w.heap.size w (w.alloc (Obj.cells #[Value.int IntKind.u64 0, Value.int IntKind.u64 0, Value.int IntKind.u64 0, Value.int IntKind.u64 0] 25)) from ⟨heap_alloc_new w _, (Below.refl _ w).alloc (Nat.le_refl _) _⟩)
  generalize w.alloc (Obj.cells #[Value.int IntKind.u64 0, Value.int IntKind.u64 0, Value.int IntKind.u64 0, Value.int IntKind.u64 0] 25) = W0 at *
  refine wp_seq_k fun K1 hK => ?_
  have HK := Lib.hid hK; clear hK
  go_wp2_with (first
    | (go_at_call 20; refine (range_lit _ _ _ (by omega) (by omega)).mono ?_; rintro e w' ⟨he, hb⟩
       replace HC := Lib.hid (zb_below HC.out hb)
       simp only [Int.reduceToNat] at he
       rw [SV_eq (wf_rangeW (by decide) (by decide))] at he; subst he; clear hb))
  refine HK.out _ _ ?_
  clear HK K1
  have HL := Lib.hid (show Cl w w'.heap.size (((w'.alloc (Obj.cells #[Value.int IntKind.u64 ↑(word (rangeW 65 90) 0), Value.int IntKind.u64 ↑(word (rangeW 65 90) 1), Value.int IntKind.u64 ↑(word (rangeW 65 90) 2), Value.int IntKind.u64 ↑(word (rangeW 65 90) 3)] 25)).alloc (Obj.cells #[Value.int IntKind.u64 ↑(word (rangeW 97 122) 0), Value.int IntKind.u64 ↑(word (rangeW 97 122) 1), Value.int IntKind.u64 ↑(word (rangeW 97 122) 2), Value.int IntKind.u64 ↑(word (rangeW 97 122) 3)] 25)).alloc (Obj.cells #[Value.int IntKind.u64 ↑(word (rangeW 48 57) 0), Value.int IntKind.u64 ↑(word (rangeW 48 57) 1), Value.int IntKind.u64 ↑(word (rangeW 48 57) 2), Value.int IntKind.u64 ↑(word (rangeW 48 57) 3)] 25)) from cl_mk HC.out)
  clear HC
  generalize ((w'.alloc (Obj.cells #[Value.int IntKind.u64 ↑(word (rangeW 65 90) 0), Value.int IntKind.u64 ↑(word (rangeW 65 90) 1), Value.int IntKind.u64 ↑(word (rangeW 65 90) 2), Value.int IntKind.u64 ↑(word (rangeW 65 90) 3)] 25)).alloc (Obj.cells #[Value.int IntKind.u64 ↑(word (rangeW 97 122) 0), Value.int IntKind.u64 ↑(word (rangeW 97 122) 1), Value.int IntKind.u64 ↑(word (rangeW 97 122) 2), Value.int IntKind.u64 ↑(word (rangeW 97 122) 3)] 25)).alloc (Obj.cells #[Value.int IntKind.u64 ↑(word (rangeW 48 57) 0), Value.int IntKind.u64 ↑(word (rangeW 48 57) 1), Value.int IntKind.u64 ↑(word (rangeW 48 57) 2), Value.int IntKind.u64 ↑(word (rangeW 48 57) 3)] 25) = W at *
  generalize w'.heap.size = n at *
  obtain ⟨hz, hu, hlo, hd, hB⟩ := HL.out
  have k0 := SB.cell hz (wf_zero) (i := 0) (by omega)
  have k1 := SB.cell hz (wf_zero) (i := 1) (by omega)
  have k2 := SB.cell hz (wf_zero) (i := 2) (by omega)
  have k3 := SB.cell hz (wf_zero) (i := 3) (by omega)
  have u0 := SB.cell hu (wf_rangeW (by decide) (by decide)) (i := 0) (by omega)
  have u1 := SB.cell hu (wf_rangeW (by decide) (by decide)) (i := 1) (by omega)
  have u2 := SB.cell hu (wf_rangeW (by decide) (by decide)) (i := 2) (by omega)
  have u3 := SB.cell hu (wf_rangeW (by decide) (by decide)) (i := 3) (by omega)
  have l0 := SB.cell hlo (wf_rangeW (by decide) (by decide)) (i := 0) (by omega)
  have l1 := SB.cell hlo (wf_rangeW (by decide) (by decide)) (i := 1) (by omega)
  have l2 := SB.cell hlo (wf_rangeW (by decide) (by decide)) (i := 2) (by omega)
  have l3 := SB.cell hlo (wf_rangeW (by decide) (by decide)) (i := 3) (by omega)
  have d0 := SB.cell hd (wf_rangeW (by decide) (by decide)) (i := 0) (by omega)
  have d1 := SB.cell hd (wf_rangeW (by decide) (by decide)) (i := 1) (by omega)
  have d2 := SB.cell hd (wf_rangeW (by decide) (by decide)) (i := 2) (by omega)
  have d3 := SB.cell hd (wf_rangeW (by decide) (by decide)) (i := 3) (by omega)
  have f0 := Lib.frozen_of_heap hz 0
  have f1 := Lib.frozen_of_heap hz 1
  have f2 := Lib.frozen_of_heap hz 2
  have f3 := Lib.frozen_of_heap hz 3
  clear hz hu hlo hd hB
  go_wp2_with (first
    | (go_at_call 15; refine (or_any [rangeW 65 90, rangeW 97 122] _ _ (wf_all (by simp [wf_rangeW, wf_ofL])) (by simp) (by simp) (lsL (heap_alloc_new _ _) rfl)).mono ?_; rintro e w' ⟨he, hb⟩
       first | (replace HL := Lib.hid (Cl.below HL.out hb)) | (replace HL := Lib.hid (Cl.below (Cl.alloc HL.out _) hb))
       rw [SV_eq (wf_orL (wf_all (by simp [wf_rangeW, wf_ofL])))] at he; subst he; clear hb
       have k0 := SB.cell HL.out.1 wf_zero (i := 0) (by omega)
       have k1 := SB.cell HL.out.1 wf_zero (i := 1) (by omega)
       have k2 := SB.cell HL.out.1 wf_zero (i := 2) (by omega)
       have k3 := SB.cell HL.out.1 wf_zero (i := 3) (by omega)
       have f0 := Lib.frozen_of_heap HL.out.1 0
       have f1 := Lib.frozen_of_heap HL.out.1 1
       have f2 := Lib.frozen_of_heap HL.out.1 2
       have f3 := Lib.frozen_of_heap HL.out.1 3))
  have hwf : Wf (orL [rangeW 65 90, rangeW 97 122]) := (wf_orL (wf_all (by simp [wf_rangeW, wf_ofL])))
  have HSV := Lib.hid (SV_eq hwf)
  have hP := HL.out.1.put wf_zero hwf
  have hBP := put4_below HL.out.2.2.2.2 (Nat.le_refl _) (orL [rangeW 65 90, rangeW 97 122])
  rw [put4_eq]
  have m0 := hP.cell hwf (i := 0) (by omega)
  have m1 := hP.cell hwf (i := 1) (by omega)
  have m2 := hP.cell hwf (i := 2) (by omega)
  have m3 := hP.cell hwf (i := 3) (by omega)
  generalize put4 w' w.heap.size (orL [rangeW 65 90, rangeW 97 122]) = WW at *
  exact bodyPost_ret (v := .tuple #[SV (orL [rangeW 65 90, rangeW 97 122]), .bool true]) (by rw [HSV.out]; simp [results, Tryd.results11, go_sem, m0, m1, m2, m3]) rfl ⟨rfl, hBP⟩
set_option maxRecDepth 100000 in
set_option maxHeartbeats 1000000 in
theorem class_alnum (w : World) :
    Calls Tryd.prog 11 #[.string ⟨#[97, 108, 110, 117, 109]⟩] w fun e w' => e = .returned (.tuple #[SV (orL [rangeW 65 90, rangeW 97 122, rangeW 48 57]), .bool true]) ∧ Below w.heap.size w w' := by
  go_enter Tryd.func11, Tryd.ntmps11
  refine wp_seq_k fun K0 hK => ?_
  have HK := Lib.hid hK; clear hK
  go_wp2
  refine HK.out _ _ ?_
  clear HK K0
  have HC := Lib.hid (show SB (w.alloc (Obj.cells #[Value.int IntKind.u64 0, Value.int IntKind.u64 0, Value.int IntKind.u64 0, Value.int IntKind.u64 0] 25)) w.heap.size zeroW ∧ Below w.heap.size w (w.alloc (Obj.cells #[Value.int IntKind.u64 0, Value.int IntKind.u64 0, Value.int IntKind.u64 0, Value.int IntKind.u64 0] 25)) from ⟨heap_alloc_new w _, (Below.refl _ w).alloc (Nat.le_refl _) _⟩)
  generalize w.alloc (Obj.cells #[Value.int IntKind.u64 0, Value.int IntKind.u64 0, Value.int IntKind.u64 0, Value.int IntKind.u64 0] 25) = W0 at *
  refine wp_seq_k fun K1 hK => ?_
  have HK := Lib.hid hK; clear hK
  go_wp2_with (first
    | (go_at_call 20; refine (range_lit _ _ _ (by omega) (by omega)).mono ?_; rintro e w' ⟨he, hb⟩
       replace HC := Lib.hid (zb_below HC.out hb)
       simp only [Int.reduceToNat] at he
       rw [SV_eq (wf_rangeW (by decide) (by decide))] at he; subst he; clear hb))
  refine HK.out _ _ ?_
  clear HK K1
  have HL := Lib.hid (show Cl w w'.heap.size (((w'.alloc (Obj.cells #[Value.int IntKind.u64 ↑(word (rangeW 65 90) 0), Value.int IntKind.u64 ↑(word (rangeW 65 90) 1), Value.int IntKind.u64 ↑(word (rangeW 65 90) 2), Value.int IntKind.u64 ↑(word (rangeW 65 90) 3)] 25)).alloc (Obj.cells #[Value.int IntKind.u64 ↑(word (rangeW 97 122) 0), Value.int IntKind.u64 ↑(word (rangeW 97 122) 1), Value.int IntKind.u64 ↑(word (rangeW 97 122) 2), Value.int IntKind.u64 ↑(word (rangeW 97 122) 3)] 25)).alloc (Obj.cells #[Value.int IntKind.u64 ↑(word (rangeW 48 57) 0), Value.int IntKind.u64 ↑(word (rangeW 48 57) 1), Value.int IntKind.u64 ↑(word (rangeW 48 57) 2), Value.int IntKind.u64 ↑(word (rangeW 48 57) 3)] 25)) from cl_mk HC.out)
  clear HC
  generalize ((w'.alloc (Obj.cells #[Value.int IntKind.u64 ↑(word (rangeW 65 90) 0), Value.int IntKind.u64 ↑(word (rangeW 65 90) 1), Value.int IntKind.u64 ↑(word (rangeW 65 90) 2), Value.int IntKind.u64 ↑(word (rangeW 65 90) 3)] 25)).alloc (Obj.cells #[Value.int IntKind.u64 ↑(word (rangeW 97 122) 0), Value.int IntKind.u64 ↑(word (rangeW 97 122) 1), Value.int IntKind.u64 ↑(word (rangeW 97 122) 2), Value.int IntKind.u64 ↑(word (rangeW 97 122) 3)] 25)).alloc (Obj.cells #[Value.int IntKind.u64 ↑(word (rangeW 48 57) 0), Value.int IntKind.u64 ↑(word (rangeW 48 57) 1), Value.int IntKind.u64 ↑(word (rangeW 48 57) 2), Value.int IntKind.u64 ↑(word (rangeW 48 57) 3)] 25) = W at *
  generalize w'.heap.size = n at *
  obtain ⟨hz, hu, hlo, hd, hB⟩ := HL.out
  have k0 := SB.cell hz (wf_zero) (i := 0) (by omega)
  have k1 := SB.cell hz (wf_zero) (i := 1) (by omega)
  have k2 := SB.cell hz (wf_zero) (i := 2) (by omega)
  have k3 := SB.cell hz (wf_zero) (i := 3) (by omega)
  have u0 := SB.cell hu (wf_rangeW (by decide) (by decide)) (i := 0) (by omega)
  have u1 := SB.cell hu (wf_rangeW (by decide) (by decide)) (i := 1) (by omega)
  have u2 := SB.cell hu (wf_rangeW (by decide) (by decide)) (i := 2) (by omega)
  have u3 := SB.cell hu (wf_rangeW (by decide) (by decide)) (i := 3) (by omega)
  have l0 := SB.cell hlo (wf_rangeW (by decide) (by decide)) (i := 0) (by omega)
  have l1 := SB.cell hlo (wf_rangeW (by decide) (by decide)) (i := 1) (by omega)
  have l2 := SB.cell hlo (wf_rangeW (by decide) (by decide)) (i := 2) (by omega)
  have l3 := SB.cell hlo (wf_rangeW (by decide) (by decide)) (i := 3) (by omega)
  have d0 := SB.cell hd (wf_rangeW (by decide) (by decide)) (i := 0) (by omega)
  have d1 := SB.cell hd (wf_rangeW (by decide) (by decide)) (i := 1) (by omega)
  have d2 := SB.cell hd (wf_rangeW (by decide) (by decide)) (i := 2) (by omega)
  have d3 := SB.cell hd (wf_rangeW (by decide) (by decide)) (i := 3) (by omega)
  have f0 := Lib.frozen_of_heap hz 0
  have f1 := Lib.frozen_of_heap hz 1
  have f2 := Lib.frozen_of_heap hz 2
  have f3 := Lib.frozen_of_heap hz 3
  clear hz hu hlo hd hB
  go_wp2_with (first
    | (go_at_call 15; refine (or_any [rangeW 65 90, rangeW 97 122, rangeW 48 57] _ _ (wf_all (by simp [wf_rangeW, wf_ofL])) (by simp) (by simp) (lsL (heap_alloc_new _ _) rfl)).mono ?_; rintro e w' ⟨he, hb⟩
       first | (replace HL := Lib.hid (Cl.below HL.out hb)) | (replace HL := Lib.hid (Cl.below (Cl.alloc HL.out _) hb))
       rw [SV_eq (wf_orL (wf_all (by simp [wf_rangeW, wf_ofL])))] at he; subst he; clear hb
       have k0 := SB.cell HL.out.1 wf_zero (i := 0) (by omega)
       have k1 := SB.cell HL.out.1 wf_zero (i := 1) (by omega)
       have k2 := SB.cell HL.out.1 wf_zero (i := 2) (by omega)
       have k3 := SB.cell HL.out.1 wf_zero (i := 3) (by omega)
       have f0 := Lib.frozen_of_heap HL.out.1 0
       have f1 := Lib.frozen_of_heap HL.out.1 1
       have f2 := Lib.frozen_of_heap HL.out.1 2
       have f3 := Lib.frozen_of_heap HL.out.1 3))
  have hwf : Wf (orL [rangeW 65 90, rangeW 97 122, rangeW 48 57]) := (wf_orL (wf_all (by simp [wf_rangeW, wf_ofL])))
  have HSV := Lib.hid (SV_eq hwf)
  have hP := HL.out.1.put wf_zero hwf
  have hBP := put4_below HL.out.2.2.2.2 (Nat.le_refl _) (orL [rangeW 65 90, rangeW 97 122, rangeW 48 57])
  rw [put4_eq]
  have m0 := hP.cell hwf (i := 0) (by omega)
  have m1 := hP.cell hwf (i := 1) (by omega)
  have m2 := hP.cell hwf (i := 2) (by omega)
  have m3 := hP.cell hwf (i := 3) (by omega)
  generalize put4 w' w.heap.size (orL [rangeW 65 90, rangeW 97 122, rangeW 48 57]) = WW at *
  exact bodyPost_ret (v := .tuple #[SV (orL [rangeW 65 90, rangeW 97 122, rangeW 48 57]), .bool true]) (by rw [HSV.out]; simp [results, Tryd.results11, go_sem, m0, m1, m2, m3]) rfl ⟨rfl, hBP⟩
set_option maxRecDepth 100000 in
set_option maxHeartbeats 1000000 in
theorem class_blank (w : World) :
    Calls Tryd.prog 11 #[.string ⟨#[98, 108, 97, 110, 107]⟩] w fun e w' => e = .returned (.tuple #[SV (ofL [32, 9]), .bool true]) ∧ Below w.heap.size w w' := by
  go_enter Tryd.func11, Tryd.ntmps11
  refine wp_seq_k fun K0 hK => ?_
  have HK := Lib.hid hK; clear hK
  go_wp2
  refine HK.out _ _ ?_
  clear HK K0
  have HC := Lib.hid (show SB (w.alloc (Obj.cells #[Value.int IntKind.u64 0, Value.int IntKind.u64 0, Value.int IntKind.u64 0, Value.int IntKind.u64 0] 25)) w.heap.size zeroW ∧ Below w.heap.size w (w.alloc (Obj.cells #[Value.int IntKind.u64 0, Value.int IntKind.u64 0, Value.int IntKind.u64 0, Value.int IntKind.u64 0] 25)) from ⟨heap_alloc_new w _, (Below.refl _ w).alloc (Nat.le_refl _) _⟩)
  generalize w.alloc (Obj.cells #[Value.int IntKind.u64 0, Value.int IntKind.u64 0, Value.int IntKind.u64 0, Value.int IntKind.u64 0] 25) = W0 at *
  refine wp_seq_k fun K1 hK => ?_
  have HK := Lib.hid hK; clear hK
  go_wp2_with (first
    | (go_at_call 20; refine (range_lit _ _ _ (by omega) (by omega)).mono ?_; rintro e w' ⟨he, hb⟩
       replace HC := Lib.hid (zb_below HC.out hb)
       simp only [Int.reduceToNat] at he
       rw [SV_eq (wf_rangeW (by decide) (by decide))] at he; subst he; clear hb))
  refine HK.out _ _ ?_
  clear HK K1
  have HL := Lib.hid (show Cl w w'.heap.size (((w'.alloc (Obj.cells #[Value.int IntKind.u64 ↑(word (rangeW 65 90) 0), Value.int IntKind.u64 ↑(word (rangeW 65 90) 1), Value.int IntKind.u64 ↑(word (rangeW 65 90) 2), Value.int IntKind.u64 ↑(word (rangeW 65 90) 3)] 25)).alloc (Obj.cells #[Value.int IntKind.u64 ↑(word (rangeW 97 122) 0), Value.int IntKind.u64 ↑(word (rangeW 97 122) 1), Value.int IntKind.u64 ↑(word (rangeW 97 122) 2), Value.int IntKind.u64 ↑(word (rangeW 97 122) 3)] 25)).alloc (Obj.cells #[Value.int IntKind.u64 ↑(word (rangeW 48 57) 0), Value.int IntKind.u64 ↑(word (rangeW 48 57) 1), Value.int IntKind.u64 ↑(word (rangeW 48 57) 2), Value.int IntKind.u64 ↑(word (rangeW 48 57) 3)] 25)) from cl_mk HC.out)
  clear HC
  generalize ((w'.alloc (Obj.cells #[Value.int IntKind.u64 ↑(word (rangeW 65 90) 0), Value.int IntKind.u64 ↑(word (rangeW 65 90) 1), Value.int IntKind.u64 ↑(word (rangeW 65 90) 2), Value.int IntKind.u64 ↑(word (rangeW 65 90) 3)] 25)).alloc (Obj.cells #[Value.int IntKind.u64 ↑(word (rangeW 97 122) 0), Value.int IntKind.u64 ↑(word (rangeW 97 122) 1), Value.int IntKind.u64 ↑(word (rangeW 97 122) 2), Value.int IntKind.u64 ↑(word (rangeW 97 122) 3)] 25)).alloc (Obj.cells #[Value.int IntKind.u64 ↑(word (rangeW 48 57) 0), Value.int IntKind.u64 ↑(word (rangeW 48 57) 1), Value.int IntKind.u64 ↑(word (rangeW 48 57) 2), Value.int IntKind.u64 ↑(word (rangeW 48 57) 3)] 25) = W at *
  generalize w'.heap.size = n at *
  obtain ⟨hz, hu, hlo, hd, hB⟩ := HL.out
  have k0 := SB.cell hz (wf_zero) (i := 0) (by omega)
  have k1 := SB.cell hz (wf_zero) (i := 1) (by omega)
  have k2 := SB.cell hz (wf_zero) (i := 2) (by omega)
  have k3 := SB.cell hz (wf_zero) (i := 3) (by omega)
  have u0 := SB.cell hu (wf_rangeW (by decide) (by decide)) (i := 0) (by omega)
  have u1 := SB.cell hu (wf_rangeW (by decide) (by decide)) (i := 1) (by omega)
  have u2 := SB.cell hu (wf_rangeW (by decide) (by decide)) (i := 2) (by omega)
  have u3 := SB.cell hu (wf_rangeW (by decide) (by decide)) (i := 3) (by omega)
  have l0 := SB.cell hlo (wf_rangeW (by decide) (by decide)) (i := 0) (by omega)
  have l1 := SB.cell hlo (wf_rangeW (by decide) (by decide)) (i := 1) (by omega)
  have l2 := SB.cell hlo (wf_rangeW (by decide) (by decide)) (i := 2) (by omega)
  have l3 := SB.cell hlo (wf_rangeW (by decide) (by decide)) (i := 3) (by omega)
  have d0 := SB.cell hd (wf_rangeW (by decide) (by decide)) (i := 0) (by omega)
  have d1 := SB.cell hd (wf_rangeW (by decide) (by decide)) (i := 1) (by omega)
  have d2 := SB.cell hd (wf_rangeW (by decide) (by decide)) (i := 2) (by omega)
  have d3 := SB.cell hd (wf_rangeW (by decide) (by decide)) (i := 3) (by omega)
  have f0 := Lib.frozen_of_heap hz 0
  have f1 := Lib.frozen_of_heap hz 1
  have f2 := Lib.frozen_of_heap hz 2
  have f3 := Lib.frozen_of_heap hz 3
  clear hz hu hlo hd hB
  go_wp2_with (first
    | (go_at_call 17; refine (of_any [32, 9] _ (by decide)).mono ?_; rintro e w' ⟨he, hb⟩
       first | (replace HL := Lib.hid (Cl.below HL.out hb)) | (replace HL := Lib.hid (Cl.below (Cl.alloc HL.out _) hb))
       rw [SV_eq (wf_ofL _)] at he; subst he; clear hb
       have k0 := SB.cell HL.out.1 wf_zero (i := 0) (by omega)
       have k1 := SB.cell HL.out.1 wf_zero (i := 1) (by omega)
       have k2 := SB.cell HL.out.1 wf_zero (i := 2) (by omega)
       have k3 := SB.cell HL.out.1 wf_zero (i := 3) (by omega)
       have f0 := Lib.frozen_of_heap HL.out.1 0
       have f1 := Lib.frozen_of_heap HL.out.1 1
       have f2 := Lib.frozen_of_heap HL.out.1 2
       have f3 := Lib.frozen_of_heap HL.out.1 3))
  have hwf : Wf (ofL [32, 9]) := (wf_ofL _)
  have HSV := Lib.hid (SV_eq hwf)
  have hP := HL.out.1.put wf_zero hwf
  have hBP := put4_below HL.out.2.2.2.2 (Nat.le_refl _) (ofL [32, 9])
  rw [put4_eq]
  have m0 := hP.cell hwf (i := 0) (by omega)
  have m1 := hP.cell hwf (i := 1) (by omega)
  have m2 := hP.cell hwf (i := 2) (by omega)
  have m3 := hP.cell hwf (i := 3) (by omega)
  generalize put4 w' w.heap.size (ofL [32, 9]) = WW at *
  exact bodyPost_ret (v := .tuple #[SV (ofL [32, 9]), .bool true]) (by rw [HSV.out]; simp [results, Tryd.results11, go_sem, m0, m1, m2, m3]) rfl ⟨rfl, hBP⟩
set_option maxRecDepth 100000 in
set_option maxHeartbeats 1000000 in
theorem class_space (w : World) :
    Calls Tryd.prog 11 #[.string ⟨#[115, 112, 97, 99, 101]⟩] w fun e w' => e = .returned (.tuple #[SV (ofL [32, 9, 10, 11, 12, 13]), .bool true]) ∧ Below w.heap.size w w' := by
  go_enter Tryd.func11, Tryd.ntmps11
  refine wp_seq_k fun K0 hK => ?_
  have HK := Lib.hid hK; clear hK
  go_wp2
  refine HK.out _ _ ?_
  clear HK K0
  have HC := Lib.hid (show SB (w.alloc (Obj.cells #[Value.int IntKind.u64 0, Value.int IntKind.u64 0, Value.int IntKind.u64 0, Value.int IntKind.u64 0] 25)) w.heap.size zeroW ∧ Below w.heap.size w (w.alloc (Obj.cells #[Value.int IntKind.u64 0, Value.int IntKind.u64 0, Value.int IntKind.u64 0, Value.int IntKind.u64 0] 25)) from ⟨heap_alloc_new w _, (Below.refl _ w).alloc (Nat.le_refl _) _⟩)
  generalize w.alloc (Obj.cells #[Value.int IntKind.u64 0, Value.int IntKind.u64 0, Value.int IntKind.u64 0, Value.int IntKind.u64 0] 25) = W0 at *
  refine wp_seq_k fun K1 hK => ?_
  have HK := Lib.hid hK; clear hK
  go_wp2_with (first
    | (go_at_call 20; refine (range_lit _ _ _ (by omega) (by omega)).mono ?_; rintro e w' ⟨he, hb⟩
       replace HC := Lib.hid (zb_below HC.out hb)
       simp only [Int.reduceToNat] at he
       rw [SV_eq (wf_rangeW (by decide) (by decide))] at he; subst he; clear hb))
  refine HK.out _ _ ?_
  clear HK K1
  have HL := Lib.hid (show Cl w w'.heap.size (((w'.alloc (Obj.cells #[Value.int IntKind.u64 ↑(word (rangeW 65 90) 0), Value.int IntKind.u64 ↑(word (rangeW 65 90) 1), Value.int IntKind.u64 ↑(word (rangeW 65 90) 2), Value.int IntKind.u64 ↑(word (rangeW 65 90) 3)] 25)).alloc (Obj.cells #[Value.int IntKind.u64 ↑(word (rangeW 97 122) 0), Value.int IntKind.u64 ↑(word (rangeW 97 122) 1), Value.int IntKind.u64 ↑(word (rangeW 97 122) 2), Value.int IntKind.u64 ↑(word (rangeW 97 122) 3)] 25)).alloc (Obj.cells #[Value.int IntKind.u64 ↑(word (rangeW 48 57) 0), Value.int IntKind.u64 ↑(word (rangeW 48 57) 1), Value.int IntKind.u64 ↑(word (rangeW 48 57) 2), Value.int IntKind.u64 ↑(word (rangeW 48 57) 3)] 25)) from cl_mk HC.out)
  clear HC
  generalize ((w'.alloc (Obj.cells #[Value.int IntKind.u64 ↑(word (rangeW 65 90) 0), Value.int IntKind.u64 ↑(word (rangeW 65 90) 1), Value.int IntKind.u64 ↑(word (rangeW 65 90) 2), Value.int IntKind.u64 ↑(word (rangeW 65 90) 3)] 25)).alloc (Obj.cells #[Value.int IntKind.u64 ↑(word (rangeW 97 122) 0), Value.int IntKind.u64 ↑(word (rangeW 97 122) 1), Value.int IntKind.u64 ↑(word (rangeW 97 122) 2), Value.int IntKind.u64 ↑(word (rangeW 97 122) 3)] 25)).alloc (Obj.cells #[Value.int IntKind.u64 ↑(word (rangeW 48 57) 0), Value.int IntKind.u64 ↑(word (rangeW 48 57) 1), Value.int IntKind.u64 ↑(word (rangeW 48 57) 2), Value.int IntKind.u64 ↑(word (rangeW 48 57) 3)] 25) = W at *
  generalize w'.heap.size = n at *
  obtain ⟨hz, hu, hlo, hd, hB⟩ := HL.out
  have k0 := SB.cell hz (wf_zero) (i := 0) (by omega)
  have k1 := SB.cell hz (wf_zero) (i := 1) (by omega)
  have k2 := SB.cell hz (wf_zero) (i := 2) (by omega)
  have k3 := SB.cell hz (wf_zero) (i := 3) (by omega)
  have u0 := SB.cell hu (wf_rangeW (by decide) (by decide)) (i := 0) (by omega)
  have u1 := SB.cell hu (wf_rangeW (by decide) (by decide)) (i := 1) (by omega)
  have u2 := SB.cell hu (wf_rangeW (by decide) (by decide)) (i := 2) (by omega)
  have u3 := SB.cell hu (wf_rangeW (by decide) (by decide)) (i := 3) (by omega)
  have l0 := SB.cell hlo (wf_rangeW (by decide) (by decide)) (i := 0) (by omega)
  have l1 := SB.cell hlo (wf_rangeW (by decide) (by decide)) (i := 1) (by omega)
  have l2 := SB.cell hlo (wf_rangeW (by decide) (by decide)) (i := 2) (by omega)
  have l3 := SB.cell hlo (wf_rangeW (by decide) (by decide)) (i := 3) (by omega)
  have d0 := SB.cell hd (wf_rangeW (by decide) (by decide)) (i := 0) (by omega)
  have d1 := SB.cell hd (wf_rangeW (by decide) (by decide)) (i := 1) (by omega)
  have d2 := SB.cell hd (wf_rangeW (by decide) (by decide)) (i := 2) (by omega)
  have d3 := SB.cell hd (wf_rangeW (by decide) (by decide)) (i := 3) (by omega)
  have f0 := Lib.frozen_of_heap hz 0
  have f1 := Lib.frozen_of_heap hz 1
  have f2 := Lib.frozen_of_heap hz 2
  have f3 := Lib.frozen_of_heap hz 3
  clear hz hu hlo hd hB
  go_wp2_with (first
    | (go_at_call 17; refine (of_any [32, 9, 10, 11, 12, 13] _ (by decide)).mono ?_; rintro e w' ⟨he, hb⟩
       first | (replace HL := Lib.hid (Cl.below HL.out hb)) | (replace HL := Lib.hid (Cl.below (Cl.alloc HL.out _) hb))
       rw [SV_eq (wf_ofL _)] at he; subst he; clear hb
       have k0 := SB.cell HL.out.1 wf_zero (i := 0) (by omega)
       have k1 := SB.cell HL.out.1 wf_zero (i := 1) (by omega)
       have k2 := SB.cell HL.out.1 wf_zero (i := 2) (by omega)
       have k3 := SB.cell HL.out.1 wf_zero (i := 3) (by omega)
       have f0 := Lib.frozen_of_heap HL.out.1 0
       have f1 := Lib.frozen_of_heap HL.out.1 1
       have f2 := Lib.frozen_of_heap HL.out.1 2
       have f3 := Lib.frozen_of_heap HL.out.1 3))
  have hwf : Wf (ofL [32, 9, 10, 11, 12, 13]) := (wf_ofL _)
  have HSV := Lib.hid (SV_eq hwf)
  have hP := HL.out.1.put wf_zero hwf
  have hBP := put4_below HL.out.2.2.2.2 (Nat.le_refl _) (ofL [32, 9, 10, 11, 12, 13])
  rw [put4_eq]
  have m0 := hP.cell hwf (i := 0) (by omega)
  have m1 := hP.cell hwf (i := 1) (by omega)
  have m2 := hP.cell hwf (i := 2) (by omega)
  have m3 := hP.cell hwf (i := 3) (by omega)
  generalize put4 w' w.heap.size (ofL [32, 9, 10, 11, 12, 13]) = WW at *
  exact bodyPost_ret (v := .tuple #[SV (ofL [32, 9, 10, 11, 12, 13]), .bool true]) (by rw [HSV.out]; simp [results, Tryd.results11, go_sem, m0, m1, m2, m3]) rfl ⟨rfl, hBP⟩
set_option maxRecDepth 100000 in
set_option maxHeartbeats 1000000 in
theorem class_cntrl (w : World) :
    Calls Tryd.prog 11 #[.string ⟨#[99, 110, 116, 114, 108]⟩] w fun e w' => e = .returned (.tuple #[SV (orL [rangeW 0 31, ofL [127]]), .bool true]) ∧ Below w.heap.size w w' := by
  go_enter Tryd.func11, Tryd.ntmps11
  refine wp_seq_k fun K0 hK => ?_
  have HK := Lib.hid hK; clear hK
  go_wp2
  refine HK.out _ _ ?_
  clear HK K0
  have HC := Lib.hid (show SB (w.alloc (Obj.cells #[Value.int IntKind.u64 0, Value.int IntKind.u64 0, Value.int IntKind.u64 0, Value.int IntKind.u64 0] 25)) w.heap.size zeroW ∧ Below w.heap.size w (w.alloc (Obj.cells #[Value.int IntKind.u64 0, Value.int IntKind.u64 0, Value.int IntKind.u64 0, Value.int IntKind.u64 0] 25)) from ⟨heap_alloc_new w _, (Below.refl _ w).alloc (Nat.le_refl _) _⟩)
  generalize w.alloc (Obj.cells #[Value.int IntKind.u64 0, Value.int IntKind.u64 0, Value.int IntKind.u64 0, Value.int IntKind.u64 0] 25) = W0 at *
  refine wp_seq_k fun K1 hK => ?_
  have HK := Lib.hid hK; clear hK
  go_wp2_with (first
    | (go_at_call 20; refine (range_lit _ _ _ (by omega) (by omega)).mono ?_; rintro e w' ⟨he, hb⟩
       replace HC := Lib.hid (zb_below HC.out hb)
       simp only [Int.reduceToNat] at he
       rw [SV_eq (wf_rangeW (by decide) (by decide))] at he; subst he; clear hb))
  refine HK.out _ _ ?_
  clear HK K1
  have HL := Lib.hid (show Cl w w'.heap.size (((w'.alloc (Obj.cells #[Value.int IntKind.u64 ↑(word (rangeW 65 90) 0), Value.int IntKind.u64 ↑(word (rangeW 65 90) 1), Value.int IntKind.u64 ↑(word (rangeW 65 90) 2), Value.int IntKind.u64 ↑(word (rangeW 65 90) 3)] 25)).alloc (Obj.cells #[Value.int IntKind.u64 ↑(word (rangeW 97 122) 0), Value.int IntKind.u64 ↑(word (rangeW 97 122) 1), Value.int IntKind.u64 ↑(word (rangeW 97 122) 2), Value.int IntKind.u64 ↑(word (rangeW 97 122) 3)] 25)).alloc (Obj.cells #[Value.int IntKind.u64 ↑(word (rangeW 48 57) 0), Value.int IntKind.u64 ↑(word (rangeW 48 57) 1), Value.int IntKind.u64 ↑(word (rangeW 48 57) 2), Value.int IntKind.u64 ↑(word (rangeW 48 57) 3)] 25)) from cl_mk HC.out)
  clear HC
  generalize ((w'.alloc (Obj.cells #[Value.int IntKind.u64 ↑(word (rangeW 65 90) 0), Value.int IntKind.u64 ↑(word (rangeW 65 90) 1), Value.int IntKind.u64 ↑(word (rangeW 65 90) 2), Value.int IntKind.u64 ↑(word (rangeW 65 90) 3)] 25)).alloc (Obj.cells #[Value.int IntKind.u64 ↑(word (rangeW 97 122) 0), Value.int IntKind.u64 ↑(word (rangeW 97 122) 1), Value.int IntKind.u64 ↑(word (rangeW 97 122) 2), Value.int IntKind.u64 ↑(word (rangeW 97 122) 3)] 25)).alloc (Obj.cells #[Value.int IntKind.u64 ↑(word (rangeW 48 57) 0), Value.int IntKind.u64 ↑(word (rangeW 48 57) 1), Value.int IntKind.u64 ↑(word (rangeW 48 57) 2), Value.int IntKind.u64 ↑(word (rangeW 48 57) 3)] 25) = W at *
  generalize w'.heap.size = n at *
  obtain ⟨hz, hu, hlo, hd, hB⟩ := HL.out
  have k0 := SB.cell hz (wf_zero) (i := 0) (by omega)
  have k1 := SB.cell hz (wf_zero) (i := 1) (by omega)
  have k2 := SB.cell hz (wf_zero) (i := 2) (by omega)
  have k3 := SB.cell hz (wf_zero) (i := 3) (by omega)
  have u0 := SB.cell hu (wf_rangeW (by decide) (by decide)) (i := 0) (by omega)
  have u1 := SB.cell hu (wf_rangeW (by decide) (by decide)) (i := 1) (by omega)
  have u2 := SB.cell hu (wf_rangeW (by decide) (by decide)) (i := 2) (by omega)
  have u3 := SB.cell hu (wf_rangeW (by decide) (by decide)) (i := 3) (by omega)
  have l0 := SB.cell hlo (wf_rangeW (by decide) (by decide)) (i := 0) (by omega)
  have l1 := SB.cell hlo (wf_rangeW (by decide) (by decide)) (i := 1) (by omega)
  have l2 := SB.cell hlo (wf_rangeW (by decide) (by decide)) (i := 2) (by omega)
  have l3 := SB.cell hlo (wf_rangeW (by decide) (by decide)) (i := 3) (by omega)
  have d0 := SB.cell hd (wf_rangeW (by decide) (by decide)) (i := 0) (by omega)
  have d1 := SB.cell hd (wf_rangeW (by decide) (by decide)) (i := 1) (by omega)
  have d2 := SB.cell hd (wf_rangeW (by decide) (by decide)) (i := 2) (by omega)
  have d3 := SB.cell hd (wf_rangeW (by decide) (by decide)) (i := 3) (by omega)
  have f0 := Lib.frozen_of_heap hz 0
  have f1 := Lib.frozen_of_heap hz 1
  have f2 := Lib.frozen_of_heap hz 2
  have f3 := Lib.frozen_of_heap hz 3
  clear hz hu hlo hd hB
  go_wp2_with (first
    | (go_at_call 20; refine (range_lit _ _ _ (by omega) (by omega)).mono ?_; rintro e w' ⟨he, hb⟩
       first | (replace HL := Lib.hid (Cl.below HL.out hb)) | (replace HL := Lib.hid (Cl.below (Cl.alloc HL.out _) hb))
       simp only [Int.reduceToNat] at he
       rw [SV_eq (wf_rangeW (by decide) (by decide))] at he; subst he; clear hb
       have k0 := SB.cell HL.out.1 wf_zero (i := 0) (by omega)
       have k1 := SB.cell HL.out.1 wf_zero (i := 1) (by omega)
       have k2 := SB.cell HL.out.1 wf_zero (i := 2) (by omega)
       have k3 := SB.cell HL.out.1 wf_zero (i := 3) (by omega)
       have f0 := Lib.frozen_of_heap HL.out.1 0
       have f1 := Lib.frozen_of_heap HL.out.1 1
       have f2 := Lib.frozen_of_heap HL.out.1 2
       have f3 := Lib.frozen_of_heap HL.out.1 3)
    | (go_at_call 17; refine (of_any [127] _ (by decide)).mono ?_; rintro e w' ⟨he, hb⟩
       first | (replace HL := Lib.hid (Cl.below HL.out hb)) | (replace HL := Lib.hid (Cl.below (Cl.alloc HL.out _) hb))
       rw [SV_eq (wf_ofL _)] at he; subst he; clear hb
       have k0 := SB.cell HL.out.1 wf_zero (i := 0) (by omega)
       have k1 := SB.cell HL.out.1 wf_zero (i := 1) (by omega)
       have k2 := SB.cell HL.out.1 wf_zero (i := 2) (by omega)
       have k3 := SB.cell HL.out.1 wf_zero (i := 3) (by omega)
       have f0 := Lib.frozen_of_heap HL.out.1 0
       have f1 := Lib.frozen_of_heap HL.out.1 1
       have f2 := Lib.frozen_of_heap HL.out.1 2
       have f3 := Lib.frozen_of_heap HL.out.1 3)
    | (go_at_call 15; refine (or_any [rangeW 0 31, ofL [127]] _ _ (wf_all (by simp [wf_rangeW, wf_ofL])) (by simp) (by simp) (lsL (heap_alloc_new _ _) rfl)).mono ?_; rintro e w' ⟨he, hb⟩
       first | (replace HL := Lib.hid (Cl.below HL.out hb)) | (replace HL := Lib.hid (Cl.below (Cl.alloc HL.out _) hb))
       rw [SV_eq (wf_orL (wf_all (by simp [wf_rangeW, wf_ofL])))] at he; subst he; clear hb
       have k0 := SB.cell HL.out.1 wf_zero (i := 0) (by omega)
       have k1 := SB.cell HL.out.1 wf_zero (i := 1) (by omega)
       have k2 := SB.cell HL.out.1 wf_zero (i := 2) (by omega)
       have k3 := SB.cell HL.out.1 wf_zero (i := 3) (by omega)
       have f0 := Lib.frozen_of_heap HL.out.1 0
       have f1 := Lib.frozen_of_heap HL.out.1 1
       have f2 := Lib.frozen_of_heap HL.out.1 2
       have f3 := Lib.frozen_of_heap HL.out.1 3))
  have hwf : Wf (orL [rangeW 0 31, ofL [127]]) := (wf_orL (wf_all (by simp [wf_rangeW, wf_ofL])))
  have HSV := Lib.hid (SV_eq hwf)
  have hP := HL.out.1.put wf_zero hwf
  have hBP := put4_below HL.out.2.2.2.2 (Nat.le_refl _) (orL [rangeW 0 31, ofL [127]])
  rw [put4_eq]
  have m0 := hP.cell hwf (i := 0) (by omega)
  have m1 := hP.cell hwf (i := 1) (by omega)
  have m2 := hP.cell hwf (i := 2) (by omega)
  have m3 := hP.cell hwf (i := 3) (by omega)
  generalize put4 w' w.heap.size (orL [rangeW 0 31, ofL [127]]) = WW at *
  exact bodyPost_ret (v := .tuple #[SV (orL [rangeW 0 31, ofL [127]]), .bool true]) (by rw [HSV.out]; simp [results, Tryd.results11, go_sem, m0, m1, m2, m3]) rfl ⟨rfl, hBP⟩
set_option maxRecDepth 100000 in
set_option maxHeartbeats 1000000 in
theorem class_graph (w : World) :
    Calls Tryd.prog 11 #[.string ⟨#[103, 114, 97, 112, 104]⟩] w fun e w' => e = .returned (.tuple #[SV (rangeW 33 126), .bool true]) ∧ Below w.heap.size w w' := by
  go_enter Tryd.func11, Tryd.ntmps11
  refine wp_seq_k fun K0 hK => ?_
  have HK := Lib.hid hK; clear hK
  go_wp2
  refine HK.out _ _ ?_
  clear HK K0
  have HC := Lib.hid (show SB (w.alloc (Obj.cells #[Value.int IntKind.u64 0, Value.int IntKind.u64 0, Value.int IntKind.u64 0, Value.int IntKind.u64 0] 25)) w.heap.size zeroW ∧ Below w.heap.size w (w.alloc (Obj.cells #[Value.int IntKind.u64 0, Value.int IntKind.u64 0, Value.int IntKind.u64 0, Value.int IntKind.u64 0] 25)) from ⟨heap_alloc_new w _, (Below.refl _ w).alloc (Nat.le_refl _) _⟩)
  generalize w.alloc (Obj.cells #[Value.int IntKind.u64 0, Value.int IntKind.u64 0, Value.int IntKind.u64 0, Value.int IntKind.u64 0] 25) = W0 at *
  refine wp_seq_k fun K1 hK => ?_
  have HK := Lib.hid hK; clear hK
  go_wp2_with (first
    | (go_at_call 20; refine (range_lit _ _ _ (by omega) (by omega)).mono ?_; rintro e w' ⟨he, hb⟩
       replace HC := Lib.hid (zb_below HC.out hb)
       simp only [Int.reduceToNat] at he
       rw [SV_eq (wf_rangeW (by decide) (by decide))] at he; subst he; clear hb))
  refine HK.out _ _ ?_
  clear HK K1
  have HL := Lib.hid (show Cl w w'.heap.size (((w'.alloc (Obj.cells #[Value.int IntKind.u64 ↑(word (rangeW 65 90) 0), Value.int IntKind.u64 ↑(word (rangeW 65 90) 1), Value.int IntKind.u64 ↑(word (rangeW 65 90) 2), Value.int IntKind.u64 ↑(word (rangeW 65 90) 3)] 25)).alloc (Obj.cells #[Value.int IntKind.u64 ↑(word (rangeW 97 122) 0), Value.int IntKind.u64 ↑(word (rangeW 97 122) 1), Value.int IntKind.u64 ↑(word (rangeW 97 122) 2), Value.int IntKind.u64 ↑(word (rangeW 97 122) 3)] 25)).alloc (Obj.cells #[Value.int IntKind.u64 ↑(word (rangeW 48 57) 0), Value.int IntKind.u64 ↑(word (rangeW 48 57) 1), Value.int IntKind.u64 ↑(word (rangeW 48 57) 2), Value.int IntKind.u64 ↑(word (rangeW 48 57) 3)] 25)) from cl_mk HC.out)
  clear HC
  generalize ((w'.alloc (Obj.cells #[Value.int IntKind.u64 ↑(word (rangeW 65 90) 0), Value.int IntKind.u64 ↑(word (rangeW 65 90) 1), Value.int IntKind.u64 ↑(word (rangeW 65 90) 2), Value.int IntKind.u64 ↑(word (rangeW 65 90) 3)] 25)).alloc (Obj.cells #[Value.int IntKind.u64 ↑(word (rangeW 97 122) 0), Value.int IntKind.u64 ↑(word (rangeW 97 122) 1), Value.int IntKind.u64 ↑(word (rangeW 97 122) 2), Value.int IntKind.u64 ↑(word (rangeW 97 122) 3)] 25)).alloc (Obj.cells #[Value.int IntKind.u64 ↑(word (rangeW 48 57) 0), Value.int IntKind.u64 ↑(word (rangeW 48 57) 1), Value.int IntKind.u64 ↑(word (rangeW 48 57) 2), Value.int IntKind.u64 ↑(word (rangeW 48 57) 3)] 25) = W at *
  generalize w'.heap.size = n at *
  obtain ⟨hz, hu, hlo, hd, hB⟩ := HL.out
  have k0 := SB.cell hz (wf_zero) (i := 0) (by omega)
  have k1 := SB.cell hz (wf_zero) (i := 1) (by omega)
  have k2 := SB.cell hz (wf_zero) (i := 2) (by omega)
  have k3 := SB.cell hz (wf_zero) (i := 3) (by omega)
  have u0 := SB.cell hu (wf_rangeW (by decide) (by decide)) (i := 0) (by omega)
  have u1 := SB.cell hu (wf_rangeW (by decide) (by decide)) (i := 1) (by omega)
  have u2 := SB.cell hu (wf_rangeW (by decide) (by decide)) (i := 2) (by omega)
  have u3 := SB.cell hu (wf_rangeW (by decide) (by decide)) (i := 3) (by omega)
  have l0 := SB.cell hlo (wf_rangeW (by decide) (by decide)) (i := 0) (by omega)
  have l1 := SB.cell hlo (wf_rangeW (by decide) (by decide)) (i := 1) (by omega)
  have l2 := SB.cell hlo (wf_rangeW (by decide) (by decide)) (i := 2) (by omega)
  have l3 := SB.cell hlo (wf_rangeW (by decide) (by decide)) (i := 3) (by omega)
  have d0 := SB.cell hd (wf_rangeW (by decide) (by decide)) (i := 0) (by omega)
  have d1 := SB.cell hd (wf_rangeW (by decide) (by decide)) (i := 1) (by omega)
  have d2 := SB.cell hd (wf_rangeW (by decide) (by decide)) (i := 2) (by omega)
  have d3 := SB.cell hd (wf_rangeW (by decide) (by decide)) (i := 3) (by omega)
  have f0 := Lib.frozen_of_heap hz 0
  have f1 := Lib.frozen_of_heap hz 1
  have f2 := Lib.frozen_of_heap hz 2
  have f3 := Lib.frozen_of_heap hz 3
  clear hz hu hlo hd hB
  go_wp2_with (first
    | (go_at_call 20; refine (range_lit _ _ _ (by omega) (by omega)).mono ?_; rintro e w' ⟨he, hb⟩
       first | (replace HL := Lib.hid (Cl.below HL.out hb)) | (replace HL := Lib.hid (Cl.below (Cl.alloc HL.out _) hb))
       simp only [Int.reduceToNat] at he
       rw [SV_eq (wf_rangeW (by decide) (by decide))] at he; subst he; clear hb
       have k0 := SB.cell HL.out.1 wf_zero (i := 0) (by omega)
       have k1 := SB.cell HL.out.1 wf_zero (i := 1) (by omega)
       have k2 := SB.cell HL.out.1 wf_zero (i := 2) (by omega)
       have k3 := SB.cell HL.out.1 wf_zero (i := 3) (by omega)
       have f0 := Lib.frozen_of_heap HL.out.1 0
       have f1 := Lib.frozen_of_heap HL.out.1 1
       have f2 := Lib.frozen_of_heap HL.out.1 2
       have f3 := Lib.frozen_of_heap HL.out.1 3))
  have hwf : Wf (rangeW 33 126) := (wf_rangeW (by decide) (by decide))
  have HSV := Lib.hid (SV_eq hwf)
  have hP := HL.out.1.put wf_zero hwf
  have hBP := put4_below HL.out.2.2.2.2 (Nat.le_refl _) (rangeW 33 126)
  rw [put4_eq]
  have m0 := hP.cell hwf (i := 0) (by omega)
  have m1 := hP.cell hwf (i := 1) (by omega)
  have m2 := hP.cell hwf (i := 2) (by omega)
  have m3 := hP.cell hwf (i := 3) (by omega)
  generalize put4 w' w.heap.size (rangeW 33 126) = WW at *
  exact bodyPost_ret (v := .tuple #[SV (rangeW 33 126), .bool true]) (by rw [HSV.out]; simp [results, Tryd.results11, go_sem, m0, m1, m2, m3]) rfl ⟨rfl, hBP⟩
set_option maxRecDepth 100000 in
set_option maxHeartbeats 1000000 in
theorem class_print (w : World) :
    Calls Tryd.prog 11 #[.string ⟨#[112, 114, 105, 110, 116]⟩] w fun e w' => e = .returned (.tuple #[SV (rangeW 32 126), .bool true]) ∧ Below w.heap.size w w' := by
  go_enter Tryd.func11, Tryd.ntmps11
  refine wp_seq_k fun K0 hK => ?_
  have HK := Lib.hid hK; clear hK
  go_wp2
  refine HK.out _ _ ?_
  clear HK K0
  have HC := Lib.hid (show SB (w.alloc (Obj.cells #[Value.int IntKind.u64 0, Value.int IntKind.u64 0, Value.int IntKind.u64 0, Value.int IntKind.u64 0] 25)) w.heap.size zeroW ∧ Below w.heap.size w (w.alloc (Obj.cells #[Value.int IntKind.u64 0, Value.int IntKind.u64 0, Value.int IntKind.u64 0, Value.int IntKind.u64 0] 25)) from ⟨heap_alloc_new w _, (Below.refl _ w).alloc (Nat.le_refl _) _⟩)
  generalize w.alloc (Obj.cells #[Value.int IntKind.u64 0, Value.int IntKind.u64 0, Value.int IntKind.u64 0, Value.int IntKind.u64 0] 25) = W0 at *
  refine wp_seq_k fun K1 hK => ?_
  have HK := Lib.hid hK; clear hK
  go_wp2_with (first
    | (go_at_call 20; refine (range_lit _ _ _ (by omega) (by omega)).mono ?_; rintro e w' ⟨he, hb⟩
       replace HC := Lib.hid (zb_below HC.out hb)
       simp only [Int.reduceToNat] at he
       rw [SV_eq (wf_rangeW (by decide) (by decide))] at he; subst he; clear hb))
  refine HK.out _ _ ?_
  clear HK K1
  have HL := Lib.hid (show Cl w w'.heap.size (((w'.alloc (Obj.cells #[Value.int IntKind.u64 ↑(word (rangeW 65 90) 0), Value.int IntKind.u64 ↑(word (rangeW 65 90) 1), Value.int IntKind.u64 ↑(word (rangeW 65 90) 2), Value.int IntKind.u64 ↑(word (rangeW 65 90) 3)] 25)).alloc (Obj.cells #[Value.int IntKind.u64 ↑(word (rangeW 97 122) 0), Value.int IntKind.u64 ↑(word (rangeW 97 122) 1), Value.int IntKind.u64 ↑(word (rangeW 97 122) 2), Value.int IntKind.u64 ↑(word (rangeW 97 122) 3)] 25)).alloc (Obj.cells #[Value.int IntKind.u64 ↑(word (rangeW 48 57) 0), Value.int IntKind.u64 ↑(word (rangeW 48 57) 1), Value.int IntKind.u64 ↑(word (rangeW 48 57) 2), Value.int IntKind.u64 ↑(word (rangeW 48 57) 3)] 25)) from cl_mk HC.out)
  clear HC
  generalize ((w'.alloc (Obj.cells #[Value.int IntKind.u64 ↑(word (rangeW 65 90) 0), Value.int IntKind.u64 ↑(word (rangeW 65 90) 1), Value.int IntKind.u64 ↑(word (rangeW 65 90) 2), Value.int IntKind.u64 ↑(word (rangeW 65 90) 3)] 25)).alloc (Obj.cells #[Value.int IntKind.u64 ↑(word (rangeW 97 122) 0), Value.int IntKind.u64 ↑(word (rangeW 97 122) 1), Value.int IntKind.u64 ↑(word (rangeW 97 122) 2), Value.int IntKind.u64 ↑(word (rangeW 97 122) 3)] 25)).alloc (Obj.cells #[Value.int IntKind.u64 ↑(word (rangeW 48 57) 0), Value.int IntKind.u64 ↑(word (rangeW 48 57) 1), Value.int IntKind.u64 ↑(word (rangeW 48 57) 2), Value.int IntKind.u64 ↑(word (rangeW 48 57) 3)] 25) = W at *
  generalize w'.heap.size = n at *
  obtain ⟨hz, hu, hlo, hd, hB⟩ := HL.out
  have k0 := SB.cell hz (wf_zero) (i := 0) (by omega)
  have k1 := SB.cell hz (wf_zero) (i := 1) (by omega)
  have k2 := SB.cell hz (wf_zero) (i := 2) (by omega)
  have k3 := SB.cell hz (wf_zero) (i := 3) (by omega)
  have u0 := SB.cell hu (wf_rangeW (by decide) (by decide)) (i := 0) (by omega)
  have u1 := SB.cell hu (wf_rangeW (by decide) (by decide)) (i := 1) (by omega)
  have u2 := SB.cell hu (wf_rangeW (by decide) (by decide)) (i := 2) (by omega)
  have u3 := SB.cell hu (wf_rangeW (by decide) (by decide)) (i := 3) (by omega)
  have l0 := SB.cell hlo (wf_rangeW (by decide) (by decide)) (i := 0) (by omega)
  have l1 := SB.cell hlo (wf_rangeW (by decide) (by decide)) (i := 1) (by omega)
  have l2 := SB.cell hlo (wf_rangeW (by decide) (by decide)) (i := 2) (by omega)
  have l3 := SB.cell hlo (wf_rangeW (by decide) (by decide)) (i := 3) (by omega)
  have d0 := SB.cell hd (wf_rangeW (by decide) (by decide)) (i := 0) (by omega)
  have d1 := SB.cell hd (wf_rangeW (by decide) (by decide)) (i := 1) (by omega)
  have d2 := SB.cell hd (wf_rangeW (by decide) (by decide)) (i := 2) (by omega)
  have d3 := SB.cell hd (wf_rangeW (by decide) (by decide)) (i := 3) (by omega)
  have f0 := Lib.frozen_of_heap hz 0
  have f1 := Lib.frozen_of_heap hz 1
  have f2 := Lib.frozen_of_heap hz 2
  have f3 := Lib.frozen_of_heap hz 3
  clear hz hu hlo hd hB
  go_wp2_with (first
    | (go_at_call 20; refine (range_lit _ _ _ (by omega) (by omega)).mono ?_; rintro e w' ⟨he, hb⟩
       first | (replace HL := Lib.hid (Cl.below HL.out hb)) | (replace HL := Lib.hid (Cl.below (Cl.alloc HL.out _) hb))
       simp only [Int.reduceToNat] at he
       rw [SV_eq (wf_rangeW (by decide) (by decide))] at he; subst he; clear hb
       have k0 := SB.cell HL.out.1 wf_zero (i := 0) (by omega)
       have k1 := SB.cell HL.out.1 wf_zero (i := 1) (by omega)
       have k2 := SB.cell HL.out.1 wf_zero (i := 2) (by omega)
       have k3 := SB.cell HL.out.1 wf_zero (i := 3) (by omega)
       have f0 := Lib.frozen_of_heap HL.out.1 0
       have f1 := Lib.frozen_of_heap HL.out.1 1
       have f2 := Lib.frozen_of_heap HL.out.1 2
       have f3 := Lib.frozen_of_heap HL.out.1 3))
  have hwf : Wf (rangeW 32 126) := (wf_rangeW (by decide) (by decide))
  have HSV := Lib.hid (SV_eq hwf)
  have hP := HL.out.1.put wf_zero hwf
  have hBP := put4_below HL.out.2.2.2.2 (Nat.le_refl _) (rangeW 32 126)
  rw [put4_eq]
  have m0 := hP.cell hwf (i := 0) (by omega)
  have m1 := hP.cell hwf (i := 1) (by omega)
  have m2 := hP.cell hwf (i := 2) (by omega)
  have m3 := hP.cell hwf (i := 3) (by omega)
  generalize put4 w' w.heap.size (rangeW 32 126) = WW at *
  exact bodyPost_ret (v := .tuple #[SV (rangeW 32 126), .bool true]) (by rw [HSV.out]; simp [results, Tryd.results11, go_sem, m0, m1, m2, m3]) rfl ⟨rfl, hBP⟩
set_option maxRecDepth 100000 in
set_option maxHeartbeats 1000000 in
theorem class_none (s : ByteArray) (h0 : (s.toList == [117, 112, 112, 101, 114]) = false) (h1 : (s.toList == [108, 111, 119, 101, 114]) = false) (h2 : (s.toList == [97, 108, 112, 104, 97]) = false) (h3 : (s.toList == [100, 105, 103, 105, 116]) = false) (h4 : (s.toList == [97, 108, 110, 117, 109]) = false) (h5 : (s.toList == [120, 100, 105, 103, 105, 116]) = false) (h6 : (s.toList == [98, 108, 97, 110, 107]) = false) (h7 : (s.toList == [115, 112, 97, 99, 101]) = false) (h8 : (s.toList == [99, 110, 116, 114, 108]) = false) (h9 : (s.toList == [103, 114, 97, 112, 104]) = false) (h10 : (s.toList == [112, 114, 105, 110, 116]) = false) (h11 : (s.toList == [112, 117, 110, 99, 116]) = false) (w : World) :
    Calls Tryd.prog 11 #[.string s] w fun e w' => e = .returned (.tuple #[SV (zeroW), .bool false]) ∧ Below w.heap.size w w' := by
  go_enter Tryd.func11, Tryd.ntmps11
  refine wp_seq_k fun K0 hK => ?_
  have HK := Lib.hid hK; clear hK
  go_wp2
  refine HK.out _ _ ?_
  clear HK K0
  have HC := Lib.hid (show SB (w.alloc (Obj.cells #[Value.int IntKind.u64 0, Value.int IntKind.u64 0, Value.int IntKind.u64 0, Value.int IntKind.u64 0] 25)) w.heap.size zeroW ∧ Below w.heap.size w (w.alloc (Obj.cells #[Value.int IntKind.u64 0, Value.int IntKind.u64 0, Value.int IntKind.u64 0, Value.int IntKind.u64 0] 25)) from ⟨heap_alloc_new w _, (Below.refl _ w).alloc (Nat.le_refl _) _⟩)
  generalize w.alloc (Obj.cells #[Value.int IntKind.u64 0, Value.int IntKind.u64 0, Value.int IntKind.u64 0, Value.int IntKind.u64 0] 25) = W0 at *
  refine wp_seq_k fun K1 hK => ?_
  have HK := Lib.hid hK; clear hK
  go_wp2_with (first
    | (go_at_call 20; refine (range_lit _ _ _ (by omega) (by omega)).mono ?_; rintro e w' ⟨he, hb⟩
       replace HC := Lib.hid (zb_below HC.out hb)
       simp only [Int.reduceToNat] at he
       rw [SV_eq (wf_rangeW (by decide) (by decide))] at he; subst he; clear hb))
  refine HK.out _ _ ?_
  clear HK K1
  have HL := Lib.hid (show Cl w w'.heap.size (((w'.alloc (Obj.cells #[Value.int IntKind.u64 ↑(word (rangeW 65 90) 0), Value.int IntKind.u64 ↑(word (rangeW 65 90) 1), Value.int IntKind.u64 ↑(word (rangeW 65 90) 2), Value.int IntKind.u64 ↑(word (rangeW 65 90) 3)] 25)).alloc (Obj.cells #[Value.int IntKind.u64 ↑(word (rangeW 97 122) 0), Value.int IntKind.u64 ↑(word (rangeW 97 122) 1), Value.int IntKind.u64 ↑(word (rangeW 97 122) 2), Value.int IntKind.u64 ↑(word (rangeW 97 122) 3)] 25)).alloc (Obj.cells #[Value.int IntKind.u64 ↑(word (rangeW 48 57) 0), Value.int IntKind.u64 ↑(word (rangeW 48 57) 1), Value.int IntKind.u64 ↑(word (rangeW 48 57) 2), Value.int IntKind.u64 ↑(word (rangeW 48 57) 3)] 25)) from cl_mk HC.out)
  clear HC
  generalize ((w'.alloc (Obj.cells #[Value.int IntKind.u64 ↑(word (rangeW 65 90) 0), Value.int IntKind.u64 ↑(word (rangeW 65 90) 1), Value.int IntKind.u64 ↑(word (rangeW 65 90) 2), Value.int IntKind.u64 ↑(word (rangeW 65 90) 3)] 25)).alloc (Obj.cells #[Value.int IntKind.u64 ↑(word (rangeW 97 122) 0), Value.int IntKind.u64 ↑(word (rangeW 97 122) 1), Value.int IntKind.u64 ↑(word (rangeW 97 122) 2), Value.int IntKind.u64 ↑(word (rangeW 97 122) 3)] 25)).alloc (Obj.cells #[Value.int IntKind.u64 ↑(word (rangeW 48 57) 0), Value.int IntKind.u64 ↑(word (rangeW 48 57) 1), Value.int IntKind.u64 ↑(word (rangeW 48 57) 2), Value.int IntKind.u64 ↑(word (rangeW 48 57) 3)] 25) = W at *
  generalize w'.heap.size = n at *
  obtain ⟨hz, hu, hlo, hd, hB⟩ := HL.out
  have k0 := SB.cell hz (wf_zero) (i := 0) (by omega)
  have k1 := SB.cell hz (wf_zero) (i := 1) (by omega)
  have k2 := SB.cell hz (wf_zero) (i := 2) (by omega)
  have k3 := SB.cell hz (wf_zero) (i := 3) (by omega)
  have u0 := SB.cell hu (wf_rangeW (by decide) (by decide)) (i := 0) (by omega)
  have u1 := SB.cell hu (wf_rangeW (by decide) (by decide)) (i := 1) (by omega)
  have u2 := SB.cell hu (wf_rangeW (by decide) (by decide)) (i := 2) (by omega)
  have u3 := SB.cell hu (wf_rangeW (by decide) (by decide)) (i := 3) (by omega)
  have l0 := SB.cell hlo (wf_rangeW (by decide) (by decide)) (i := 0) (by omega)
  have l1 := SB.cell hlo (wf_rangeW (by decide) (by decide)) (i := 1) (by omega)
  have l2 := SB.cell hlo (wf_rangeW (by decide) (by decide)) (i := 2) (by omega)
  have l3 := SB.cell hlo (wf_rangeW (by decide) (by decide)) (i := 3) (by omega)
  have d0 := SB.cell hd (wf_rangeW (by decide) (by decide)) (i := 0) (by omega)
  have d1 := SB.cell hd (wf_rangeW (by decide) (by decide)) (i := 1) (by omega)
  have d2 := SB.cell hd (wf_rangeW (by decide) (by decide)) (i := 2) (by omega)
  have d3 := SB.cell hd (wf_rangeW (by decide) (by decide)) (i := 3) (by omega)
  have f0 := Lib.frozen_of_heap hz 0
  have f1 := Lib.frozen_of_heap hz 1
  have f2 := Lib.frozen_of_heap hz 2
  have f3 := Lib.frozen_of_heap hz 3
  clear hz hu hlo hd hB
  go_wp2
  have hwf : Wf (zeroW) := wf_zero
  have HSV := Lib.hid (SV_eq hwf)
  have hP := HL.out.1.put wf_zero hwf
  have hBP := put4_below HL.out.2.2.2.2 (Nat.le_refl _) (zeroW)
  rw [put4_zero]
  have m0 := hP.cell hwf (i := 0) (by omega)
  have m1 := hP.cell hwf (i := 1) (by omega)
  have m2 := hP.cell hwf (i := 2) (by omega)
  have m3 := hP.cell hwf (i := 3) (by omega)
  generalize put4 W w.heap.size (zeroW) = WW at *
  exact bodyPost_ret (v := .tuple #[SV (zeroW), .bool false]) (by rw [HSV.out]; simp [results, Tryd.results11, go_sem, m0, m1, m2, m3]) rfl ⟨rfl, hBP⟩
end Go.Proofs.YtmlgbjdohijlnaaDoor.St
