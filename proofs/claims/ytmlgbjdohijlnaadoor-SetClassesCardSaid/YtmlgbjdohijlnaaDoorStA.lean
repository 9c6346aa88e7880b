/- Sets of bytes: Class, at each name. -/
import Derived.Test.YtmlgbjdohijlnaaDoorSt4
namespace Go.Proofs.YtmlgbjdohijlnaaDoor.St
open Go.RowKit
set_option linter.unusedVariables false
set_option linter.unusedSimpArgs false
theorem sb_below {X Y : World} {b : Nat} {ws : List Nat} (h : SB X b ws) (hb : Below X.heap.size X Y) : SB Y b ws := (hb.block b (Array.getElem?_eq_some_iff.1 h).1).trans h
theorem sb_alloc {X : World} {b : Nat} {ws : List Nat} (h : SB X b ws) (o : Obj) : SB (X.alloc o) b ws := (heap_alloc_old _ _ (Array.getElem?_eq_some_iff.1 h).1).trans h
theorem wf_rng (a b : Int) (ha : a.toNat < 256) (hb : b.toNat < 256) : Wf (rangeW a.toNat b.toNat) := wf_rangeW ha hb
theorem range_lit (a b : Int) (w : World) (ha : 0 ≤ a ∧ a < 256) (hb : 0 ≤ b ∧ b < 256) :
    Calls Tryd.prog 20 #[.int .u8 a, .int .u8 b] w fun e w' => e = .returned (SV (rangeW a.toNat b.toNat)) ∧ Below w.heap.size w w' := by
  have h := range_any (UInt8.ofNat a.toNat) (UInt8.ofNat b.toNat) w
  have ea : (UInt8.ofNat a.toNat).toNat = a.toNat := by simp [UInt8.toNat_ofNat]; omega
  have eb : (UInt8.ofNat b.toNat).toNat = b.toNat := by simp [UInt8.toNat_ofNat]; omega
  rw [ea, eb] at h
  rw [show ((a.toNat : Nat) : Int) = a from by omega, show ((b.toNat : Nat) : Int) = b from by omega] at h
  exact h

def cellsL (l : List (List Nat)) : List Value := l.flatMap fun s => [.int .u64 (word s 0 : Int), .int .u64 (word s 1 : Int), .int .u64 (word s 2 : Int), .int .u64 (word s 3 : Int)]
theorem cellsL_at : ∀ (l : List (List Nat)) (k : Nat) (h : k < l.length) (j : Nat), j < 4 → (cellsL l)[k * 4 + j]? = some (.int .u64 (word l[k] j : Int))
  | s :: r, 0, _, j, hj => by
    match j, hj with
    | 0, _ => rfl
    | 1, _ => rfl
    | 2, _ => rfl
    | 3, _ => rfl
  | s :: r, k + 1, h, j, hj => by
    have := cellsL_at r k (by simpa using h) j hj
    rw [show (k + 1) * 4 + j = k * 4 + j + 1 + 1 + 1 + 1 from by omega]
    exact this
theorem lsL {w : World} {b : Nat} {l : List (List Nat)} {c : Array Value} {t : TypeId} {f : Nat × Nat} (h : w.heap[b]? = some (.cells c t f)) (hc : c = (cellsL l).toArray) : Ls w b l := by
  intro k hk j hj
  rw [Lib.cell_of_heap h, hc]
  simpa using cellsL_at l k hk j hj

theorem wf_all {l : List (List Nat)} (h : ∀ v ∈ l, Wf v) : ∀ v ∈ l, Wf v := h
set_option maxHeartbeats 1000000 in
theorem class_punct (w : World) :
    Calls Tryd.prog 11 #[.string ⟨#[112, 117, 110, 99, 116]⟩] w fun e w' => e = .returned (.tuple #[SV (orL [rangeW 33 47, rangeW 58 64, rangeW 91 96, rangeW 123 126]), .bool true]) ∧ Below w.heap.size w w' := by
  have HB := (Below.refl w.heap.size w).alloc (Nat.le_refl _) (Obj.cells #[Value.int IntKind.u64 0, Value.int IntKind.u64 0, Value.int IntKind.u64 0, Value.int IntKind.u64 0] 25)
  have HZ := Lib.hid (show SB _ w.heap.size zeroW from heap_alloc_new w (Obj.cells #[Value.int IntKind.u64 0, Value.int IntKind.u64 0, Value.int IntKind.u64 0, Value.int IntKind.u64 0] 25))
  set_option maxRecDepth 100000 in
  go_enter Tryd.func11, Tryd.ntmps11
  go_wp2_with (first
    | (go_at_call 20; refine (range_lit _ _ _ (by omega) (by omega)).mono ?_; rintro e w' ⟨he, hb⟩
       first
         | (replace HZ := Lib.hid (sb_below HZ.out hb); replace HB := HB.trans (hb.mono HB.size))
         | (replace HZ := Lib.hid (sb_below (sb_alloc (sb_alloc (sb_alloc HZ.out _) _) _) hb); replace HB := ((((HB.alloc HB.size _).alloc (by have := HB.size; simp; omega) _).alloc (by have := HB.size; simp; omega) _)).trans (hb.mono (by have := HB.size; simp; omega)))
       simp only [Int.reduceToNat] at he
       rw [SV_eq (wf_rangeW (by decide) (by decide))] at he; subst he; clear hb)
    | (go_at_call 15; refine (or_any [rangeW 33 47, rangeW 58 64, rangeW 91 96, rangeW 123 126] _ _ (wf_all (by simp [wf_rangeW])) (by simp) (by simp) (lsL (heap_alloc_new _ _) rfl)).mono ?_; rintro e w' ⟨he, hb⟩
       replace HZ := Lib.hid (sb_below (sb_alloc HZ.out _) hb); replace HB := (HB.alloc HB.size _).trans (hb.mono (by have := HB.size; simp; omega))
       rw [SV_eq (wf_orL (wf_all (by simp [wf_rangeW])))] at he; subst he; clear hb
       have S3 := HZ.out
       have k0 := SB.cell S3 wf_zero (i := 0) (by omega)
       have k1 := SB.cell S3 wf_zero (i := 1) (by omega)
       have k2 := SB.cell S3 wf_zero (i := 2) (by omega)
       have k3 := SB.cell S3 wf_zero (i := 3) (by omega)
       have f0 := Lib.frozen_of_heap S3 0
       have f1 := Lib.frozen_of_heap S3 1
       have f2 := Lib.frozen_of_heap S3 2
       have f3 := Lib.frozen_of_heap S3 3
       clear S3))
  rw [put4_eq]
  have hwf : Wf (orL [rangeW 33 47, rangeW 58 64, rangeW 91 96, rangeW 123 126]) := wf_orL (wf_all (by simp [wf_rangeW]))
  have HSV := Lib.hid (SV_eq hwf)
  generalize orL [rangeW 33 47, rangeW 58 64, rangeW 91 96, rangeW 123 126] = cs at *
  have hP := HZ.out.put wf_zero hwf
  have hBP := put4_below HB (Nat.le_refl _) cs
  generalize put4 w' w.heap.size cs = W at *
  have m0 := hP.cell hwf (i := 0) (by omega)
  have m1 := hP.cell hwf (i := 1) (by omega)
  have m2 := hP.cell hwf (i := 2) (by omega)
  have m3 := hP.cell hwf (i := 3) (by omega)
  exact bodyPost_ret (v := .tuple #[SV cs, .bool true]) (by rw [HSV.out]; simp [results, Tryd.results11, go_sem, m0, m1, m2, m3]) rfl ⟨rfl, hBP⟩
end Go.Proofs.YtmlgbjdohijlnaaDoor.St
