/- trans.Apply: the walk. -/
import Derived.Test.YtpgglnibfojdgaaGreatDoorTrRow
namespace Go.Proofs.YtpgglnibfojdgaaGreatDoor.Tr
open Go.RowKit Go.Shelf Bld
set_option linter.unusedVariables false
set_option linter.unusedSimpArgs false
def applyL (f : MF) (s : List UInt8) : List UInt8 := s.map fun c => f c.toNat
def appK (f : MF) (s : List UInt8) (k : Nat) : List UInt8 := applyL f (s.take k) ++ s.drop k
theorem appK_len (f : MF) (s : List UInt8) (k : Nat) (hk : k ≤ s.length) : (appK f s k).length = s.length := by simp [appK, applyL]; omega
theorem appK_zero (f : MF) (s : List UInt8) : appK f s 0 = s := by simp [appK, applyL]
theorem appK_all (f : MF) (s : List UInt8) : appK f s s.length = applyL f s := by simp [appK]
theorem appK_at (f : MF) {s : List UInt8} {k : Nat} (h : k < s.length) : (appK f s k)[k]? = some s[k] := by
  unfold appK applyL
  rw [List.getElem?_append_right (by simp; omega)]
  simp [Nat.min_eq_left (Nat.le_of_lt h), List.getElem?_eq_getElem h]
theorem appK_succ (f : MF) {s : List UInt8} {k : Nat} (h : k < s.length) : appK f s (k + 1) = (appK f s k).set k (f s[k].toNat) := by
  unfold appK applyL
  rw [List.take_succ_eq_append_getElem h, List.map_append, List.set_append_right _ _ (by simp; omega)]
  have e : k - (List.map (fun c => f c.toNat) (List.take k s)).length = 0 := by simp; omega
  rw [e, List.drop_eq_getElem_cons h, List.set_cons_zero]
  simp
/-- The bytes of a block. -/
def BF (w : World) (b : Nat) (cs : List UInt8) : Prop := ∃ cur z, w.heap[b]? = some (.cells cur 5 (z, z + 1)) ∧ cs.length ≤ z ∧ ∀ j (hj : j < cs.length), cur[j]? = some (bv cs[j])
theorem BF.cell {w : World} {b : Nat} {cs : List UInt8} (h : BF w b cs) {j : Nat} (hj : j < cs.length) : w.cell? ⟨b, j, none⟩ = some (bv cs[j]) ∧ w.frozen? ⟨b, j, none⟩ = false := by
  obtain ⟨cur, z, hh, hz, hc⟩ := h
  refine ⟨by rw [Lib.cell_of_heap hh]; exact hc j hj, ?_⟩
  simp [World.frozen?, hh]; omega
theorem BF.set {w : World} {b : Nat} {cs : List UInt8} (h : BF w b cs) (j : Nat) (v : UInt8) : BF (w.setCell ⟨b, j, none⟩ (bv v)) b (cs.set j v) := by
  obtain ⟨cur, z, hh, hz, hc⟩ := h
  refine ⟨_, z, heap_set_at hh, by simpa using hz, fun i hi => ?_⟩
  have hi' : i < cs.length := by simpa using hi
  have hci := hc i hi'
  have hlt : i < cur.size := (Array.getElem?_eq_some_iff.1 hci).1
  by_cases he : j = i
  · subst he
    rw [Array.getElem?_setIfInBounds_self_of_lt hlt, List.getElem_set_self]
  · rw [Array.getElem?_setIfInBounds_ne he, List.getElem_set_ne he]; exact hci
theorem BF.new (w : World) (s : List UInt8) (gc : Nat) : BF (w.alloc (.cells (bytesRow ⟨s.toArray⟩ gc) 5 ((bytesRow ⟨s.toArray⟩ gc).size, (bytesRow ⟨s.toArray⟩ gc).size + 1))) w.heap.size s := by
  refine ⟨_, _, heap_alloc_new _ _, ?_, fun j hj => ?_⟩
  · simp [bytesRow]
  · unfold bytesRow
    rw [Array.getElem?_append_left (by simpa using hj)]
    simp [bv, List.getElem?_eq_getElem hj]
set_option maxRecDepth 100000 in
set_option maxHeartbeats 800000 in
theorem apply_any (f : MF) (s : List UInt8) (w : World) (hl : s.length ≤ 100000) :
    Calls Tryz.prog 11 #[MV f, S s] w fun e w' => e = .returned (S (applyL f s)) ∧ Below w.heap.size w w' := by
  have hsz : (ByteArray.mk s.toArray).size = s.length := by simp [ByteArray.size]
  have hn := rc_size f
  have hcv := run_bytes_of_string (P := Tryz.prog) (w.alloc (.cells (rc f) 29)) 9 36 5 ⟨s.toArray⟩ Tryz.underlying9 Tryz.underlying36 Tryz.underlying5
  rw [hsz] at hcv
  generalize grownCap (w.alloc (.cells (rc f) 29)) s.length 0 5 = gc at hcv
  go_enter Tryz.func11, Tryz.ntmps11
  have HM0 : Hid (MB ((w.alloc (.cells (rc f) 29)).alloc (.cells (bytesRow ⟨s.toArray⟩ gc) 5 ((bytesRow ⟨s.toArray⟩ gc).size, (bytesRow ⟨s.toArray⟩ gc).size + 1))).drew w.heap.size 29 f) :=
    Lib.hid (alloc_raw (heap_alloc_new w _) _)
  have HF0 : Hid (BF ((w.alloc (.cells (rc f) 29)).alloc (.cells (bytesRow ⟨s.toArray⟩ gc) 5 ((bytesRow ⟨s.toArray⟩ gc).size, (bytesRow ⟨s.toArray⟩ gc).size + 1))).drew (w.heap.size + 1) (appK f s 0)) :=
    Lib.hid (by rw [appK_zero]; have h := BF.new (w.alloc (.cells (rc f) 29)) s gc; rw [show (w.alloc (.cells (rc f) 29)).heap.size = w.heap.size + 1 from by simp] at h; exact h)
  have HB0 := Lib.hid (((Below.refl w.heap.size w).alloc (Nat.le_refl _) (.cells (rc f) 29)).alloc (by simp) (.cells (bytesRow ⟨s.toArray⟩ gc) 5 ((bytesRow ⟨s.toArray⟩ gc).size, (bytesRow ⟨s.toArray⟩ gc).size + 1))).drew
  go_wp2
  go_loopw [11] (fun i wr => ∃ k : Nat, k ≤ s.length ∧ i = .int .i64 (k : Nat) ∧ Hid (MB wr w.heap.size 29 f) ∧ Hid (BF wr (w.heap.size + 1) (appK f s k)) ∧ Hid (Below w.heap.size w wr)) (fun i _ => s.length - (intOf i).toNat)
  case atStart => exact ⟨0, Nat.zero_le _, rfl, HM0, HF0, HB0⟩
  case round =>
    obtain ⟨k, hk, rfl, HM, HF, HB⟩ := hrel
    clear HM0 HF0 HB0 hcv
    by_cases hlt : k < s.length
    · have hat := appK_at f hlt
      have hlen := appK_len f s k hk
      have hj : k < (appK f s k).length := by rw [hlen]; exact hlt
      obtain ⟨c1, c2⟩ := HF.out.cell hj
      rw [List.getElem?_eq_getElem hj] at hat
      rw [Option.some.inj hat] at c1
      have hb := UInt8.toNat_lt s[k]
      have c3 := HM.out.cell hb
      have HF2 := Lib.hid (HF.out.set k (f s[k].toNat))
      rw [← appK_succ f hlt] at HF2
      have HM2 := Lib.hid (heap_set_other HM.out (b := w.heap.size + 1) (by omega) k (bv (f s[k].toNat)))
      have HB2 := Lib.hid (HB.out.setCell (p := ⟨w.heap.size + 1, k, none⟩) (by show w.heap.size ≤ w.heap.size + 1; omega) (bv (f s[k].toNat)))
      have hb' : ((s[k].toNat : Nat) : Int) < 256 := by omega
      unfold bv at c1
      clear hat hlen hj HF HM HB hn
      generalize s[k] = c at *
      go_wp2
      go_roundw
      case rel => exact ⟨k + 1, by omega, by go_num, HM2, HF2, HB2⟩
      case measure => simp [intOf]; omega
    · obtain rfl : k = s.length := by omega
      have hF := HF.out
      rw [appK_all] at hF
      have hcv2 := run_convert_bytes_back (P := Tryz.prog) wr 36 9 5 ⟨w.heap.size + 1, 0, none⟩ gc (applyL f s) Tryz.underlying36 Tryz.underlying5 Tryz.underlying9 (by
        intro j hj
        rw [Addr.add_lit, Nat.zero_add]
        exact (hF.cell hj).1)
      rw [show (applyL f s).length = s.length from by simp [applyL]] at hcv2
      clear hn hF HF HM
      go_wp2
      go_ret
      exact ⟨rfl, HB.out⟩
end Go.Proofs.YtpgglnibfojdgaaGreatDoor.Tr
