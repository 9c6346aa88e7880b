/- Sets of bytes: walks. -/
import Derived.Test.YtdjedjfanfbbcaaGreatDoorChecked
import Derived.Test.YtdjedjfanfbbcaaGreatDoorStPlain
import Derived.WalkKit
import Derived.WalkLawsBesides
import Derived.WalkSpells
import Derived.RowKit3
import Derived.Lib.Hide
import Derived.StillTailTactics
import Derived.Lib.Builder
import Derived.BigRegion
namespace Go.Proofs.YtdjedjfanfbbcaaGreatDoor.St
open Go.RowKit
set_option linter.unusedVariables false
set_option linter.unusedSimpArgs false
abbrev wc (ws : List Nat) : Array Value := (ws.map fun n : Nat => Value.int .u64 (n : Int)).toArray
abbrev SV (ws : List Nat) : Value := .agg (wc ws)
abbrev SB (w : World) (b : Nat) (ws : List Nat) : Prop := w.heap[b]? = some (.cells (wc ws) 43 (0, 0))
theorem SB.cell {w : World} {b : Nat} {ws : List Nat} (h : SB w b ws) (hw : Wf ws) {i : Nat} (hi : i < 4) : w.cell? ⟨b, i, none⟩ = some (.int .u64 (word ws i : Int)) := by
  rw [Lib.cell_of_heap h]; simp [word_get hw hi]

theorem heap_set_at {w : World} {b : Nat} {c : Array Value} {t : TypeId} {f : Nat × Nat} (h : w.heap[b]? = some (.cells c t f)) (i : Nat) (v : Value) : (w.setCell ⟨b, i, none⟩ v).heap[b]? = some (.cells (c.setIfInBounds i v) t f) := by
  simp only [World.setCell, Array.getElem?_modify, if_true, h]; rfl
theorem heap_set_other {w : World} {b b' : Nat} {o : Obj} (h : w.heap[b']? = some o) (hb : b ≠ b') (i : Nat) (v : Value) : (w.setCell ⟨b, i, none⟩ v).heap[b']? = some o := by
  simp only [World.setCell, Array.getElem?_modify, h]
  rw [if_neg hb]
theorem SB.set {w : World} {b : Nat} {ws : List Nat} (h : SB w b ws) (i v : Nat) : SB (w.setCell ⟨b, i, none⟩ (.int .u64 (v : Int))) b (ws.set i v) := by
  unfold SB
  rw [heap_set_at h]
  simp [wc, List.map_set]
theorem SV_eq {ws : List Nat} (h : Wf ws) : SV ws = .agg #[.int .u64 (word ws 0 : Int), .int .u64 (word ws 1 : Int), .int .u64 (word ws 2 : Int), .int .u64 (word ws 3 : Int)] := by
  obtain ⟨hl, _⟩ := h
  match ws, hl with
  | [a, b, c, d], _ => rfl
theorem SB.drew {w : World} {b : Nat} {ws : List Nat} (h : SB w b ws) : SB w.drew b ws := h
theorem pow64 (c : Nat) : 2 ^ (c % 64) < 18446744073709551616 := Nat.pow_lt_pow_right (a := 2) (n := 64) (by decide) (Nat.mod_lt _ (by decide))
theorem wrap_pow (c : Nat) : IntKind.u64.wrap (2 ^ (c % 64)) = ((2 ^ (c % 64) : Nat) : Int) := by
  rw [IntKind.wrap_u64]
  have : (2 ^ (c % 64) : Nat) < 18446744073709551616 := pow64 c
  have e : ((2 ^ (c % 64) : Nat) : Int) = (2 : Int) ^ (c % 64) := by simp
  rw [← e]
  generalize 2 ^ (c % 64) = p at *
  omega
theorem or_word {ws : List Nat} (h : Wf ws) (i c : Nat) : bits BinOp.or IntKind.u64 (word ws i : Int) (IntKind.u64.wrap (2 ^ (c % 64))) = ((word ws i ||| 2 ^ (c % 64) : Nat) : Int) := by
  rw [wrap_pow]
  exact u64_or_nat _ _ (word_lt h i) (pow64 c)

theorem SB.same {w : World} {b : Nat} {ws : List Nat} (h : SB w b ws) (hw : Wf ws) {i : Nat} (hi : i < 4) : SB (w.setCell ⟨b, i, none⟩ (.int .u64 (word ws i : Int))) b ws := by
  have h1 := h.set i (word ws i)
  have : ws.set i (word ws i) = ws := by
    apply List.ext_getElem?
    intro k
    rw [List.getElem?_set]
    by_cases hk : i = k
    · subst hk
      rw [if_pos rfl, if_pos (by rw [hw.len]; exact hi), word_get hw hi]
    · rw [if_neg hk]
  rwa [this] at h1
theorem SB.again {w : World} {b : Nat} {ws : List Nat} (h : SB w b ws) (hw : Wf ws) :
    SB ((((w.setCell ⟨b, 0, none⟩ (.int .u64 (word ws 0 : Int))).setCell ⟨b, 1, none⟩ (.int .u64 (word ws 1 : Int))).setCell ⟨b, 2, none⟩ (.int .u64 (word ws 2 : Int))).setCell ⟨b, 3, none⟩ (.int .u64 (word ws 3 : Int))) b ws :=
  (((h.same hw (by omega)).same hw (by omega)).same hw (by omega)).same hw (by omega)
theorem below_again {B : Nat} {w0 w : World} {b : Nat} (h : Below B w0 w) (hb : B ≤ b) (x0 x1 x2 x3 : Value) :
    Below B w0 ((((w.setCell ⟨b, 0, none⟩ x0).setCell ⟨b, 1, none⟩ x1).setCell ⟨b, 2, none⟩ x2).setCell ⟨b, 3, none⟩ x3) :=
  (((h.setCell (p := ⟨b, 0, none⟩) hb _).setCell (p := ⟨b, 1, none⟩) hb _).setCell (p := ⟨b, 2, none⟩) hb _).setCell (p := ⟨b, 3, none⟩) hb _

set_option maxHeartbeats 400000 in
theorem of_any (l : List UInt8) (w : World) (hl : l.length ≤ 1000000) :
    Calls Tryz.prog 20 #[.string ⟨l.toArray⟩] w fun e w' => e = .returned (SV (ofL l)) ∧ Below w.heap.size w w' := by
  go_enter Tryz.func20, Tryz.ntmps20
  go_wp2
  go_loopw [3, 6] (fun _ i wr => ∃ k : Nat, k ≤ l.length ∧ i = .int .i64 k ∧ SB wr w.heap.size (ofL (l.take k)) ∧ Below w.heap.size w wr) (fun _ i _ => l.length - (intOf i).toNat)
  case atStart => exact ⟨0, Nat.zero_le _, rfl, heap_alloc_new w _, (Below.refl _ w).alloc (Nat.le_refl _) _⟩
  case round =>
    obtain ⟨k, hk, rfl, hS, hB⟩ := hrel
    by_cases hlt : k < l.length
    · have hcell : ((ByteArray.mk l.toArray)[k]'hlt) = l[k] := rfl
      have hw := wf_ofL (l.take k)
      have hsn : ofL (l.take (k + 1)) = add1 (ofL (l.take k)) l[k].toNat := by rw [List.take_succ_eq_append_getElem hlt, ofL_snoc]
      have HSN := Lib.hid hsn
      clear hsn
      generalize ofL (l.take k) = ws at *
      have hc0 := UInt8.toNat_lt l[k]
      have en : ((l[k].toNat : Int) / 64).toNat = l[k].toNat / 64 := by omega
      have c1 := hS.cell hw (i := ((l[k].toNat : Int) / 64).toNat) (by omega)
      have f1 := Lib.frozen_of_heap hS ((l[k].toNat : Int) / 64).toNat
      have c1' := hS.cell hw (i := l[k].toNat / 64) (by omega)
      have f1' := Lib.frozen_of_heap hS (l[k].toNat / 64)
      clear en
      have h0 : 0 ≤ (l[k].toNat : Int) / 64 := by omega
      have h1 : (l[k].toNat : Int) / 64 < 4 := by omega
      generalize l[k] = c at *
      have ho := or_word hw (c.toNat / 64) c.toNat
      go_wp2
      go_region
      go_wp2
      go_roundw
      case rel => exact ⟨k + 1, by omega, by go_num, by rw [HSN.out]; exact SB.set hS _ _, hB.drew.setCell (Nat.le_refl _) _⟩
      case measure => simp [intOf]; omega
    · obtain rfl : k = l.length := by omega
      have hw := wf_ofL (l.take l.length)
      have g0 := hS.cell hw (i := 0) (by omega)
      have g1 := hS.cell hw (i := 1) (by omega)
      have g2 := hS.cell hw (i := 2) (by omega)
      have g3 := hS.cell hw (i := 3) (by omega)
      have f0 := Lib.frozen_of_heap hS 0
      have f1 := Lib.frozen_of_heap hS 1
      have f2 := Lib.frozen_of_heap hS 2
      have f3 := Lib.frozen_of_heap hS 3
      have hSV := SV_eq hw
      rw [List.take_of_length_le (Nat.le_refl _)] at *
      have HSV := Lib.hid hSV
      generalize hws : ofL l = ws at *
      have HWS := Lib.hid hws
      clear hws
      have hS4 := hS.again hw
      have hB4 := below_again hB (Nat.le_refl _) (.int .u64 (word ws 0 : Int)) (.int .u64 (word ws 1 : Int)) (.int .u64 (word ws 2 : Int)) (.int .u64 (word ws 3 : Int))
      clear hS hSV
      go_wp2
      generalize (((wr.setCell { block := w.heap.size, off := 0 } (Value.int IntKind.u64 ↑(word ws 0))).setCell { block := w.heap.size, off := 1 } (Value.int IntKind.u64 ↑(word ws 1))).setCell { block := w.heap.size, off := 2 } (Value.int IntKind.u64 ↑(word ws 2))).setCell { block := w.heap.size, off := 3 } (Value.int IntKind.u64 ↑(word ws 3)) = W at *
      have k0 := hS4.cell hw (i := 0) (by omega)
      have k1 := hS4.cell hw (i := 1) (by omega)
      have k2 := hS4.cell hw (i := 2) (by omega)
      have k3 := hS4.cell hw (i := 3) (by omega)
      exact bodyPost_ret (v := SV ws) (by rw [HSV.out]; simp [results, Tryz.results20, go_sem, k0, k1, k2, k3]) rfl ⟨by rw [HWS.out], hB4⟩
end Go.Proofs.YtdjedjfanfbbcaaGreatDoor.St
