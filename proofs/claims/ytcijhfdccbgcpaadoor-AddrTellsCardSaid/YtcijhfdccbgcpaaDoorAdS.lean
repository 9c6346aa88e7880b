/- Addresses: what the laws ask first. -/
import Derived.Test.YtcijhfdccbgcpaaDoorAdA
import Derived.Test.YtcijhfdccbgcpaaDoorAdPa
namespace Go.Proofs.YtcijhfdccbgcpaaDoor.Ad
open Go.RowKit Go.Shelf
set_option linter.unusedVariables false
set_option linter.unusedSimpArgs false
/-- A range and a state, one behind the other, of a law's loop. -/
def Lp (w0 : World) (B : Nat) (a b : A3) (nt : Bool) (s : S2) (w : World) : Prop :=
  RCt 25 w B a b nt ∧ w.heap[B + 1]? = some (.cells #[.bool s.op, E s.to] 52 (0, 0)) ∧ w0.heap.size ≤ B ∧ Below w0.heap.size w0 w
theorem Lp.below {w0 : World} {B : Nat} {a b : A3} {nt : Bool} {s : S2} {w w' : World} (h : Lp w0 B a b nt s w) (hb : Below w.heap.size w w') : Lp w0 B a b nt s w' :=
  ⟨h.1.below hb, (hb.block _ (lt_heap h.2.1)).trans h.2.1, h.2.2.1, h.2.2.2.trans (hb.mono h.2.2.2.size)⟩
theorem lp0 {w0 w : World} (h : Below w0.heap.size w0 w) (a b : A3) (nt : Bool) (s : S2) : Lp w0 w.heap.size a b nt s ((w.alloc (.cells #[E a.k, E a.n, E a.m, E b.k, E b.n, E b.m, .bool nt] 25)).alloc (.cells #[.bool s.op, E s.to] 52)) := by
  have e1 : (w.alloc (.cells #[E a.k, E a.n, E a.m, E b.k, E b.n, E b.m, .bool nt] 25)).heap.size = w.heap.size + 1 := by simp
  have h1 := heap_alloc_new w (.cells #[E a.k, E a.n, E a.m, E b.k, E b.n, E b.m, .bool nt] 25)
  have h2 := heap_alloc_new (w.alloc (.cells #[E a.k, E a.n, E a.m, E b.k, E b.n, E b.m, .bool nt] 25)) (.cells #[.bool s.op, E s.to] 52)
  rw [e1] at h2
  have hs := h.size
  refine ⟨?_, h2, hs, (h.alloc hs _).alloc (by simp; omega) _⟩
  show _ = _
  rw [heap_alloc_old _ _ (by rw [e1]; omega), h1]
theorem Lp.cells {w0 : World} {B : Nat} {a b : A3} {nt : Bool} {s : S2} {w : World} (h : Lp w0 B a b nt s w) :
    (w.cell? ⟨B, 0, none⟩ = some (E a.k) ∧ w.cell? ⟨B, 1, none⟩ = some (E a.n) ∧ w.cell? ⟨B, 2, none⟩ = some (E a.m) ∧ w.cell? ⟨B, 3, none⟩ = some (E b.k) ∧ w.cell? ⟨B, 4, none⟩ = some (E b.n) ∧ w.cell? ⟨B, 5, none⟩ = some (E b.m) ∧ w.cell? ⟨B, 6, none⟩ = some (.bool nt)) ∧
    (w.cell? ⟨B + 1, 0, none⟩ = some (.bool s.op) ∧ w.cell? ⟨B + 1, 1, none⟩ = some (E s.to)) ∧ w.frozen? ⟨B + 1, 0, none⟩ = false ∧ w.frozen? ⟨B + 1, 1, none⟩ = false := by
  have h2 := h.2.1
  exact ⟨h.1.cells, sc_cells h2, by simp [World.frozen?, h2], by simp [World.frozen?, h2]⟩
theorem Lp.set {w0 : World} {B : Nat} {a b : A3} {nt : Bool} {s : S2} {w : World} (h : Lp w0 B a b nt s w) (s' : S2) : Lp w0 B a b nt s' ((w.setCell ⟨B + 1, 0, none⟩ (.bool s'.op)).setCell ⟨B + 1, 1, none⟩ (E s'.to)) := by
  obtain ⟨h1, h2, h3, hb⟩ := h
  have k := Go.Joins.block_setCell (Go.Joins.block_setCell h2 (i := 0) (.bool s'.op)) (i := 1) (E s'.to)
  refine ⟨?_, k, h3, (hb.setCell (by simp; omega) _).setCell (by simp; omega) _⟩
  show _ = _
  rw [Below.heap_setCell _ _ _ _ (by simp), Below.heap_setCell _ _ _ _ (by simp)]
  exact h1
theorem bs_nil (w : World) : Bs w (.slice none 0 0) [] := ⟨none, 0, rfl, fun i hi => absurd hi (by simp)⟩
/-- Ask, of a line in which nothing is found. -/
theorem Ask_plain (a b : A3) (nt : Bool) (s : S2) (N : Int) (last : Bool) (w : World) (hm : May a b) (hN : 0 ≤ N ∧ N ≤ 999999999) {x : Bool} {s' : S2} (h : askL a b s ⟨N, last, []⟩ = (x, s')) :
    Calls Tryd.prog 24 #[RV a b nt, SV2 s, LV N last (.slice none 0 0)] w fun e w' => e = .returned (.tuple #[.bool (x != nt), SV2 s']) ∧ Below w.heap.size w w' := by
  have q := Ask_any a b nt s N last none 0 [] w hm hN (bs_nil w)
  unfold askN at q
  rw [h] at q
  exact q
theorem may_24 : May ⟨1, 2, 0⟩ ⟨1, 4, 0⟩ := by decide
theorem parse_24 : parseP [50, 44, 52] = ((⟨1, 2, 0⟩, ⟨1, 4, 0⟩, false), 0) := by
  have e2 : Lib.itoa 2 = [50] := by rw [itoa_dec (by decide)]; show Lib.decDigits 2 = _; rw [Lib.decDigits, dif_pos (by decide)]; rfl
  have e4 : Lib.itoa 4 = [52] := by rw [itoa_dec (by decide)]; show Lib.decDigits 4 = _; rw [Lib.decDigits, dif_pos (by decide)]; rfl
  have ep : printR ⟨1, 2, 0⟩ ⟨1, 4, 0⟩ false = ([50, 44, 52], 0) := by
    unfold printR; rw [if_pos may_24]; simp [textA, tailB, tailN, e2, e4]
  exact (parse_print (s := [50, 44, 52]) (by rw [ep]) (by rw [ep])).1
set_option maxRecDepth 100000 in
set_option maxHeartbeats 1600000 in
theorem shown_any (w : World) (hL : Lay w) :
    Calls Tryd.prog 12 #[] w fun e w' => e = .returned (.bool true) ∧ Below w.heap.size w w' := by
  have HP : Hid (Calls Tryd.prog 16 #[.string ⟨#[50, 44, 52]⟩] w fun e w' => e = .returned (.tuple #[RV ⟨1, 2, 0⟩ ⟨1, 4, 0⟩ false, E 0]) ∧ Below w.heap.size w w') := Lib.hid (by
    have q := parse_any [50, 44, 52] w hL (by decide)
    rw [parse_24] at q
    exact q)
  go_enter Tryd.func12, Tryd.ntmps12
  go_wp2_with (go_at_call 16; refine HP.out.mono ?_; rintro e w1 ⟨rfl, hb⟩; have HB1 := Lib.hid hb; have HL0 := Lib.hid (lp0 hb ⟨1, 2, 0⟩ ⟨1, 4, 0⟩ false ⟨false, 0⟩); clear hb)
  go_loopw [4, 5] (fun n i wr => ∃ k : Nat, 1 ≤ k ∧ k ≤ 6 ∧ i = .int .i64 (k : Nat) ∧ n = E (if k ≤ 2 then 0 else if k = 3 then 2 else if k = 4 then 23 else 234) ∧ Hid (Lp w w1.heap.size ⟨1, 2, 0⟩ ⟨1, 4, 0⟩ false (spanS 2 4 (k : Nat)) wr)) (fun _ i _ => 6 - (intOf i).toNat)
  case atStart => exact ⟨1, by omega, by omega, rfl, rfl, Lib.hid HL0.out⟩
  case round =>
    obtain ⟨k, hk1, hk2, rfl, rfl, HR⟩ := hrel
    obtain rfl | rfl | rfl | rfl | rfl | rfl : k = 1 ∨ k = 2 ∨ k = 3 ∨ k = 4 ∨ k = 5 ∨ k = 6 := by omega
    · obtain ⟨⟨q0, q1, q2, q3, q4, q5, q6⟩, ⟨q7, q8⟩, q9, qa⟩ := HR.out.cells
      have HA := Lib.hid (fun w' => Ask_plain ⟨1, 2, 0⟩ ⟨1, 4, 0⟩ false ⟨false, 0⟩ 1 false w' may_24 (by decide) (x := false) (s' := ⟨false, 0⟩) (by decide))
      go_wp2_with (go_at_call 24; refine (HA.out _).mono ?_; rintro e w2 ⟨rfl, hb⟩; have HR2 := Lib.hid ((HR.out.below hb).below ((Below.refl w2.heap.size w2).alloc (Nat.le_refl _) (.cells #[.bool false, E 0] 52))); clear hb; obtain ⟨⟨q0, q1, q2, q3, q4, q5, q6⟩, ⟨q7, q8⟩, q9, qa⟩ := HR2.out.cells)
      go_roundw
      case rel => exact ⟨2, by omega, by omega, rfl, rfl, Lib.hid (HR2.out.set ⟨false, 0⟩)⟩
      case measure => simp [intOf]
    · obtain ⟨⟨q0, q1, q2, q3, q4, q5, q6⟩, ⟨q7, q8⟩, q9, qa⟩ := HR.out.cells
      have HA := Lib.hid (fun w' => Ask_plain ⟨1, 2, 0⟩ ⟨1, 4, 0⟩ false ⟨false, 0⟩ 2 false w' may_24 (by decide) (x := true) (s' := ⟨true, 4⟩) (by decide))
      go_wp2_with (go_at_call 24; refine (HA.out _).mono ?_; rintro e w2 ⟨rfl, hb⟩; have HR2 := Lib.hid ((HR.out.below hb).below ((Below.refl w2.heap.size w2).alloc (Nat.le_refl _) (.cells #[.bool true, E 4] 52))); clear hb; obtain ⟨⟨q0, q1, q2, q3, q4, q5, q6⟩, ⟨q7, q8⟩, q9, qa⟩ := HR2.out.cells)
      go_roundw
      case rel => exact ⟨3, by omega, by omega, rfl, rfl, Lib.hid (HR2.out.set ⟨true, 4⟩)⟩
      case measure => simp [intOf]
    · obtain ⟨⟨q0, q1, q2, q3, q4, q5, q6⟩, ⟨q7, q8⟩, q9, qa⟩ := HR.out.cells
      have HA := Lib.hid (fun w' => Ask_plain ⟨1, 2, 0⟩ ⟨1, 4, 0⟩ false ⟨true, 4⟩ 3 false w' may_24 (by decide) (x := true) (s' := ⟨true, 4⟩) (by decide))
      go_wp2_with (go_at_call 24; refine (HA.out _).mono ?_; rintro e w2 ⟨rfl, hb⟩; have HR2 := Lib.hid ((HR.out.below hb).below ((Below.refl w2.heap.size w2).alloc (Nat.le_refl _) (.cells #[.bool true, E 4] 52))); clear hb; obtain ⟨⟨q0, q1, q2, q3, q4, q5, q6⟩, ⟨q7, q8⟩, q9, qa⟩ := HR2.out.cells)
      go_roundw
      case rel => exact ⟨4, by omega, by omega, rfl, rfl, Lib.hid (HR2.out.set ⟨true, 4⟩)⟩
      case measure => simp [intOf]
    · obtain ⟨⟨q0, q1, q2, q3, q4, q5, q6⟩, ⟨q7, q8⟩, q9, qa⟩ := HR.out.cells
      have HA := Lib.hid (fun w' => Ask_plain ⟨1, 2, 0⟩ ⟨1, 4, 0⟩ false ⟨true, 4⟩ 4 false w' may_24 (by decide) (x := true) (s' := ⟨false, 0⟩) (by decide))
      go_wp2_with (go_at_call 24; refine (HA.out _).mono ?_; rintro e w2 ⟨rfl, hb⟩; have HR2 := Lib.hid ((HR.out.below hb).below ((Below.refl w2.heap.size w2).alloc (Nat.le_refl _) (.cells #[.bool false, E 0] 52))); clear hb; obtain ⟨⟨q0, q1, q2, q3, q4, q5, q6⟩, ⟨q7, q8⟩, q9, qa⟩ := HR2.out.cells)
      go_roundw
      case rel => exact ⟨5, by omega, by omega, rfl, rfl, Lib.hid (HR2.out.set ⟨false, 0⟩)⟩
      case measure => simp [intOf]
    · obtain ⟨⟨q0, q1, q2, q3, q4, q5, q6⟩, ⟨q7, q8⟩, q9, qa⟩ := HR.out.cells
      have HA := Lib.hid (fun w' => Ask_plain ⟨1, 2, 0⟩ ⟨1, 4, 0⟩ false ⟨false, 0⟩ 5 true w' may_24 (by decide) (x := false) (s' := ⟨false, 0⟩) (by decide))
      go_wp2_with (go_at_call 24; refine (HA.out _).mono ?_; rintro e w2 ⟨rfl, hb⟩; have HR2 := Lib.hid ((HR.out.below hb).below ((Below.refl w2.heap.size w2).alloc (Nat.le_refl _) (.cells #[.bool false, E 0] 52))); clear hb; obtain ⟨⟨q0, q1, q2, q3, q4, q5, q6⟩, ⟨q7, q8⟩, q9, qa⟩ := HR2.out.cells)
      go_roundw
      case rel => exact ⟨6, by omega, by omega, rfl, rfl, Lib.hid (HR2.out.set ⟨false, 0⟩)⟩
      case measure => simp [intOf]
    · go_wp2
      go_ret
      exact ⟨rfl, HR.out.2.2.2⟩
end Go.Proofs.YtcijhfdccbgcpaaDoor.Ad
