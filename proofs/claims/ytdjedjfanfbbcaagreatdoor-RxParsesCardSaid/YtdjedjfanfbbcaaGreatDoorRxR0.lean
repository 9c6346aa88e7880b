/- Patterns: the reader in memory. -/
import Derived.Test.YtdjedjfanfbbcaaGreatDoorRxOwn
import Derived.Test.YtdjedjfanfbbcaaGreatDoorRxC
import Derived.Test.YtdjedjfanfbbcaaGreatDoorRxNum
import Derived.Test.YtdjedjfanfbbcaaGreatDoorRxOrd
namespace Go.Proofs.YtdjedjfanfbbcaaGreatDoor.Rx
open Go.RowKit Go.Shelf
open Go.Proofs.YtdjedjfanfbbcaaGreatDoor.St (Wf word zeroW Tab)
open Go.Proofs.YtdjedjfanfbbcaaGreatDoor.Ad (cutB atoiV)
set_option linter.unusedVariables false
set_option linter.unusedSimpArgs false
abbrev RV (r : Rd) (v : Value) : Array Value := #[S r.rest, v, E r.g, .bool r.bad]
structure RW (w0 : World) (b : Nat) (r : Rd) (v : Value) (w : World) : Prop where
  rd : w.heap[b]? = some (.cells (RV r v) 49 (0, 0))
  own : w.ownsRow w0.heap.size 45 10 v r.l.length (flat r.l)
  ne : v.ownBlock ≠ some b
  base : w0.heap.size ≤ b
  bel : Below w0.heap.size w0 w
/-- What is kept but for the reader and its nodes. -/
structure Kr (b : Nat) (w : World) (v : Value) (w' : World) (v' : Value) : Prop where
  size : w.heap.size ≤ w'.heap.size
  far : ∀ k, k < w.heap.size → k ≠ b → v.ownBlock ≠ some k → w'.heap[k]? = w.heap[k]? ∧ v'.ownBlock ≠ some k
theorem Kr.refl (b : Nat) (w : World) (v : Value) : Kr b w v w v := ⟨Nat.le_refl _, fun _ _ _ h => ⟨rfl, h⟩⟩
theorem Kr.trans {b : Nat} {w1 w2 w3 : World} {v1 v2 v3 : Value} (h : Kr b w1 v1 w2 v2) (k : Kr b w2 v2 w3 v3) : Kr b w1 v1 w3 v3 :=
  ⟨Nat.le_trans h.size k.size, fun i h1 h2 h3 => by
    obtain ⟨e1, e2⟩ := h.far i h1 h2 h3
    obtain ⟨e3, e4⟩ := k.far i (Nat.lt_of_lt_of_le h1 h.size) h2 e2
    exact ⟨e3.trans e1, e4⟩⟩
theorem Kr.below {b : Nat} {w1 w2 w3 : World} {v1 v2 : Value} (h : Kr b w1 v1 w2 v2) (hb : Below w2.heap.size w2 w3) : Kr b w1 v1 w3 v2 :=
  h.trans ⟨hb.size, fun i h1 _ h3 => ⟨hb.block i h1, h3⟩⟩
theorem Kr.set {b : Nat} {w1 w2 : World} {v1 v2 : Value} (h : Kr b w1 v1 w2 v2) (i : Nat) (u : Value) : Kr b w1 v1 (w2.setCell ⟨b, i, none⟩ u) v2 :=
  h.trans ⟨by simp, fun k h1 h2 h3 => ⟨Below.heap_setCell w2 ⟨b, i, none⟩ u k h2, h3⟩⟩
theorem RW.lt {w0 w : World} {b : Nat} {r : Rd} {v : Value} (h : RW w0 b r v w) : b < w.heap.size := lt_heap' h.rd
theorem RW.below {w0 w w' : World} {b : Nat} {r : Rd} {v : Value} (h : RW w0 b r v w) (hb : Below w.heap.size w w') : RW w0 b r v w' :=
  ⟨(hb.block b h.lt).trans h.rd, own_below h.own hb, h.ne, h.base, h.bel.trans (hb.mono h.bel.size)⟩
theorem RW.lay {w0 w : World} {b : Nat} {r : Rd} {v : Value} (h : RW w0 b r v w) (hL : Lay w0) : Lay w := hL.below h.bel
theorem RW.cells {w0 w : World} {b : Nat} {r : Rd} {v : Value} (h : RW w0 b r v w) :
    (w.cell? ⟨b, 0, none⟩ = some (S r.rest) ∧ w.cell? ⟨b, 1, none⟩ = some v ∧ w.cell? ⟨b, 2, none⟩ = some (E r.g) ∧ w.cell? ⟨b, 3, none⟩ = some (.bool r.bad)) ∧
    (w.frozen? ⟨b, 0, none⟩ = false ∧ w.frozen? ⟨b, 1, none⟩ = false ∧ w.frozen? ⟨b, 2, none⟩ = false ∧ w.frozen? ⟨b, 3, none⟩ = false) := by
  have h1 := h.rd
  exact ⟨⟨(Lib.cell_of_heap h1 0).trans rfl, (Lib.cell_of_heap h1 1).trans rfl, (Lib.cell_of_heap h1 2).trans rfl, (Lib.cell_of_heap h1 3).trans rfl⟩, by simp [World.frozen?, h1], by simp [World.frozen?, h1], by simp [World.frozen?, h1], by simp [World.frozen?, h1]⟩
theorem RW.setRest {w0 w : World} {b : Nat} {r : Rd} {v : Value} (h : RW w0 b r v w) (x : List UInt8) : RW w0 b ⟨x, r.l, r.g, r.bad⟩ v (w.setCell ⟨b, 0, none⟩ (S x)) :=
  ⟨Go.Joins.block_setCell h.rd (i := 0) (S x), ownsRow_setCell_other h.own h.ne _, h.ne, h.base, h.bel.setCell h.base _⟩
theorem RW.setG {w0 w : World} {b : Nat} {r : Rd} {v : Value} (h : RW w0 b r v w) (x : Int) : RW w0 b ⟨r.rest, r.l, x, r.bad⟩ v (w.setCell ⟨b, 2, none⟩ (E x)) :=
  ⟨Go.Joins.block_setCell h.rd (i := 2) (E x), ownsRow_setCell_other h.own h.ne _, h.ne, h.base, h.bel.setCell h.base _⟩
theorem RW.setBad {w0 w : World} {b : Nat} {r : Rd} {v : Value} (h : RW w0 b r v w) (x : Bool) : RW w0 b ⟨r.rest, r.l, r.g, x⟩ v (w.setCell ⟨b, 3, none⟩ (.bool x)) :=
  ⟨Go.Joins.block_setCell h.rd (i := 3) (.bool x), ownsRow_setCell_other h.own h.ne _, h.ne, h.base, h.bel.setCell h.base _⟩
/-! ### until, number -/
abbrev Rel (w0 : World) (b : Nat) (w : World) (v : Value) (r : Rd) (w' : World) : Prop := RW w0 b r v w' ∧ Kr b w v w' v
set_option maxRecDepth 100000 in
set_option maxHeartbeats 800000 in
theorem until_any (w0 : World) (b : Nat) (r : Rd) (v : Value) (c : UInt8) (w : World) (h : RW w0 b r v w) (hl : r.rest.length ≤ 100000) :
    Calls Tryz.prog 58 #[PT b, S [c]] w fun e w' => e = .returned (S (untilP c r).2) ∧ Rel w0 b w v (untilP c r).1 w' := by
  obtain ⟨rest, l, g, bad⟩ := r
  dsimp only at hl
  have HC := Lib.hid (cut_any rest c w hl)
  obtain ⟨x, y, is, hcut⟩ : ∃ x y is, cutB c rest = (x, y, is) := ⟨_, _, _, rfl⟩
  have HO := Lib.hid (show untilP c ⟨rest, l, g, bad⟩ = (⟨y, l, g, bad || !is⟩, x) from by unfold untilP; dsimp only; rw [hcut])
  have HX := Lib.hid hcut
  clear hcut
  have HR0 := Lib.hid h
  obtain ⟨⟨c0, c1, c2, c3⟩, f0, f1, f2, f3⟩ := HR0.out.cells
  dsimp only at c0 c1 c2 c3
  clear h
  cases bad <;> cases is <;> (
  · go_enter Tryz.func58, Tryz.ntmps58
    go_wp2_with (go_at_call 77; refine HC.out.mono ?_; rintro e w1 ⟨he, hb⟩; unfold CutR at he; rw [HX.out] at he; subst he; have HR1 := Lib.hid (HR0.out.below hb); have HK1 := Lib.hid ((Kr.refl b w v).below hb); clear hb; obtain ⟨⟨d0, d1, d2, d3⟩, g0, g1, g2, g3⟩ := HR1.out.cells; dsimp only at d0 d1 d2 d3)
    go_ret
    refine ⟨by rw [HO.out]; rfl, ?_⟩
    rw [HO.out]
    exact ⟨(HR1.out.setBad _).setRest _, (HK1.out.set _ _).set _ _⟩)
theorem until_rest (c : UInt8) (r : Rd) : (untilP c r).1.rest.length ≤ r.rest.length ∧ (untilP c r).2.length ≤ r.rest.length := by
  unfold untilP
  rcases ibyte c r.rest with ⟨_, h2⟩ | ⟨k, _, _, h2⟩ <;> rw [h2] <;> simp
  omega
set_option maxRecDepth 100000 in
set_option maxHeartbeats 800000 in
theorem number_any (w0 : World) (b : Nat) (r : Rd) (v : Value) (c : UInt8) (w : World) (h : RW w0 b r v w) (hL : Lay w0) (hl : r.rest.length ≤ 100000) :
    Calls Tryz.prog 38 #[PT b, S [c]] w fun e w' => e = .returned (E (numP c r).2) ∧ Rel w0 b w v (numP c r).1 w' := by
  have HU := Lib.hid (until_any w0 b r v c w h hl)
  have hlen := until_rest c r
  have HLL := Lib.hid hL
  obtain ⟨y, l, g, bad, x, hu⟩ : ∃ y l g bad x, untilP c r = (⟨y, l, g, bad⟩, x) := ⟨_, _, _, _, _, rfl⟩
  have hlg : l = r.l ∧ g = r.g := by
    have := congrArg Prod.fst hu
    unfold untilP at this
    simp only [Rd.mk.injEq] at this
    exact ⟨this.2.1.symm, this.2.2.1.symm⟩
  rw [hu] at HU hlen
  dsimp only at hlen
  have HO := Lib.hid (show numP c r = (⟨y, l, g, bad || !atoiK x⟩, atoiV x) from by unfold numP; rw [hu]; rw [hlg.1, hlg.2])
  clear hu h hL hlg
  have hx : x.length ≤ 100000 := by omega
  have HA := Lib.hid (fun (W : World) (hW : Lay W) => atoi_any x W hW hx)
  cases bad <;> cases hk : atoiK x <;> (
  · rw [hk] at HA HO
    unfold ErrIs at HA
    simp only [Bool.false_eq_true, if_false, if_true] at HA
    clear hk
    go_enter Tryz.func38, Tryz.ntmps38
    go_wp2_with (first
      | (go_at_call 58; refine HU.out.mono ?_; rintro e w1 ⟨rfl, hr, hkr⟩; have HR1 := Lib.hid hr; have HK1 := Lib.hid hkr; clear hr hkr)
      | (go_at_call 60; refine (HA.out _ (HR1.out.lay HLL.out)).mono ?_; rintro e w2 ⟨ev, hev, rfl, hb⟩; (first | subst hev | (obtain ⟨te, pe, rfl⟩ := hev)); have HR2 := Lib.hid (HR1.out.below hb); have HK2 := Lib.hid (HK1.out.below hb); clear hb; obtain ⟨⟨d0, d1, d2, d3⟩, g0, g1, g2, g3⟩ := HR2.out.cells; dsimp only at d0 d1 d2 d3))
    go_ret
    refine ⟨by rw [HO.out]; rfl, ?_⟩
    rw [HO.out]
    exact ⟨HR2.out.setBad _, HK2.out.set _ _⟩)
end Go.Proofs.YtdjedjfanfbbcaaGreatDoor.Rx
