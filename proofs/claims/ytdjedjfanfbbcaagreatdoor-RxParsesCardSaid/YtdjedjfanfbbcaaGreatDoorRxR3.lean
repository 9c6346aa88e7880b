/- Patterns: the reader of one node: what is said of it, and of the one below. -/
import Derived.Test.YtdjedjfanfbbcaaGreatDoorRxR2
namespace Go.Proofs.YtdjedjfanfbbcaaGreatDoor.Rx
open Go.RowKit Go.Shelf
open Go.Proofs.YtdjedjfanfbbcaaGreatDoor.St (Wf word zeroW Tab SV SV_eq wf_two wf_orL wf_ofL wf_zero orL ofL)
open Go.Proofs.YtdjedjfanfbbcaaGreatDoor.Ad (cutB atoiV)
set_option linter.unusedVariables false
set_option linter.unusedSimpArgs false
def NodeAns (w0 : World) (b left : Nat) (r : Rd) (v : Value) (w : World) (e : Ending) (w' : World) : Prop :=
  ∃ v', e = .returned (E ((nodeP left r).2 : Nat)) ∧ RW w0 b (nodeP left r).1 v' w' ∧ Kr b w v w' v'
/-- What may be read on. -/
structure Rin (r : Rd) : Prop where
  len : r.rest.length + r.l.length ≤ 100000
  g0 : 0 ≤ r.g
  g1 : r.g + r.rest.length ≤ 100000
def Below1 (w0 : World) (b left : Nat) : Prop := ∀ (r : Rd) (v : Value) (w : World), RW w0 b r v w → Rin r → Calls Tryz.prog 21 #[PT b, E (left : Nat)] w (NodeAns w0 b left r v w)
theorem own_slice {w : World} {B e n z : Nat} {v : Value} {xs : List Value} (h : w.ownsRow B e z v n xs) : ∃ ao cap, v = .slice ao n cap := by
  rcases own_forms h with ⟨rfl, h0⟩ | ⟨g, cap, rfl, _⟩
  · exact ⟨none, 0, by rw [h0]⟩
  · exact ⟨_, _, rfl⟩
theorem at_world {p : World → Prop} {P : Program} {c : Code} {Q : Exit → Act → World → Prop} {a : Act} {W : World} (h : p W) (g : ∀ W', p W' → Code.wp P c Q a W') : Code.wp P c Q a W := g W h
/-- What the last region holds: the pointer, and the node. -/
def SQ (w1 : World) (b : Nat) (n : Nd) (w : World) : Prop := w.heap[w1.heap.size]? = some (.cells #[PT b] 47 (0, 0)) ∧ NB w (w1.heap.size + 2) n
theorem sq_of {w0 w1 w : World} {b : Nat} {v1 v : Value} {lf : Int} {n : Nd} {r : Rd} (h : ST w0 b w1 v1 lf n r v w) : SQ w1 b n w := ⟨h.p0, h.p2⟩
theorem sq_cells {w1 w : World} {b : Nat} {n : Nd} (h : SQ w1 b n w) :
    (w.cell? ⟨w1.heap.size + 1 + 1, 0, none⟩ = some (E n.k) ∧ w.cell? ⟨w1.heap.size + 1 + 1, 1, none⟩ = some (U (word n.s 0)) ∧ w.cell? ⟨w1.heap.size + 1 + 1, 2, none⟩ = some (U (word n.s 1)) ∧ w.cell? ⟨w1.heap.size + 1 + 1, 3, none⟩ = some (U (word n.s 2)) ∧ w.cell? ⟨w1.heap.size + 1 + 1, 4, none⟩ = some (U (word n.s 3)) ∧
      w.cell? ⟨w1.heap.size + 1 + 1, 5, none⟩ = some (E n.a) ∧ w.cell? ⟨w1.heap.size + 1 + 1, 6, none⟩ = some (E n.b) ∧ w.cell? ⟨w1.heap.size + 1 + 1, 7, none⟩ = some (E n.mn) ∧ w.cell? ⟨w1.heap.size + 1 + 1, 8, none⟩ = some (E n.mx) ∧ w.cell? ⟨w1.heap.size + 1 + 1, 9, none⟩ = some (E n.n)) ∧
    w.cell? ⟨w1.heap.size, 0, none⟩ = some (PT b) :=
  ⟨⟨(Lib.cell_of_heap h.2 0).trans rfl, (Lib.cell_of_heap h.2 1).trans rfl, (Lib.cell_of_heap h.2 2).trans rfl, (Lib.cell_of_heap h.2 3).trans rfl, (Lib.cell_of_heap h.2 4).trans rfl, (Lib.cell_of_heap h.2 5).trans rfl, (Lib.cell_of_heap h.2 6).trans rfl, (Lib.cell_of_heap h.2 7).trans rfl, (Lib.cell_of_heap h.2 8).trans rfl, (Lib.cell_of_heap h.2 9).trans rfl⟩, cell_of_one h.1⟩
theorem sq_grown {w0 w1 w w' : World} {b : Nat} {v1 v : Value} {lf : Int} {n : Nd} {r : Rd} (h : ST w0 b w1 v1 lf n r v w) (hg : w.grownBy w' v.ownBlock) : SQ w1 b n w' :=
  ⟨(hg.block _ (lt_heap' h.p0) (Ne.symm (h.own _ (by omega) (by omega)))).trans h.p0, (hg.block _ (lt_heap' h.p2) (Ne.symm (h.own _ (by omega) (by omega)))).trans h.p2⟩
theorem fz_grown {w0 w1 w w' : World} {b : Nat} {v1 v : Value} {lf : Int} {n : Nd} {r : Rd} (h : ST w0 b w1 v1 lf n r v w) (hg : w.grownBy w' v.ownBlock) (i : Nat) : w'.frozen? ⟨b, i, none⟩ = false := by
  have e := (hg.block _ h.rw.lt (Ne.symm h.rw.ne)).trans h.rw.rd
  simp [World.frozen?, e]
theorem wf_pairs : ∀ (x : List UInt8) (s : List Nat) (bad : Bool), Wf s → Wf (pairsP x s bad).1
  | [], s, bad, h => h
  | [_], s, bad, h => h
  | c :: d :: r, s, bad, h => by
    unfold pairsP
    exact wf_pairs r _ _ (wf_orL (wf_two h (wf_ofL _)))
theorem wf_set (r : Rd) : Wf (setP r).2 := wf_pairs _ _ _ wf_zero
theorem cell_grown {w0 w1 w w' : World} {b : Nat} {v1 v : Value} {lf : Int} {n : Nd} {r : Rd} (h : ST w0 b w1 v1 lf n r v w) (hg : w.grownBy w' v.ownBlock) : w'.cell? ⟨b, 1, none⟩ = some v := by
  have e := (hg.block _ h.rw.lt (Ne.symm h.rw.ne)).trans h.rw.rd
  exact (Lib.cell_of_heap e 1).trans rfl
/-- .. and what is left of the text. -/
def SR (w1 : World) (b : Nat) (n : Nd) (x : List UInt8) (w : World) : Prop := SQ w1 b n w ∧ w.cell? ⟨b, 0, none⟩ = some (S x)
theorem sr_of {w0 w1 w : World} {b : Nat} {v1 v : Value} {lf : Int} {n : Nd} {r : Rd} (h : ST w0 b w1 v1 lf n r v w) : SR w1 b n r.rest w := ⟨sq_of h, h.rw.cells.1.1⟩
theorem close_prefix (x : List UInt8) (l : List Nd) (g : Int) (bad : Bool) : closeP ⟨x, l, g, bad⟩ = ⟨Lib.trimPrefix x [41], l, g, bad || !(Lib.hasPrefix x [41])⟩ := by
  unfold closeP Lib.trimPrefix Lib.hasPrefix
  cases x with
  | nil => simp
  | cons c t =>
    have hp : [41].isPrefixOf (c :: t) = (41 == c) := by simp [List.isPrefixOf]
    rw [hp]
    by_cases h : c = 41
    · subst h; simp
    · have h2 : ((41 : UInt8) == c) = false := by rw [beq_eq_false_iff_ne]; exact Ne.symm h
      rw [h2]
      simp [h]
/-! ### How much is left -/
theorem cut_le (c : UInt8) (x : List UInt8) : (cutB c x).2.1.length ≤ x.length := by
  rcases ibyte c x with ⟨_, h2⟩ | ⟨k, _, _, h2⟩ <;> rw [h2] <;> simp
/-- Less is left, no group is taken back. -/
structure Le (r r' : Rd) : Prop where
  len : r'.rest.length + r'.l.length ≤ r.rest.length + r.l.length
  g0 : r.g ≤ r'.g
  g1 : r'.g + r'.rest.length ≤ r.g + r.rest.length
theorem Le.trans {a b c : Rd} (h : Le a b) (k : Le b c) : Le a c := ⟨Nat.le_trans k.len h.len, Int.le_trans h.g0 k.g0, Int.le_trans k.g1 h.g1⟩
theorem Le.rin {a b : Rd} (h : Le a b) (k : Rin a) : Rin b := ⟨Nat.le_trans h.len k.len, Int.le_trans k.g0 h.g0, Int.le_trans h.g1 k.g1⟩
theorem Le.refl (a : Rd) : Le a a := ⟨Nat.le_refl _, Int.le_refl _, Int.le_refl _⟩
theorem le_until (c : UInt8) (r : Rd) : Le r (untilP c r).1 := by
  have := cut_le c r.rest
  unfold untilP
  exact ⟨by dsimp only; omega, Int.le_refl _, by dsimp only; omega⟩
theorem le_num (c : UInt8) (r : Rd) : Le r (numP c r).1 := by
  have := cut_le c r.rest
  unfold numP untilP
  exact ⟨by dsimp only; omega, Int.le_refl _, by dsimp only; omega⟩
theorem le_set (r : Rd) : Le r (setP r).1 := by
  have := cut_le 93 r.rest
  unfold setP untilP
  exact ⟨by dsimp only; omega, Int.le_refl _, by dsimp only; omega⟩
theorem close_nil (l : List Nd) (g : Int) (bad : Bool) : closeP ⟨[], l, g, bad⟩ = ⟨[], l, g, true⟩ := rfl
theorem close_cons (c : UInt8) (t : List UInt8) (l : List Nd) (g : Int) (bad : Bool) : closeP ⟨c :: t, l, g, bad⟩ = if c = 41 then ⟨t, l, g, bad⟩ else ⟨c :: t, l, g, true⟩ := rfl
theorem le_any (x : List UInt8) (l : List Nd) (g : Int) (b b' : Bool) : Le ⟨x, l, g, b⟩ ⟨x, l, g, b'⟩ := ⟨Nat.le_refl _, Int.le_refl _, Int.le_refl _⟩
theorem le_tail (c : UInt8) (x : List UInt8) (l : List Nd) (g : Int) (b b' : Bool) : Le ⟨c :: x, l, g, b⟩ ⟨x, l, g, b'⟩ := ⟨by simp, Int.le_refl _, by simp; omega⟩
theorem le_close (r : Rd) : Le r (closeP r) := by
  obtain ⟨rest, l, g, bad⟩ := r
  cases rest with
  | nil => rw [close_nil]; exact le_any _ _ _ _ _
  | cons c t =>
    rw [close_cons]
    split
    · exact le_tail _ _ _ _ _ _
    · exact le_any _ _ _ _ _
theorem ref_nil (l : List Nd) (g : Int) (bad : Bool) : refP ⟨[], l, g, bad⟩ = (⟨[], l, g, true⟩, 0) := rfl
theorem ref_cons (c : UInt8) (t : List UInt8) (l : List Nd) (g : Int) (bad : Bool) : refP ⟨c :: t, l, g, bad⟩ = (⟨t, l, g, false⟩, (c.toNat : Int) - 48) := rfl
theorem le_ref (r : Rd) : Le r (refP r).1 := by
  obtain ⟨rest, l, g, bad⟩ := r
  cases rest with
  | nil => rw [ref_nil]; exact le_any _ _ _ _ _
  | cons c t => rw [ref_cons]; exact le_tail _ _ _ _ _ _
theorem le_push {c : UInt8} {t : List UInt8} {l : List Nd} {g : Int} {bad bad' : Bool} {r : Rd} (h : Le ⟨t, l, g, bad⟩ r) (n : Nd) : Le ⟨c :: t, l, g, bad'⟩ (pushP r n).1 := by
  obtain ⟨h1, h2, h3⟩ := h
  dsimp only at h1 h2 h3
  unfold pushP
  exact ⟨by simp; omega, h2, by simp; omega⟩
theorem le_push1 {c : UInt8} {t : List UInt8} {l : List Nd} {g : Int} {bad bad' : Bool} {r : Rd} (h : Le ⟨t, l, g + 1, bad⟩ r) (n : Nd) : Le ⟨c :: t, l, g, bad'⟩ (pushP r n).1 := by
  obtain ⟨h1, h2, h3⟩ := h
  dsimp only at h1 h2 h3
  unfold pushP
  exact ⟨by simp; omega, by show g ≤ r.g; omega, by simp; omega⟩
theorem le_node : ∀ (left : Nat) (r : Rd), Le r (nodeP left r).1
  | 0, r => ⟨Nat.le_refl _, Int.le_refl _, Int.le_refl _⟩
  | left + 1, ⟨rest, l, g, bad⟩ => by
    unfold nodeP
    split
    · exact ⟨Nat.le_refl _, Int.le_refl _, Int.le_refl _⟩
    cases rest with
    | nil => exact ⟨Nat.le_refl _, Int.le_refl _, Int.le_refl _⟩
    | cons c t =>
      dsimp only
      split
      · exact le_push (Le.refl _) _
      split
      · exact le_push (le_set _) _
      split
      · exact le_push (Le.refl _) _
      split
      · exact le_push (Le.refl _) _
      split
      · exact le_push ((le_node left _).trans (le_node left _)) _
      split
      · exact le_push ((le_num 44 _).trans ((le_num 59 _).trans (le_node left _))) _
      split
      · exact le_push1 ((le_node left _).trans (le_close _)) _
      split
      · exact le_push (le_ref _) _
      · exact le_push (bad := true) (Le.refl _) _
/-- The node below: a step of the reader. -/
theorem below_any {w0 w1 w : World} {b left : Nat} {v1 v : Value} {n : Nd} {r : Rd} {lf : Int} (IH : Below1 w0 b left) (hlf : lf = ((left + 1 : Nat) : Int)) (hle : left ≤ 1000) (h : ST w0 b w1 v1 lf n r v w) (hr : Rin r) :
    Calls Tryz.prog 36 #[PT w1.heap.size, PT (w1.heap.size + 1)] w fun e w' => ∃ v', e = .returned (E ((nodeP left r).2 : Nat)) ∧ ST w0 b w1 v1 lf n (nodeP left r).1 v' w' := by
  have HI := Lib.hid (IH r v w h.rw hr)
  have hsub : IntKind.i64.wrap (lf - 1) = ((left : Nat) : Int) := by rw [IntKind.wrap_i64]; omega
  have HS := Lib.hid h
  obtain ⟨⟨d0, d1⟩, _, _⟩ := HS.out.facts
  clear h hlf IH
  go_enter Tryz.func36, Tryz.ntmps36
  go_wp2_with (go_at_call 21; refine HI.out.mono ?_; rintro e w2 ⟨v2, rfl, hr2, hk2⟩; have HS2 := Lib.hid (HS.out.step hr2 hk2); clear hr2 hk2)
  go_ret
  exact ⟨_, rfl, HS2.out⟩
end Go.Proofs.YtdjedjfanfbbcaaGreatDoor.Rx
