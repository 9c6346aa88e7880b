/- Subst: what a replacement becomes: the walk. -/
import Derived.Test.YthpiapemjadgdaaGreatDoorBldPk
import Derived.Test.YthpiapemjadgdaaGreatDoorShBPk
import Derived.Test.YthpiapemjadgdaaGreatDoorCk19
import Derived.Test.YthpiapemjadgdaaGreatDoorCk26
import Derived.Shelf.Strings.BuilderK
import Derived.Deep.LoopGhost
import Derived.Laws.Concat
namespace Go.Proofs.YthpiapemjadgdaaGreatDoor.Mt
open Go.RowKit Go.Shelf
open Go.Proofs.YthpiapemjadgdaaGreatDoor.Rx
open Go.Proofs.YthpiapemjadgdaaGreatDoor.Rx.Tr
open Go.Proofs.YthpiapemjadgdaaGreatDoor.Fn
open Go.Proofs.YthpiapemjadgdaaGreatDoor.St (Wf word mem SV SV_eq)
open Go.Proofs.YthpiapemjadgdaaGreatDoor.Bld (IsB Kept writeString_any)
set_option linter.unusedVariables false
set_option linter.unusedSimpArgs false
/-- A part of a replacement: bytes, or a group. -/
structure Pt where
  t : List UInt8
  g : Int
def PIn (w : World) (ao : Option Addr) (l : List Pt) : Prop := ∀ i (hi : i < l.length), ∃ b, ao = some ⟨b, 0, none⟩ ∧ w.cell? ⟨b, i * 2, none⟩ = some (S l[i].t) ∧ w.cell? ⟨b, i * 2 + 1, none⟩ = some (E l[i].g)
theorem PIn.below {w w' : World} {ao : Option Addr} {l : List Pt} (h : PIn w ao l) (hb : Below w.heap.size w w') : PIn w' ao l := fun i hi => by
  obtain ⟨b, h1, h2, h3⟩ := h i hi
  exact ⟨b, h1, (hb.cell (lt_cell h2)).trans h2, (hb.cell (lt_cell h3)).trans h3⟩
def partP (T : List UInt8) (c : Caps) (p : Pt) : List UInt8 := if p.g = -1 then p.t else groupP T c p.g
def fillP (T : List UInt8) (c : Caps) (l : List Pt) : List UInt8 := l.flatMap (partP T c)
theorem fill_next (T : List UInt8) (c : Caps) {l : List Pt} {k : Nat} (h : k < l.length) : fillP T c (l.take (k + 1)) = fillP T c (l.take k) ++ partP T c l[k] := by
  unfold fillP
  rw [List.take_succ_eq_append_getElem h, List.flatMap_append]
  simp
theorem group_le (T : List UInt8) (c : Caps) (n : Int) : (groupP T c n).length ≤ T.length := by
  unfold groupP
  split
  · cases h : gr c n.toNat with
    | none => simp [cutC]
    | some q => obtain ⟨i, j⟩ := q; simp [cutC, cutT]; omega
  · simp
theorem fill_le (T : List UInt8) (c : Caps) (m : Nat) (hm : T.length ≤ m) : ∀ l : List Pt, (∀ p ∈ l, p.t.length ≤ m) → (fillP T c l).length ≤ l.length * m
  | [], _ => by simp [fillP]
  | p :: r, h => by
    have h1 := fill_le T c m hm r fun q hq => h q (List.mem_cons_of_mem _ hq)
    have h2 : (partP T c p).length ≤ m := by
      unfold partP
      split
      · exact h p List.mem_cons_self
      · exact Nat.le_trans (group_le T c p.g) hm
    have e : fillP T c (p :: r) = partP T c p ++ fillP T c r := by simp [fillP]
    rw [e, List.length_append, List.length_cons, Nat.succ_mul]
    omega
theorem isb_below {B b : Nat} {l : List UInt8} {w w' : World} (h : IsB B b l w) (hb : Below w.heap.size w w') : IsB B b l w' := by
  have hg : w.grownBy w' none := ⟨hb.os, hb.tape, hb.output, hb.size, fun k hk _ => hb.block k hk⟩
  rcases h with ⟨h1, v, h2, ho, hn⟩ | ⟨h1, v, h2, ho, hn⟩
  · exact Or.inl ⟨h1, v, (hb.block b (lt_heap' h2)).trans h2, ho.kept hg (by by_cases q : v.ownBlock = none; exact Or.inl q; exact Or.inr q), hn⟩
  · exact Or.inr ⟨h1, v, (hb.block b (lt_heap' h2)).trans h2, ho.kept hg (by by_cases q : v.ownBlock = none; exact Or.inl q; exact Or.inr q), hn⟩
theorem isb_write {B b : Nat} {out s : List UInt8} {w' : World} (h : Lib.BuilderAtF 96 5 B b (.pointer (some ⟨b, 0, none⟩)) (Lib.byteCells out ++ Lib.strCells ⟨s.toArray⟩) w') : IsB B b (out ++ s) w' := by
  refine Or.inr ?_
  have : Lib.byteCells (out ++ s) = Lib.byteCells out ++ Lib.strCells ⟨s.toArray⟩ := by simp [Lib.byteCells, Lib.strCells]
  rw [this]; exact h
theorem isb_new (w : World) : IsB w.heap.size w.heap.size [] (w.alloc (.cells #[.pointer none, .slice none 0 0] 96)) :=
  Or.inl ⟨Nat.le_refl _, _, heap_alloc_new _ _, World.ownsRowF_nil _ _ _ _, by intro h; cases h⟩
/-- While parts are put together: what the groups have, and what there is. -/
structure FSb (w : World) (c : Caps) (out : List UInt8) (wr : World) : Prop where
  cb : wr.heap[w.heap.size]? = some (.cells (CC c) 27 (0, 0))
  bld : IsB (w.heap.size + 1) (w.heap.size + 1) out wr
  bel : Below w.heap.size w wr
  le : w.heap.size + 1 ≤ wr.heap.size
theorem FSb.below {w wr w' : World} {c : Caps} {out : List UInt8} (h : FSb w c out wr) (hb : Below wr.heap.size wr w') : FSb w c out w' :=
  ⟨(hb.block _ (lt_heap' h.cb)).trans h.cb, isb_below h.bld hb, h.bel.trans (hb.mono h.bel.size), Nat.le_trans h.le hb.size⟩
theorem FSb.write {w wr w' : World} {c : Caps} {out s : List UInt8} (h : FSb w c out wr) (h1 : Lib.BuilderAtF 96 5 (w.heap.size + 1) (w.heap.size + 1) (.pointer (some ⟨w.heap.size + 1, 0, none⟩)) (Lib.byteCells out ++ Lib.strCells ⟨s.toArray⟩) w') (h2 : Below (w.heap.size + 1) wr w') : FSb w c (out ++ s) w' :=
  ⟨(h2.block _ (Nat.lt_succ_self _)).trans h.cb, isb_write h1, h.bel.trans (h2.mono (Nat.le_succ _)), Nat.le_trans h.le h2.size⟩
theorem fsb_start (w : World) (c : Caps) : FSb w c [] ((w.alloc (.cells (CC c) 27)).alloc (.cells #[.pointer none, .slice none 0 0] 96)) := by
  refine ⟨heap_alloc2_old _ _ _, ?_, ((Below.refl _ _).alloc (Nat.le_refl _) _).alloc (by simp) _, by simp⟩
  have := isb_new (w.alloc (.cells (CC c) 27))
  rwa [show (w.alloc (.cells (CC c) 27)).heap.size = w.heap.size + 1 by simp] at this
set_option maxRecDepth 100000 in
set_option maxHeartbeats 6400000 in
theorem fill_any (ao : Option Addr) (cap : Nat) (l : List Pt) (T : List UInt8) (hT : T.length ≤ 100000) (c : Caps) (hc : CapsOk T.length c) (w : World) (h : PIn w ao l) (hl : l.length ≤ 1000) (hb : ∀ p ∈ l, p.t.length ≤ 100000) (R : List UInt8) (hR : R = fillP T c l) :
    Calls Tryz.prog 52 #[.slice ao l.length cap, S T, CV c] w fun e w' => e = .returned (S R) ∧ Below w.heap.size w w' := by
  have HT := Lib.hid (fsb_start w c)
  have HP := Lib.hid h
  have HLN := Lib.hid (fun k => show (fillP T c (l.take k)).length ≤ 100000000 from by
    have h1 := fill_le T c 100000 hT (l.take k) (fun p hp => hb p (List.mem_of_mem_take hp))
    have h2 : (l.take k).length ≤ 1000 := by rw [List.length_take]; omega
    have h3 := Nat.mul_le_mul_right 100000 h2
    omega)
  have HPL := Lib.hid (fun (k : Nat) (hk : k < l.length) => hb l[k] (List.getElem_mem hk))
  have HG := Lib.hid (fun (n : Int) (W : World) => group_any T hT c hc n W _ rfl)
  have HGL := Lib.hid (fun n => Nat.le_trans (group_le T c n) hT)
  have HRR := Lib.hid hR
  have HLL := Lib.hid hl
  clear h hc hb hR hT hl
  go_enter Tryz.func52, Tryz.ntmps52
  rw [show Code.region 2 = Fz 2 from rfl]
  go_wp2
  refine at_world (p := fun V => FSb w c [] V) HT.out (fun V hV => ?_)
  have HV := Lib.hid (show FSb w c (fillP T c (l.take 0)) V from by rw [List.take_zero]; exact hV)
  clear hV HT
  rw [show Fz 2 = Code.region 2 from rfl]
  go_wp2
  go_loopw [12] (fun iv wr => ∃ k : Nat, k ≤ l.length ∧ iv = .int .i64 (k : Nat) ∧ Hid (FSb w c (fillP T c (l.take k)) wr)) (fun iv _ => l.length - (intOf iv).toNat)
  case atStart => exact ⟨0, Nat.zero_le _, rfl, HV⟩
  case round =>
    clear HV
    obtain ⟨k, hk, rfl, HF⟩ := hrel
    have hol := HLN.out k
    by_cases hlt : k < l.length
    · have hlt' : (k : Int) < (l.length : Int) := by omega
      have hk0 : (0 : Int) ≤ (k : Int) := by omega
      have hwk : IntKind.i64.wrap ((k : Int) + 1) = (k : Int) + 1 := by rw [IntKind.wrap_i64]; have := HLL.out; omega
      obtain ⟨b, rfl, p1, p2⟩ := (HP.out.below (show Below w.heap.size w wr from HF.out.bel)) k hlt
      have HNX := Lib.hid (fill_next T c hlt)
      have HPT := Lib.hid (HPL.out k hlt)
      generalize l[k] = p at *
      obtain ⟨t, g⟩ := p
      dsimp only at p1 p2
      have HK := Lib.hid hlt
      have HF1 := Lib.hid (HF.out.below ((Below.refl _ _).alloc (Nat.le_refl _) (.cells #[S t, E g] 56)))
      obtain ⟨out, hout⟩ : ∃ out, out = fillP T c (l.take k) := ⟨_, rfl⟩
      rw [← hout] at HF1 HNX hol
      have HOL := Lib.hid hol
      have HTL := Lib.hid (show t.length ≤ 100000 from HPT.out)
      clear hlt hk HF hol hout
      by_cases hg : g = -1
      · subst hg
        have HN2 := Lib.hid (show fillP T c (l.take (k + 1)) = out ++ t from HNX.out)
        clear HNX
        go_wp2_with (go_at_call 51; refine (writeString_any (w.heap.size + 1) (w.heap.size + 1) (Lib.byteCells out) ⟨(t).toArray⟩ _ HF1.out.bld (by have := HOL.out; have := HTL.out; simp only [Lib.byteCells_length, ByteArray.size, List.size_toArray]; omega) HF1.out.le).mono ?_; rintro e w1 ⟨rfl, q1, q2, q3⟩; have HF2 := Lib.hid (HF1.out.write q1 q2); clear q1 q2 q3 HF1)
        go_roundw
        case rel => exact ⟨k + 1, by have := HK.out; omega, by go_num, by rw [HN2.out]; exact HF2⟩
        case measure => have := HK.out; simp [intOf]; omega
      · have hq : (g == -1) = false := by rw [beq_eq_false_iff_ne]; exact hg
        have HN2 := Lib.hid (show fillP T c (l.take (k + 1)) = out ++ groupP T c g from by rw [HNX.out]; unfold partP; rw [if_neg hg])
        have HGG := Lib.hid (fun W => HG.out g W)
        have HGL2 := Lib.hid (HGL.out g)
        generalize groupP T c g = gs at *
        clear HNX hg
        go_wp2_with (first
          | (refine wpList_load_row rfl 27 (.tmp 5) rfl w.heap.size rfl _ (CC c) (0, 0) _ HF1.out.cb Tryz.underlying27 rfl (by kernel_rfl) ?_; simp only [Act.put, List.setIfInBounds_toArray, List.set_cons_zero, List.set_cons_succ])
          | (go_at_call 76; refine (HGG.out _).mono ?_; rintro e w3 ⟨rfl, hb⟩; have HF3 := Lib.hid (HF1.out.below hb); clear hb HF1)
          | (go_at_call 51; refine (writeString_any (w.heap.size + 1) (w.heap.size + 1) (Lib.byteCells out) ⟨(gs).toArray⟩ _ HF3.out.bld (by have := HOL.out; have := HGL2.out; simp only [Lib.byteCells_length, ByteArray.size, List.size_toArray]; omega) HF3.out.le).mono ?_; rintro e w1 ⟨rfl, q1, q2, q3⟩; have HF2 := Lib.hid (HF3.out.write q1 q2); clear q1 q2 q3 HF3))
        go_roundw
        case rel => exact ⟨k + 1, by have := HK.out; omega, by go_num, by rw [HN2.out]; exact HF2⟩
        case measure => have := HK.out; simp [intOf]; omega
    · obtain rfl : k = l.length := by omega
      have hnl : ¬ (l.length : Int) < (l.length : Int) := by omega
      have hf := HF.out
      rw [List.take_length, ← HRR.out] at hf
      have HF1 := Lib.hid hf
      clear hf HF hlt hk hol
      go_wp2_with (go_at_call 53; refine (Tryz.Builder_String_any_k _ _ R _ HF1.out.bld HF1.out.le).mono ?_; rintro e w2 ⟨rfl, g3, g4, g5⟩; have HB := Lib.hid (HF1.out.bel.trans (g4.mono (Nat.le_succ _))); clear g3 g4 g5 HF1)
      go_ret
      exact ⟨rfl, HB.out⟩
end Go.Proofs.YthpiapemjadgdaaGreatDoor.Mt
