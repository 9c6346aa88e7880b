/- The list of a text: the walk. -/
import Derived.Test.YtpgglnibfojdgaaGreatDoorTrPiece
namespace Go.Proofs.YtpgglnibfojdgaaGreatDoor.Tr
open Go.RowKit Go.Shelf Bld
set_option linter.unusedVariables false
set_option linter.unusedSimpArgs false
/-- What a list that is being made holds: its width's block c, its line's a, its builder's b. -/
structure Ls (B c a b : Nat) (w0 : World) (width : Int) (out : List UInt8) (line : Nat) (w : World) : Prop where
  bld : IsB B b out w
  wid : w.heap[c]? = some (.cells #[E width] 3 (0, 0))
  lin : w.heap[a]? = some (.cells #[E (line : Nat)] 3 (0, 0))
  bel : Below B w0 w
  le : B ≤ w.heap.size
  ab : a ≠ b
  cb : c ≠ b
  ac : a ≠ c
  Ba : B ≤ a
theorem Ls.cw {B c a b w0 width out line w} (h : Ls B c a b w0 width out line w) : w.cell? ⟨c, 0, none⟩ = some (E width) := by rw [Lib.cell_of_heap h.wid]; rfl
theorem Ls.cl {B c a b w0 width out line w} (h : Ls B c a b w0 width out line w) : w.cell? ⟨a, 0, none⟩ = some (E (line : Nat)) := by rw [Lib.cell_of_heap h.lin]; rfl
theorem Ls.fl {B c a b w0 width out line w} (h : Ls B c a b w0 width out line w) : w.frozen? ⟨a, 0, none⟩ = false := Lib.frozen_of_heap h.lin 0
theorem Ls.write {B c a b w0 width out line w w'} {s : List UInt8} (h : Ls B c a b w0 width out line w)
    (h1 : Lib.BuilderAtF 51 5 B b (.pointer (some ⟨b, 0, none⟩)) (Lib.byteCells out ++ Lib.strCells ⟨s.toArray⟩) w') (h2 : Below B w w') (h3 : Kept b w w') : Ls B c a b w0 width (out ++ s) line w' where
  bld := by
    refine Or.inr ?_
    have : Lib.byteCells (out ++ s) = Lib.byteCells out ++ Lib.strCells ⟨s.toArray⟩ := by simp [Lib.byteCells, Lib.strCells]
    rw [this]; exact h1
  wid := h3 c _ h.wid (by intro e; exact h.cb (Option.some.inj e)) (by intro c fz e; cases e)
  lin := h3 a _ h.lin (by intro e; exact h.ab (Option.some.inj e)) (by intro c fz e; cases e)
  bel := h.bel.trans h2
  le := Nat.le_trans h.le h2.size
  ab := h.ab
  cb := h.cb
  ac := h.ac
  Ba := h.Ba
theorem blk_other (w : World) (a : Addr) (u : Value) (k : Nat) (h : k ≠ a.block) : (w.setCell a u).heap[k]? = w.heap[k]? := by
  simp only [World.setCell, Array.getElem?_modify]
  rw [if_neg (by omega)]
theorem Ls.line {B c a b w0 width out line w} (h : Ls B c a b w0 width out line w) (n : Nat) : Ls B c a b w0 width out n (w.setCell ⟨a, 0, none⟩ (E (n : Nat))) where
  bld := by
    have hg : w.grownBy (w.setCell ⟨a, 0, none⟩ (E (n : Nat))) (some a) := ⟨rfl, rfl, rfl, by simp [World.setCell], fun k _ hk => blk_other w _ _ k (fun e => hk (by rw [e]))⟩
    rcases h.bld with ⟨hB, v, hb, ho, hn⟩ | ⟨hB, v, hb, ho, hn⟩
    · exact Or.inl ⟨hB, v, (blk_other w _ _ b (Ne.symm h.ab)).trans hb, ho.kept hg (Or.inr (Lib.ownBlock_neF ho h.lin (by decide))), hn⟩
    · exact Or.inr ⟨hB, v, (blk_other w _ _ b (Ne.symm h.ab)).trans hb, ho.kept hg (Or.inr (Lib.ownBlock_neF ho h.lin (by decide))), hn⟩
  wid := (blk_other w _ _ c (Ne.symm h.ac)).trans h.wid
  lin := by simp [World.setCell, Array.getElem?_modify, h.lin]
  bel := h.bel.setCell (p := ⟨a, 0, none⟩) h.Ba _
  le := by simpa [World.setCell] using h.le
  ab := h.ab
  cb := h.cb
  ac := h.ac
  Ba := h.Ba
set_option maxRecDepth 100000 in
set_option maxHeartbeats 1600000 in
theorem put_any (B c a b : Nat) (w0 : World) (width : Int) (out : List UInt8) (line : Nat) (p : List UInt8) (w : World) (h : Ls B c a b w0 width out line w)
    (ho : out.length ≤ 1000000) (hl : line ≤ 1000000) (hp : p.length ≤ 4) :
    Calls Tryz.prog 20 #[S p, .pointer (some ⟨c, 0, none⟩), .pointer (some ⟨a, 0, none⟩), .pointer (some ⟨b, 0, none⟩)] w fun e w' =>
      e = .returned (.tuple #[]) ∧ Ls B c a b w0 width (stepL width (out, line) p).1 (stepL width (out, line) p).2 w' := by
  have g1 := h.cw
  have g2 := h.cl
  by_cases hf : 1 < width ∧ 0 < line ∧ width ≤ ((line + p.length : Nat) : Int)
  · have hS : stepL width (out, line) p = (out ++ [92, 10] ++ p, p.length) := if_pos hf
    have HS := Lib.hid hS
    clear hS
    obtain ⟨f1, f2, f3⟩ := hf
    have f2' : (0 : Int) < (line : Nat) := by omega
    have f3' : width ≤ ((line : Nat) : Int) + ((p.length : Nat) : Int) := by omega
    clear f2 f3
    go_enter Tryz.func20, Tryz.ntmps20
    go_wp2_with (go_at_call 21; refine (writeString_any B b (Lib.byteCells out) ⟨[92, 10].toArray⟩ _ h.bld (by simp [Lib.byteCells_length, ByteArray.size]; omega) h.le).mono ?_)
    rintro e w1 ⟨rfl, q1, q2, q3⟩
    have h1 := h.write q1 q2 q3
    have z2 := h1.cl
    have z3 := h1.fl
    have h2 := h1.line 0
    clear q1 q2 q3 h g1 g2
    go_wp2_with (go_at_call 21; refine (writeString_any B b (Lib.byteCells (out ++ [92, 10])) ⟨p.toArray⟩ _ h2.bld (by simp [Lib.byteCells_length, ByteArray.size]; omega) h2.le).mono ?_)
    rintro e w2 ⟨rfl, q1, q2, q3⟩
    have h3 := h2.write q1 q2 q3
    have y2 := h3.cl
    have y3 := h3.fl
    have H4 := Lib.hid (h3.line p.length)
    clear q1 q2 q3 h2 h1 h3
    go_wp2
    go_end0
    rw [HS.out]
    exact ⟨rfl, by simpa using H4.out⟩
  · have hS : stepL width (out, line) p = (out ++ p, line + p.length) := if_neg hf
    have HS := Lib.hid hS
    have HF := Lib.hid hf
    clear hS hf
    have TAIL : Hid (∀ w1, Lib.BuilderAtF 51 5 B b (.pointer (some ⟨b, 0, none⟩)) (Lib.byteCells out ++ Lib.strCells ⟨p.toArray⟩) w1 → Below B w w1 → Kept b w w1 → Ls B c a b w0 width (out ++ p) line w1) := Lib.hid fun w1 q1 q2 q3 => h.write q1 q2 q3
    have HB := Lib.hid h.bld
    have HL := Lib.hid h.le
    clear h
    by_cases f1 : 1 < width
    · by_cases f2 : 0 < line
      · have f3 : ¬ width ≤ ((line : Nat) : Int) + ((p.length : Nat) : Int) := by
          intro q; exact HF.out ⟨f1, f2, by omega⟩
        have f2' : (0 : Int) < (line : Nat) := by omega
        go_enter Tryz.func20, Tryz.ntmps20
        go_wp2_with (go_at_call 21; refine (writeString_any B b (Lib.byteCells out) ⟨p.toArray⟩ _ HB.out (by simp [Lib.byteCells_length, ByteArray.size]; omega) HL.out).mono ?_; rintro e w1 ⟨rfl, q1, q2, q3⟩; have h1 := TAIL.out w1 q1 q2 q3; have y2 := h1.cl; have y3 := h1.fl; have H4 := Lib.hid (h1.line (line + p.length)); clear q1 q2 q3 h1 g1 g2)
        go_wp2
        go_end0
        rw [HS.out]
        exact ⟨rfl, by simpa using H4.out⟩
      · have f2' : ¬ (0 : Int) < (line : Nat) := by omega
        go_enter Tryz.func20, Tryz.ntmps20
        go_wp2_with (go_at_call 21; refine (writeString_any B b (Lib.byteCells out) ⟨p.toArray⟩ _ HB.out (by simp [Lib.byteCells_length, ByteArray.size]; omega) HL.out).mono ?_; rintro e w1 ⟨rfl, q1, q2, q3⟩; have h1 := TAIL.out w1 q1 q2 q3; have y2 := h1.cl; have y3 := h1.fl; have H4 := Lib.hid (h1.line (line + p.length)); clear q1 q2 q3 h1 g1 g2)
        go_wp2
        go_end0
        rw [HS.out]
        exact ⟨rfl, by simpa using H4.out⟩
    · go_enter Tryz.func20, Tryz.ntmps20
      go_wp2_with (go_at_call 21; refine (writeString_any B b (Lib.byteCells out) ⟨p.toArray⟩ _ HB.out (by simp [Lib.byteCells_length, ByteArray.size]; omega) HL.out).mono ?_; rintro e w1 ⟨rfl, q1, q2, q3⟩; have h1 := TAIL.out w1 q1 q2 q3; have y2 := h1.cl; have y3 := h1.fl; have H4 := Lib.hid (h1.line (line + p.length)); clear q1 q2 q3 h1 g1 g2)
      go_wp2
      go_end0
      rw [HS.out]
      exact ⟨rfl, by simpa using H4.out⟩
theorem lt_of_heap {w : World} {k : Nat} {o : Obj} (h : w.heap[k]? = some o) : k < w.heap.size := by
  rcases Nat.lt_or_ge k w.heap.size with h' | h'
  · exact h'
  · rw [Array.getElem?_eq_none h'] at h; cases h
theorem Ls.below {B c a b w0 width out line w w'} (h : Ls B c a b w0 width out line w) (hb : Below w.heap.size w w') : Ls B c a b w0 width out line w' where
  bld := by
    have hg : w.grownBy w' none := ⟨hb.os, hb.tape, hb.output, hb.size, fun k hk _ => hb.block k hk⟩
    rcases h.bld with ⟨hB, v, hq, ho, hn⟩ | ⟨hB, v, hq, ho, hn⟩
    · refine Or.inl ⟨hB, v, (hb.block b (lt_of_heap hq)).trans hq, ho.kept hg ?_, hn⟩
      cases hv : v.ownBlock
      · exact Or.inl rfl
      · exact Or.inr (by simp)
    · refine Or.inr ⟨hB, v, (hb.block b (lt_of_heap hq)).trans hq, ho.kept hg ?_, hn⟩
      cases hv : v.ownBlock
      · exact Or.inl rfl
      · exact Or.inr (by simp)
  wid := (hb.block c (lt_of_heap h.wid)).trans h.wid
  lin := (hb.block a (lt_of_heap h.lin)).trans h.lin
  bel := h.bel.trans (hb.mono h.le)
  le := Nat.le_trans h.le hb.size
  ab := h.ab
  cb := h.cb
  ac := h.ac
  Ba := h.Ba
theorem Ls.start (w : World) (width : Int) : Ls w.heap.size w.heap.size (w.heap.size + 1 + 1) (w.heap.size + 1) w width [] 0
    (((w.alloc (.cells #[E width] 3)).alloc (.cells #[.pointer none, .slice none 0 0] 51)).alloc (.cells #[E 0] 3)) where
  bld := by
    have e : ((w.alloc (.cells #[E width] 3)).alloc (.cells #[.pointer none, .slice none 0 0] 51)).heap[w.heap.size + 1]? = some (.cells #[.pointer none, .slice none 0 0] 51 (0, 0)) := by
      have := heap_alloc_new (w.alloc (.cells #[E width] 3)) (.cells #[.pointer none, .slice none 0 0] 51)
      simpa using this
    exact Or.inl ⟨by omega, .slice none 0 0, (heap_alloc_old _ _ (lt_of_heap e)).trans e, World.ownsRowF_nil _ _ _ _, by simp [Value.ownBlock]⟩
  wid := by
    have e := heap_alloc_new w (.cells #[E width] 3)
    have e2 := (heap_alloc_old (w.alloc (.cells #[E width] 3)) (.cells #[.pointer none, .slice none 0 0] 51) (lt_of_heap e)).trans e
    exact (heap_alloc_old _ _ (lt_of_heap e2)).trans e2
  lin := by
    have := heap_alloc_new ((w.alloc (.cells #[E width] 3)).alloc (.cells #[.pointer none, .slice none 0 0] 51)) (.cells #[E 0] 3)
    simpa using this
  bel := (((Below.refl _ w).alloc (Nat.le_refl _) _).alloc (by simp) _).alloc (by simp; omega) _
  le := by simp; omega
  ab := by omega
  cb := by omega
  ac := by omega
  Ba := by omega
set_option maxRecDepth 100000 in
set_option maxHeartbeats 1600000 in
theorem list_any (s : List UInt8) (width : Int) (w : World) (hT : Tab w) (hl : s.length ≤ 10000) :
    Calls Tryz.prog 12 #[S s, E width] w fun e w' => e = .returned (S (listL s width)) ∧ Below w.heap.size w w' := by
  have hmf : ∀ (fn : Fn) (first cap : Array Value) (w : World), (Instr.makeFunc fn first cap).run Tryz.prog w = .ok (.func fn first cap) w := fun _ _ _ _ => rfl
  have HS0 := Lib.hid (Ls.start w width)
  have HT := Lib.hid hT
  clear hT
  go_enter Tryz.func12, Tryz.ntmps12
  go_wp2
  go_loopw [12] (fun i wr => ∃ k : Nat, k ≤ s.length ∧ i = .int .i64 (k : Nat) ∧ Ls w.heap.size w.heap.size (w.heap.size + 1 + 1) (w.heap.size + 1) w width (runL width (s.take k) ([], 0)).1 (runL width (s.take k) ([], 0)).2 wr) (fun i _ => s.length - (intOf i).toNat)
  case atStart => exact ⟨0, Nat.zero_le _, rfl, HS0.out⟩
  case round =>
    clear HS0
    obtain ⟨k, hk, rfl, HL⟩ := hrel
    have hlen := runL_len width (s.take k) ([], 0)
    simp only [List.length_take, List.length_nil, Nat.zero_add] at hlen
    by_cases hlt : k < s.length
    · have hx : ((ByteArray.mk s.toArray)[k]'hlt) = s[k] := rfl
      have ST := Lib.hid (runL_take (width := width) (st := ([], 0)) hlt)
      have hpl := piece_len s[k]
      obtain ⟨out, line, hol⟩ : ∃ out line, runL width (s.take k) ([], 0) = (out, line) := ⟨_, _, rfl⟩
      rw [hol] at HL ST hlen
      simp only at hlen
      clear hol
      generalize s[k] = c at *
      have HP := Lib.hid (piece_any c wr (HT.out.below (HL.bel)))
      obtain ⟨p, hp⟩ : ∃ p, pieceL c = p := ⟨_, rfl⟩
      rw [hp] at HP hpl ST
      clear hp
      have hpl2 := hpl.2
      have ho1 : out.length ≤ 1000000 := by omega
      have ho2 : line ≤ 1000000 := by omega
      clear hpl hlen
      go_wp2_with (first | (go_at_call 22; refine HP.out.mono ?_; rintro e w1 ⟨rfl, hb⟩; have HL1 := HL.below hb; clear HL hb) | (go_at_call 20; refine (put_any _ _ _ _ _ width out line p _ HL1 ho1 ho2 hpl2).mono ?_; rintro e w2 ⟨rfl, HL2⟩; clear HL1))
      go_roundw
      case rel => exact ⟨k + 1, by omega, by go_num, by rw [ST.out]; exact HL2⟩
      case measure => simp [intOf]; omega
    · obtain rfl : k = s.length := by omega
      rw [List.take_length] at HL hlen
      have HE := Lib.hid (show listL s width = (runL width s ([], 0)).1 ++ [36, 10] from rfl)
      generalize (runL width s ([], 0)).1 = out at *
      have ho1 : out.length ≤ 1000000 := by omega
      clear hlen
      go_wp2_with (first | (go_at_call 21; refine (writeString_any w.heap.size (w.heap.size + 1) (Lib.byteCells out) ⟨[36, 10].toArray⟩ _ HL.bld (by simp [Lib.byteCells_length, ByteArray.size]; omega) HL.le).mono ?_; rintro e w1 ⟨rfl, q1, q2, q3⟩; have HL1 := HL.write q1 q2 q3; clear q1 q2 q3 HL) | (go_at_call 23; refine (Tryz.Builder_String_any_k _ _ _ _ HL1.bld HL1.le).mono ?_; rintro e w2 ⟨rfl, g3, g4, g5⟩; have hb := HL1.bel.trans g4; clear g3 g4 g5 HL1))
      go_ret
      rw [HE.out]
      exact ⟨rfl, hb⟩
end Go.Proofs.YtpgglnibfojdgaaGreatDoor.Tr
