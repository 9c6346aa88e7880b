/- Subst: what Print answers. -/
import Derived.Test.YtinallojhkaogaaGreatDoorSbQ2Pk
import Derived.Test.YtinallojhkaogaaGreatDoorGk35
import Derived.Test.YtinallojhkaogaaGreatDoorBldXPk
import Derived.Test.YtinallojhkaogaaGreatDoorRqAPk
import Derived.Test.YtinallojhkaogaaGreatDoorGk19
import Derived.Test.YtinallojhkaogaaGreatDoorGk07
import Derived.Test.YtinallojhkaogaaGreatDoorGk02
import Derived.Deep.LoopGhost
import Derived.Laws.StructEq
import Derived.Laws.Concat
namespace Go.Proofs.YtinallojhkaogaaGreatDoor.Mt
open Go.RowKit Go.Shelf
open Go.Proofs.YtinallojhkaogaaGreatDoor.Rx
open Go.Proofs.YtinallojhkaogaaGreatDoor.Rq (Rd After Made Oth rd_made Tp rep)
open Go.Proofs.YtinallojhkaogaaGreatDoor.Bld (IsB Fine writeString_fine writeByte_fine)
set_option linter.unusedVariables false
set_option linter.unusedSimpArgs false
theorem own_keptF {B e n z : Nat} {v : Value} {xs : List Value} {w w' : World} (ho : w.ownsRowF B e z v n xs) (hk : ∀ g o, v.ownBlock = some g → w.heap[g]? = some o → w'.heap[g]? = some o) : w'.ownsRowF B e z v n xs := by
  refine ⟨ho.1, ?_⟩
  rcases ho.2 with h | ⟨g, cp, cur, fz, hv, h1, h2, h3⟩
  · exact Or.inl h
  · exact Or.inr ⟨g, cp, cur, fz, hv, h1, hk g _ (by subst hv; rfl) h2, h3⟩
/-- A builder's row. -/
theorem isb_row {B b : Nat} {l : List UInt8} {w : World} (h : IsB B b l w) : ∃ p v, w.heap[b]? = some (.cells #[p, v] 98 (0, 0)) ∧ (∀ g, v.ownBlock = some g → g < w.heap.size ∧ g ≠ b) := by
  rcases h with ⟨h1, v, h2, ho, hn⟩ | ⟨h1, v, h2, ho, hn⟩
  · exact ⟨_, v, h2, fun g hg => ⟨(ho.lt g hg).2, fun e => hn (by rw [hg, e])⟩⟩
  · exact ⟨_, v, h2, fun g hg => ⟨(ho.lt g hg).2, fun e => hn (by rw [hg, e])⟩⟩
theorem isb_oth {B b : Nat} {l : List UInt8} {w w' : World} (h : IsB B b l w) (hb : ∀ o, w.heap[b]? = some o → w'.heap[b]? = some o) (hk : ∀ v g o, w.cell? ⟨b, 1, none⟩ = some v → v.ownBlock = some g → w.heap[g]? = some o → w'.heap[g]? = some o) : IsB B b l w' := by
  rcases h with ⟨h1, v, h2, ho, hn⟩ | ⟨h1, v, h2, ho, hn⟩
  · exact Or.inl ⟨h1, v, hb _ h2, own_keptF ho fun g o e1 e2 => hk v g o (by rw [Lib.cell_of_heap h2]; rfl) e1 e2, hn⟩
  · exact Or.inr ⟨h1, v, hb _ h2, own_keptF ho fun g o e1 e2 => hk v g o (by rw [Lib.cell_of_heap h2]; rfl) e1 e2, hn⟩
/-- While parts are printed: the builder, the replacer, no block of which is the builder's. -/
structure PrS (w : World) (q : Nat) (out : List UInt8) (wr : World) : Prop where
  bld : IsB w.heap.size w.heap.size out wr
  rd : ∃ Z v0, Rd Z q qT wr ∧ wr.cell? ⟨w.heap.size, 1, none⟩ = some v0 ∧ ∀ g, Z g → g ≠ w.heap.size ∧ v0.ownBlock ≠ some g
  bel : Below w.heap.size w wr
  ge : w.heap.size ≤ q
  le : w.heap.size + 1 ≤ wr.heap.size
theorem PrS.below {w wr w' : World} {q : Nat} {out : List UInt8} (h : PrS w q out wr) (hb : Below wr.heap.size wr w') : PrS w q out w' := by
  obtain ⟨Z, v0, h1, h2, h3⟩ := h.rd
  exact ⟨isb_below h.bld hb, ⟨Z, v0, h1.keep hb.size (fun g o _ e => Rq.below_keep hb g o e), (hb.cell (p := ⟨w.heap.size, 1, none⟩) (lt_cell h2)).trans h2, h3⟩, h.bel.trans (hb.mono h.bel.size), h.ge, Nat.le_trans h.le hb.size⟩
/-- .. and a box that stands beside them. -/
structure PrB (w : World) (q x : Nat) (t : List UInt8) (g : Int) (out : List UInt8) (wr : World) : Prop where
  s : PrS w q out wr
  box : wr.heap[x]? = some (.cells #[S t, E g] 55 (0, 0))
  nb : x ≠ w.heap.size
  nq : x ≠ q
  own : ∀ v0, wr.cell? ⟨w.heap.size, 1, none⟩ = some v0 → v0.ownBlock ≠ some x
theorem PrB.cells {w wr : World} {q x : Nat} {t : List UInt8} {g : Int} {out : List UInt8} (h : PrB w q x t g out wr) : wr.cell? ⟨x, 0, none⟩ = some (S t) ∧ wr.cell? ⟨x, 1, none⟩ = some (E g) :=
  ⟨(Lib.cell_of_heap h.box 0).trans rfl, (Lib.cell_of_heap h.box 1).trans rfl⟩
theorem PrB.below {w wr w' : World} {q x : Nat} {t : List UInt8} {g : Int} {out : List UInt8} (h : PrB w q x t g out wr) (hb : Below wr.heap.size wr w') : PrB w q x t g out w' := by
  obtain ⟨Z, v0, h1, h2, h3⟩ := h.s.rd
  refine ⟨h.s.below hb, (hb.block _ (lt_heap' h.box)).trans h.box, h.nb, h.nq, fun v1 e => ?_⟩
  rw [hb.cell (p := ⟨w.heap.size, 1, none⟩) (lt_cell h2)] at e
  exact h.own v1 e
theorem prb_box {w wr : World} {q : Nat} {out : List UInt8} (h : PrS w q out wr) (t : List UInt8) (g : Int) : PrB w q wr.heap.size t g out (wr.alloc (.cells #[S t, E g] 55)) := by
  obtain ⟨Z, v0, h1, h2, h3⟩ := h.rd
  obtain ⟨p, v, e1, e2⟩ := isb_row h.bld
  have hb := (Below.refl wr.heap.size wr).alloc (Nat.le_refl _) (.cells #[S t, E g] 55)
  refine ⟨h.below hb, heap_alloc_new _ _, by have := h.le; omega, by have := h1.lt q h1.own; omega, fun v1 e => ?_⟩
  rw [hb.cell (p := ⟨w.heap.size, 1, none⟩) (lt_cell h2)] at e
  rw [Lib.cell_of_heap e1] at e
  obtain rfl := Option.some.inj e
  intro e3
  have := (e2 _ e3).1
  omega
theorem prs_new {w wr w' : World} {q x : Nat} {t : List UInt8} {g : Int} {out out' : List UInt8} (hx : PrB w q x t g out wr) {Z : Nat → Prop} {v0 v' : Value} (h0 : wr.cell? ⟨w.heap.size, 1, none⟩ = some v0) (h1 : Rd Z q qT wr) (h3 : ∀ g, Z g → g ≠ w.heap.size ∧ v0.ownBlock ≠ some g)
    (q1 : IsB w.heap.size w.heap.size out' w') (q2 : Below w.heap.size wr w') (q3 : Fine w.heap.size v0 wr w') (q4 : w'.cell? ⟨w.heap.size, 1, none⟩ = some v') (q5 : v'.ownBlock = v0.ownBlock ∨ ∃ g, v'.ownBlock = some g ∧ wr.heap.size ≤ g) : PrB w q x t g out' w' := by
  have h := hx.s
  have hxo := hx.own v0 h0
  have hxl := lt_heap' hx.box
  refine ⟨⟨q1, ⟨Z, v', h1.keep q2.size (fun g o z e => q3 g o (h3 g z).1 (h3 g z).2 e), q4, fun g z => ⟨(h3 g z).1, ?_⟩⟩, h.bel.trans q2, h.ge, Nat.le_trans h.le q2.size⟩, q3 _ _ hx.nb hxo hx.box, hx.nb, hx.nq, fun v1 e => ?_⟩
  · rcases q5 with e | ⟨g', e, hg⟩
    · rw [e]; exact (h3 g z).2
    · rw [e]; intro e2; have := h1.lt g z; have := Option.some.inj e2; omega
  · rw [q4] at e
    obtain rfl := Option.some.inj e
    rcases q5 with e | ⟨g', e, hg⟩
    · rw [e]; exact hxo
    · rw [e]; intro e2; have := Option.some.inj e2; omega
theorem prs_write {w wr : World} {q x : Nat} {t : List UInt8} {g : Int} {out : List UInt8} (hx : PrB w q x t g out wr) (s : List UInt8) (hl : out.length + s.length ≤ 1000000000) :
    Calls Tryz.prog 55 #[.pointer (some ⟨w.heap.size, 0, none⟩), S s] wr fun e w' => e = .returned (.tuple #[E (s.length : Nat), .nilIface]) ∧ PrB w q x t g (out ++ s) w' := by
  obtain ⟨Z, v0, h1, h2, h3⟩ := hx.s.rd
  refine (writeString_fine w.heap.size w.heap.size (Lib.byteCells out) ⟨s.toArray⟩ wr hx.s.bld (by simp only [Lib.byteCells_length, ByteArray.size, List.size_toArray]; omega) hx.s.bel.size v0 h2).mono ?_
  rintro e w' ⟨rfl, q1, q2, q3, v', q4, q5⟩
  exact ⟨by simp [ByteArray.size], prs_new hx h2 h1 h3 (isb_write q1) q2 q3 q4 q5⟩
theorem prs_byte {w wr : World} {q x : Nat} {t : List UInt8} {g : Int} {out : List UInt8} (hx : PrB w q x t g out wr) (c : UInt8) (hl : out.length ≤ 1000000000) :
    Calls Tryz.prog 63 #[.pointer (some ⟨w.heap.size, 0, none⟩), .int .u8 (c.toNat : Int)] wr fun e w' => e = .returned .nilIface ∧ PrB w q x t g (out ++ [c]) w' := by
  obtain ⟨Z, v0, h1, h2, h3⟩ := hx.s.rd
  refine (writeByte_fine w.heap.size w.heap.size (Lib.byteCells out) (c.toNat : Int) wr hx.s.bld (by simp only [Lib.byteCells_length]; omega) hx.s.bel.size v0 h2).mono ?_
  rintro e w' ⟨rfl, q1, q2, q3, v', q4, q5⟩
  refine ⟨rfl, prs_new hx h2 h1 h3 (Or.inr ?_) q2 q3 q4 q5⟩
  have e : Lib.byteCells (out ++ [c]) = Lib.byteCells out ++ [.int .u8 (c.toNat : Int)] := by simp [Lib.byteCells]
  rw [e]; exact q1
theorem prs_replace {w wr : World} {q x : Nat} {t0 : List UInt8} {g0 : Int} {out : List UInt8} (hx : PrB w q x t0 g0 out wr) (t : List UInt8) (ht : t.length ≤ 100000) :
    Calls Tryz.prog 62 #[.pointer (some ⟨q, 0, none⟩), S t] wr fun e w' => e = .returned (S (rep qT t)) ∧ PrB w q x t0 g0 out w' := by
  have h := hx.s
  obtain ⟨Z, v0, h1, h2, h3⟩ := h.rd
  have hz := h3 q h1.own
  obtain ⟨p, v, e1, e2⟩ := isb_row h.bld
  obtain rfl : v = v0 := by rw [Lib.cell_of_heap e1] at h2; exact Option.some.inj h2
  refine (Rq.replace_any Z q qT rfl (by decide) t wr h1 ht).mono ?_
  rintro e w' ⟨rfl, ⟨Z', a1, a2⟩, a3, a4⟩
  have hc : w'.cell? ⟨w.heap.size, 1, none⟩ = some v := by rw [Lib.cell_of_heap (a3 _ _ hz.1.symm e1)]; rfl
  refine ⟨rfl, ⟨isb_oth h.bld (fun o => a3 _ o hz.1.symm) (fun v' g o c1 c2 c3 => a3 g o (fun e => ?_) c3), ⟨Z', v, a1, hc, fun g z => ?_⟩, h.bel.trans (a4.mono h.ge), h.ge, Nat.le_trans h.le a4.size⟩, a3 _ _ hx.nq hx.box, hx.nb, hx.nq, fun v1 e => ?_⟩
  · rw [h2] at c1; obtain rfl := Option.some.inj c1; exact hz.2 (by rw [c2, e])
  · rcases a2 g z with z2 | z2
    · exact h3 g z2
    · have := h.le
      exact ⟨by omega, fun e => by have := (e2 g e).1; omega⟩
  · rw [hc] at e
    obtain rfl := Option.some.inj e
    exact hx.own v h2
theorem prs_start (w w1 w' : World) (q d : Nat) (h0 : w1.heap[w.heap.size]? = some (.cells #[.pointer none, .slice none 0 0] 98 (0, 0))) (hb : Below w.heap.size w w1) (hm : Made q d qT w') (hb2 : Below w1.heap.size w1 w') (hq : w1.heap.size ≤ q) : PrS w q [] w' := by
  have hlt : w.heap.size < w1.heap.size := lt_heap' h0
  have h1 := (hb2.block _ hlt).trans h0
  obtain ⟨cur, hd, _⟩ := hm.old
  have hdn : d ≠ w.heap.size := by
    rintro rfl
    rw [h1] at hd
    have := (Obj.cells.injEq .. ▸ Option.some.inj hd : _ ∧ _ ∧ _)
    exact absurd this.2.1 (by decide)
  refine ⟨Or.inl ⟨Nat.le_refl _, _, h1, World.ownsRowF_nil _ _ _ _, by intro h; cases h⟩, ⟨_, _, rd_made hm, by rw [Lib.cell_of_heap h1]; rfl, fun g z => ⟨by rcases z with rfl | rfl; omega; exact hdn, by intro h; cases h⟩⟩, hb.trans (hb2.mono (by omega)), by omega, by have := hb2.size; omega⟩
theorem prs_first (w : World) : Calls Tryz.prog 61 #[.slice (some ⟨w.heap.size + 1, 0, none⟩) 6 6] ((w.alloc (.cells #[.pointer none, .slice none 0 0] 98)).alloc (.cells #[S [10], S [92, 110], S [92], S [92, 92], S [38], S [92, 38]] 9)) fun e w' => ∃ q, e = .returned (.pointer (some ⟨q, 0, none⟩)) ∧ PrS w q [] w' := by
  have ha := heap_alloc_new (w.alloc (.cells #[.pointer none, .slice none 0 0] 98)) (.cells #[S [10], S [92, 110], S [92], S [92, 92], S [38], S [92, 38]] 9)
  have hsz : (w.alloc (.cells #[.pointer none, .slice none 0 0] 98)).heap.size = w.heap.size + 1 := by simp
  rw [hsz] at ha
  refine (Rq.newReplacer_any (w.heap.size + 1) ⟨10, 92, 110⟩ ⟨92, 92, 92⟩ ⟨38, 92, 38⟩ _ ha).mono ?_
  rintro e w' ⟨q, d, rfl, hm, hb, hq⟩
  exact ⟨q, rfl, prs_start w _ w' q d (heap_alloc2_old _ _ _) (((Below.refl _ _).alloc (Nat.le_refl _) _).alloc (by simp) _) hm hb hq⟩
theorem print_next {last : Int} {l : List Pt} {k : Nat} (h : k < l.length) : printP last (l.drop k) = (okP last l[k]).bind fun a => (printP l[k].g (l.drop (k + 1))).map fun b => a ++ b := by
  rw [List.drop_eq_getElem_cons h]; rfl
theorem lastG_take {l : List Pt} {k : Nat} (h : k < l.length) (last : Int) : lastG last (l.take (k + 1)) = l[k].g := by
  rw [List.take_succ_eq_append_getElem h, lastG_snoc]
theorem itoa_one {g : Int} (h0 : 0 < g) (h1 : g < 10) : Lib.itoa g = [(48 + g.toNat).toUInt8] := by
  have : g = 1 ∨ g = 2 ∨ g = 3 ∨ g = 4 ∨ g = 5 ∨ g = 6 ∨ g = 7 ∨ g = 8 ∨ g = 9 := by omega
  rcases this with rfl | rfl | rfl | rfl | rfl | rfl | rfl | rfl | rfl <;> rw [itoa_digit (by decide) (by decide)]
/-- What Print answers. -/
def PrA (R : Option (List UInt8)) : Ending := .returned (.tuple #[S (R.getD []), E (if R.isSome then 0 else 1)])
theorem pr_step {R : Option (List UInt8)} {la : Int} {D D' : List Pt} {p : Pt} {out x : List UInt8} (h1 : R = (printP la D).map (out ++ ·)) (h2 : printP la D = (okP la p).bind fun a => (printP p.g D').map fun b => a ++ b) (h3 : okP la p = some x) : R = (printP p.g D').map ((out ++ x) ++ ·) := by
  rw [h1, h2, h3]
  show ((printP p.g D').map fun b => x ++ b).map (out ++ ·) = _
  cases printP p.g D' with
  | none => rfl
  | some y => simp
theorem pr_stop {R : Option (List UInt8)} {la : Int} {D D' : List Pt} {p : Pt} {out : List UInt8} (h1 : R = (printP la D).map (out ++ ·)) (h2 : printP la D = (okP la p).bind fun a => (printP p.g D').map fun b => a ++ b) (h3 : okP la p = none) : R = none := by
  rw [h1, h2, h3]; rfl
set_option maxRecDepth 100000 in
set_option maxHeartbeats 6400000 in
theorem print_any (ao : Option Addr) (cap : Nat) (l : List Pt) (w : World) (hL : Lay w) (h : PI2 w ao l) (hl : l.length ≤ 1000) (hb : ∀ p ∈ l, p.t.length ≤ 10000) (R : Option (List UInt8)) (hR : R = printP 0 l) :
    Calls Tryz.prog 34 #[.slice ao l.length cap] w fun e w' => e = PrA R ∧ Below w.heap.size w w' := by
  have HP := Lib.hid h
  have HPL := Lib.hid (fun (k : Nat) (hk : k < l.length) => hb l[k] (List.getElem_mem hk))
  have HRR := Lib.hid hR
  have HLL := Lib.hid hl
  have HLAY := Lib.hid hL
  have HX := Lib.hid (prs_first w)
  clear h hb hR hl hL
  go_enter Tryz.func34, Tryz.ntmps34
  go_wp2_with (go_at_call 61; refine HX.out.mono ?_; rintro e w1 ⟨q, rfl, hs⟩; have HS := Lib.hid hs; clear hs HX)
  go_loopw [6, 13] (fun lv iv wr => ∃ k : Nat, k ≤ l.length ∧ lv = E (lastG 0 (l.take k)) ∧ iv = .int .i64 (k : Nat) ∧ ∃ out : List UInt8, Hid (R = (printP (lastG 0 (l.take k)) (l.drop k)).map (out ++ ·)) ∧ Hid (out.length ≤ 30000 * k) ∧ Hid (PrS w q out wr)) (fun _ iv _ => l.length - (intOf iv).toNat)
  case atStart => exact ⟨0, Nat.zero_le _, rfl, rfl, [], Lib.hid (by rw [HRR.out]; show printP 0 l = (printP 0 l).map _; cases printP 0 l <;> rfl), Lib.hid (by simp), HS⟩
  case round =>
    clear HS HRR
    obtain ⟨k, hk, rfl, rfl, out, HE, HO, HF⟩ := hrel
    by_cases hlt : k < l.length
    · have hlt' : (k : Int) < (l.length : Int) := by omega
      have hk0 : (0 : Int) ≤ (k : Int) := by omega
      have hwk : IntKind.i64.wrap ((k : Int) + 1) = (k : Int) + 1 := by rw [IntKind.wrap_i64]; have := HLL.out; omega
      obtain ⟨b, o, rfl, p1, p2⟩ := (HP.out.below (show Below w.heap.size w wr from HF.out.bel)) k hlt
      have HPT := Lib.hid (HPL.out k hlt)
      have HLG := Lib.hid (lastG_take hlt 0)
      have hst := print_next (last := lastG 0 (l.take k)) hlt
      have hk00 : k = 0 → lastG 0 (l.take k) = 0 := by rintro rfl; rfl
      generalize lastG 0 (l.take k) = la at *
      generalize l[k] = p at *
      obtain ⟨t, g⟩ := p
      dsimp only at p1 p2 hst
      have HST := Lib.hid hst
      have HK := Lib.hid hlt
      have HZK := Lib.hid hk00
      have HF1 := Lib.hid (prb_box HF.out t g)
      have HTL := Lib.hid (show t.length ≤ 10000 from HPT.out)
      have HOL := Lib.hid (show out.length ≤ 30000000 from by have h1 := HO.out; have h2 := HLL.out; omega)
      clear hlt hk HF hst hk00 HPT
      obtain ⟨bz, hbz⟩ : ∃ bz, ((k : Int) == 0) = bz := ⟨_, rfl⟩
      by_cases hg : g = -1
      · subst hg
        by_cases ht : t = []
        · subst ht
          have hie : ([] : List UInt8).isEmpty = true := rfl
          clear hbz
          go_wp2
          go_ret2
          have e := pr_stop HE.out HST.out (by unfold okP; rw [if_neg (fun q => q.2.1 rfl), if_neg (fun q => by cases q.2), if_neg (fun q => absurd q.2.1 (by decide))])
          exact ⟨by rw [e]; rfl, HF1.out.s.bel⟩
        · have hie : t.isEmpty = false := by cases t with
            | nil => exact absurd rfl ht
            | cons b r => rfl
          by_cases hla : la = -1
          · subst hla
            obtain rfl : bz = false := by
              rw [← hbz, beq_eq_false_iff_ne]
              intro q
              have := HZK.out (by omega)
              omega
            have HT0 := Lib.hid ht
            clear ht
            go_wp2
            go_ret2
            have e := pr_stop HE.out HST.out (by unfold okP; rw [if_neg (fun q => q.2.2 rfl), if_neg (fun q => HT0.out q.1), if_neg (fun q => HT0.out q.1)])
            exact ⟨by rw [e]; rfl, HF1.out.s.bel⟩
          · have hq : (la == -1) = false := by rw [beq_eq_false_iff_ne]; exact hla
            have HOK := Lib.hid (show okP la ⟨t, -1⟩ = some (rep qT t) from by unfold okP; rw [if_pos ⟨rfl, ht, hla⟩])
            have HRL := Lib.hid (rep_le t)
            clear ht hla
            cases bz
            · go_wp2_with (first
                | (go_at_call 62; refine (prs_replace HF1.out t (by have := HTL.out; omega)).mono ?_; rintro e w2 ⟨rfl, hs⟩; have HF2 := Lib.hid hs; obtain ⟨x0, x1⟩ := hs.cells; clear hs HF1)
                | (go_at_call 55; refine (prs_write HF2.out (rep qT t) (by have := HOL.out; have := HTL.out; have := HRL.out; omega)).mono ?_; rintro e w3 ⟨rfl, hs⟩; have HF3 := Lib.hid hs.s; clear x0 x1; obtain ⟨x0, x1⟩ := hs.cells; clear hs HF2))
              go_roundw
              case rel => exact ⟨k + 1, by have := HK.out; omega, by rw [HLG.out], by go_num, out ++ rep qT t, Lib.hid (by rw [HLG.out]; exact pr_step HE.out HST.out HOK.out), Lib.hid (by have := HO.out; have := HTL.out; simp only [List.length_append]; have := HRL.out; omega), HF3⟩
              case measure => have := HK.out; simp [intOf]; omega
            · go_wp2_with (first
                | (go_at_call 62; refine (prs_replace HF1.out t (by have := HTL.out; omega)).mono ?_; rintro e w2 ⟨rfl, hs⟩; have HF2 := Lib.hid hs; obtain ⟨x0, x1⟩ := hs.cells; clear hs HF1)
                | (go_at_call 55; refine (prs_write HF2.out (rep qT t) (by have := HOL.out; have := HTL.out; have := HRL.out; omega)).mono ?_; rintro e w3 ⟨rfl, hs⟩; have HF3 := Lib.hid hs.s; clear x0 x1; obtain ⟨x0, x1⟩ := hs.cells; clear hs HF2))
              go_roundw
              case rel => exact ⟨k + 1, by have := HK.out; omega, by rw [HLG.out], by go_num, out ++ rep qT t, Lib.hid (by rw [HLG.out]; exact pr_step HE.out HST.out HOK.out), Lib.hid (by have := HO.out; have := HTL.out; simp only [List.length_append]; have := HRL.out; omega), HF3⟩
              case measure => have := HK.out; simp [intOf]; omega
      · have hq : (g == -1) = false := by rw [beq_eq_false_iff_ne]; exact hg
        clear hbz
        by_cases ht : t = []
        · subst ht
          have hie : ([] : List UInt8).isEmpty = true := rfl
          by_cases h0 : g = 0
          · subst h0
            go_wp2_with (go_at_call 63; refine (prs_byte HF1.out 38 (by have := HOL.out; omega)).mono ?_; rintro e w3 ⟨rfl, hs⟩; have HF3 := Lib.hid hs.s; obtain ⟨x0, x1⟩ := hs.cells; clear hs HF1)
            go_roundw
            case rel => exact ⟨k + 1, by have := HK.out; omega, by rw [HLG.out], by go_num, out ++ [38], Lib.hid (by rw [HLG.out]; exact pr_step HE.out HST.out (show okP la ⟨[], 0⟩ = some [38] from by unfold okP; rw [if_neg (fun q => by cases q.1), if_pos ⟨rfl, rfl⟩])), Lib.hid (by have := HO.out; have := HTL.out; simp only [List.length_append]; simp only [List.length_cons, List.length_nil]; omega), HF3⟩
            case measure => have := HK.out; simp [intOf]; omega
          · have hq0 : (g == 0) = false := by rw [beq_eq_false_iff_ne]; exact h0
            by_cases h1 : 0 < g
            · by_cases h2 : g < 10
              · have HOK := Lib.hid (show okP la ⟨[], g⟩ = some (92 :: Lib.itoa g) from by unfold okP; rw [if_neg (fun q => hg q.1), if_neg (fun q => h0 q.2), if_pos ⟨rfl, h1, h2⟩, itoa_one h1 h2])
                have HIT := Lib.hid (fun (W : World) (hb : Below w.heap.size w W) => itoa_any g (by omega) (by omega) W (HLAY.out.below hb))
                have HIL := Lib.hid (show (Lib.itoa g).length ≤ 1 from by rw [itoa_one h1 h2]; exact Nat.le_refl _)
                generalize Lib.itoa g = ig at *
                have hadd := fun W => run_string_add_sum (P := Tryz.prog) W ⟨#[92]⟩ ⟨ig.toArray⟩ (by have := HIL.out; simp only [ByteArray.size, List.size_toArray, Array.size]; simp; omega)
                rw [show (⟨#[92]⟩ : ByteArray) ++ ⟨ig.toArray⟩ = ⟨(92 :: ig).toArray⟩ from app_arr' [92] _] at hadd
                clear hg h0
                go_wp2_with (first
                  | (go_at_call 64; refine (HIT.out _ HF1.out.s.bel).mono ?_; rintro e w2 ⟨rfl, hb⟩; have HF2 := Lib.hid (HF1.out.below hb); obtain ⟨x0, x1⟩ := HF2.out.cells; clear hb HF1)
                  | (go_at_call 55; refine (prs_write HF2.out (92 :: ig) (by have := HOL.out; have := HIL.out; simp only [List.length_append, List.length_cons, List.length_nil]; omega)).mono ?_; rintro e w3 ⟨rfl, hs⟩; have HF3 := Lib.hid hs.s; clear x0 x1; obtain ⟨x0, x1⟩ := hs.cells; clear hs HF2))
                go_roundw
                case rel => exact ⟨k + 1, by have := HK.out; omega, by rw [HLG.out], by go_num, out ++ (92 :: ig), Lib.hid (by rw [HLG.out]; exact pr_step HE.out HST.out HOK.out), Lib.hid (by have := HO.out; have := HTL.out; simp only [List.length_append]; have := HIL.out; simp only [List.length_cons, List.length_nil]; omega), HF3⟩
                case measure => have := HK.out; simp [intOf]; omega
              · have HNO := Lib.hid (show okP la ⟨[], g⟩ = none from by unfold okP; rw [if_neg (fun q => hg q.1), if_neg (fun q => h0 q.2), if_neg (fun q => h2 q.2.2)])
                clear hg h0
                go_wp2
                go_ret2
                have e := pr_stop HE.out HST.out (HNO.out)
                exact ⟨by rw [e]; rfl, HF1.out.s.bel⟩
            · have HNO := Lib.hid (show okP la ⟨[], g⟩ = none from by unfold okP; rw [if_neg (fun q => hg q.1), if_neg (fun q => h0 q.2), if_neg (fun q => h1 q.2.1)])
              clear hg h0
              go_wp2
              go_ret2
              have e := pr_stop HE.out HST.out (HNO.out)
              exact ⟨by rw [e]; rfl, HF1.out.s.bel⟩
        · have hie : t.isEmpty = false := by cases t with
            | nil => exact absurd rfl ht
            | cons b r => rfl
          have HNO := Lib.hid (show okP la ⟨t, g⟩ = none from by unfold okP; rw [if_neg (fun q => hg q.1), if_neg (fun q => ht q.1), if_neg (fun q => ht q.1)])
          clear ht hg
          go_wp2
          go_ret2
          have e := pr_stop HE.out HST.out (HNO.out)
          exact ⟨by rw [e]; rfl, HF1.out.s.bel⟩
    · obtain rfl : k = l.length := by omega
      have hnl : ¬ (l.length : Int) < (l.length : Int) := by omega
      have HF1 := HF
      clear HF hlt hk
      go_wp2_with (go_at_call 58; refine (Tryz.Builder_String_any_k _ _ out _ HF1.out.bld HF1.out.bel.size).mono ?_; rintro e w2 ⟨rfl, g3, g4, g5⟩; have HB := Lib.hid (HF1.out.bel.trans g4); clear g3 g4 g5 HF1)
      go_ret2
      refine ⟨?_, HB.out⟩
      rw [HE.out, List.drop_length]
      show _ = PrA (some (out ++ []))
      rw [List.append_nil]
      rfl
end Go.Proofs.YtinallojhkaogaaGreatDoor.Mt
