/- Subst: a replacement is read: what it is, the flush. -/
import Derived.Test.YthpiapemjadgdaaGreatDoorSbFPk
import Derived.Deep.LoopGhost
import Derived.ScopeJumps
import Derived.Laws.Concat
namespace Go.Proofs.YthpiapemjadgdaaGreatDoor.Mt
open Go.RowKit Go.Shelf
open Go.Proofs.YthpiapemjadgdaaGreatDoor.Rx
set_option linter.unusedVariables false
set_option linter.unusedSimpArgs false
def flushP (t : List UInt8) : List Pt := if t = [] then [] else [⟨t, -1⟩]
/-- What a text is read as: its parts, or where it is wrong. -/
def parS : List UInt8 → Nat → List UInt8 → List Pt → Option (List Pt) × Nat
  | [], i, t, a => (some (a ++ flushP t), 0)
  | c :: r, i, t, a =>
    if c = 38 then parS r (i + 1) [] (a ++ flushP t ++ [⟨[], 0⟩])
    else if c = 10 then (none, i)
    else if c ≠ 92 then parS r (i + 1) (t ++ [c]) a
    else match r with
      | [] => (none, i)
      | d :: r' =>
        if 49 ≤ d ∧ d ≤ 57 then parS r' (i + 2) [] (a ++ flushP t ++ [⟨[], (d.toNat : Int) - 48⟩])
        else if d = 110 then parS r' (i + 2) (t ++ [10]) a
        else if d = 10 ∨ d = 92 ∨ d = 38 ∨ d = 47 then parS r' (i + 2) (t ++ [d]) a
        else (none, i)
section
variable {r : List UInt8} {i : Nat} {t : List UInt8} {a : List Pt} {c d : UInt8}
theorem par_38 : parS (38 :: r) i t a = parS r (i + 1) [] (a ++ flushP t ++ [⟨[], 0⟩]) := by rw [parS.eq_def]; rfl
theorem par_10 : parS (10 :: r) i t a = (none, i) := by rw [parS.eq_def]; rfl
theorem par_c (h1 : c ≠ 38) (h2 : c ≠ 10) (h3 : c ≠ 92) : parS (c :: r) i t a = parS r (i + 1) (t ++ [c]) a := by
  rw [parS.eq_def]
  dsimp only
  rw [if_neg h1, if_neg h2, if_pos h3]
theorem par_end : parS [92] i t a = (none, i) := by rw [parS.eq_def]; rfl
theorem par_92 : parS (92 :: d :: r) i t a = if 49 ≤ d ∧ d ≤ 57 then parS r (i + 2) [] (a ++ flushP t ++ [⟨[], (d.toNat : Int) - 48⟩]) else if d = 110 then parS r (i + 2) (t ++ [10]) a else if d = 10 ∨ d = 92 ∨ d = 38 ∨ d = 47 then parS r (i + 2) (t ++ [d]) a else (none, i) := by
  rw [parS.eq_def]
  dsimp only
  rw [if_neg (by decide), if_neg (by decide), if_neg (by decide)]
end
def flP (l : List Pt) : List Value := l.flatMap fun p => [S p.t, E p.g]
theorem flP_append (l m : List Pt) : flP (l ++ m) = flP l ++ flP m := by unfold flP; rw [List.flatMap_append]
theorem flP_len (l : List Pt) : (flP l).length = l.length * 2 := by
  induction l with
  | nil => rfl
  | cons p r ih => simp only [flP, List.flatMap_cons, List.length_append, List.length_cons, List.length_nil] at ih ⊢; omega
theorem flP_get : ∀ (l : List Pt) (i : Nat) (h : i < l.length), (flP l)[i * 2]? = some (S l[i].t) ∧ (flP l)[i * 2 + 1]? = some (E l[i].g)
  | p :: r, 0, _ => ⟨rfl, rfl⟩
  | p :: r, i + 1, h => by
    have := flP_get r i (by simpa using h)
    have e : flP (p :: r) = [S p.t, E p.g] ++ flP r := by simp [flP]
    rw [e, show (i + 1) * 2 = i * 2 + 2 by omega]
    exact this
theorem infoP : (Tryz.prog.info? 56).map (fun i => (i.zero, i.size, i.bytes)) = some (some (.agg #[.string ⟨#[]⟩, .int .i64 0]), 2, 24) := by kernel_rfl
theorem pin_own {w : World} {B : Nat} {v : Value} {l : List Pt} (h : w.ownsRow B 56 2 v l.length (flP l)) : ∃ ao cap, v = .slice ao l.length cap ∧ PIn w ao l := by
  rcases own_forms h with ⟨rfl, h0⟩ | ⟨g, cap, rfl, hc⟩
  · exact ⟨none, 0, by rw [h0], fun i hi => by omega⟩
  · refine ⟨_, cap, rfl, fun i hi => ⟨g, rfl, ?_, ?_⟩⟩
    · have := (flP_get l i hi).1
      rw [← this]
      exact h.cellAt (i * 2) (by omega)
    · have := (flP_get l i hi).2
      rw [← this]
      exact h.cellAt (i * 2 + 1) (by omega)
/-- While a replacement is read: the parts, and the bytes up to now. -/
structure PS (w : World) (t : List UInt8) (a : List Pt) (v : Value) (wr : World) : Prop where
  pv : wr.heap[w.heap.size]? = some (.cells #[v] 57 (0, 0))
  tx : wr.heap[w.heap.size + 1]? = some (.cells #[S t] 9 (0, 0))
  own : wr.ownsRow w.heap.size 56 2 v a.length (flP a)
  ne : ∀ g, v.ownBlock = some g → g ≠ w.heap.size ∧ g ≠ w.heap.size + 1
  bel : Below w.heap.size w wr
section
variable {w wr w' : World} {t : List UInt8} {a : List Pt} {v v' : Value}
theorem PS.cells (h : PS w t a v wr) : wr.cell? ⟨w.heap.size, 0, none⟩ = some v ∧ wr.cell? ⟨w.heap.size + 1, 0, none⟩ = some (S t) ∧ wr.frozen? ⟨w.heap.size, 0, none⟩ = false ∧ wr.frozen? ⟨w.heap.size + 1, 0, none⟩ = false :=
  ⟨(Lib.cell_of_heap h.pv 0).trans rfl, (Lib.cell_of_heap h.tx 0).trans rfl, Lib.frozen_of_heap h.pv 0, Lib.frozen_of_heap h.tx 0⟩
theorem own_other' {B e n z : Nat} {xs : List Value} (ho : w.ownsRow B e z v n xs) (hk : ∀ g, v.ownBlock = some g → w'.heap[g]? = w.heap[g]?) : w'.ownsRow B e z v n xs := by
  refine ⟨ho.1, ?_⟩
  rcases ho.2 with hv | ⟨g, cap, cur, hv, h1, h2, h3⟩
  · exact Or.inl hv
  · exact Or.inr ⟨g, cap, cur, hv, h1, (hk g (by rw [hv]; rfl)).trans h2, h3⟩
theorem PS.below (h : PS w t a v wr) (hb : Below wr.heap.size wr w') : PS w t a v w' :=
  ⟨(hb.block _ (lt_heap' h.pv)).trans h.pv, (hb.block _ (lt_heap' h.tx)).trans h.tx, own_below h.own hb, h.ne, h.bel.trans (hb.mono h.bel.size)⟩
theorem PS.text (h : PS w t a v wr) (t' : List UInt8) : PS w t' a v (wr.setCell ⟨w.heap.size + 1, 0, none⟩ (S t')) := by
  have hk : ∀ k, k ≠ w.heap.size + 1 → (wr.setCell ⟨w.heap.size + 1, 0, none⟩ (S t')).heap[k]? = wr.heap[k]? := fun k hk => Below.heap_setCell wr ⟨w.heap.size + 1, 0, none⟩ _ k hk
  refine ⟨(hk _ (by omega)).trans h.pv, ?_, own_other' h.own fun g hg => hk g (h.ne g hg).2, h.ne, h.bel.setCell (by show w.heap.size ≤ w.heap.size + 1; omega) _⟩
  exact Go.Joins.block_setCell h.tx (i := 0) (S t')
theorem PS.same (h : PS w t a v wr) : PS w t a v (wr.setCell ⟨w.heap.size, 0, none⟩ v) := by
  have hk : ∀ k, k ≠ w.heap.size → (wr.setCell ⟨w.heap.size, 0, none⟩ v).heap[k]? = wr.heap[k]? := fun k hk => Below.heap_setCell wr ⟨w.heap.size, 0, none⟩ _ k hk
  exact ⟨Go.Joins.block_setCell h.pv (i := 0) v, (hk _ (by omega)).trans h.tx, own_other' h.own fun g hg => hk g (h.ne g hg).1, h.ne, h.bel.setCell (Nat.le_refl _) _⟩
theorem PS.cells2 (h : PS w t a v wr) (c : UInt8) : (wr.alloc (.cells #[.int .u8 (c.toNat : Nat)] 5)).cell? ⟨w.heap.size, 0, none⟩ = some v ∧ (wr.alloc (.cells #[.int .u8 (c.toNat : Nat)] 5)).cell? ⟨w.heap.size + 1, 0, none⟩ = some (S t) ∧ (wr.alloc (.cells #[.int .u8 (c.toNat : Nat)] 5)).frozen? ⟨w.heap.size, 0, none⟩ = false ∧ (wr.alloc (.cells #[.int .u8 (c.toNat : Nat)] 5)).frozen? ⟨w.heap.size + 1, 0, none⟩ = false :=
  (h.below ((Below.refl _ _).alloc (Nat.le_refl _) _)).cells
theorem PS.grow (h : PS w t a v wr) {tmp : Obj} {w4 : World} {m : List Pt} (hown : w4.ownsRow w.heap.size 56 2 v' (a.length + 1) (flP m)) (hm : m.length = a.length + 1) (hgrow : (wr.alloc tmp).grownBy w4 v.ownBlock) (hat : v'.ownBlock = v.ownBlock ∨ v'.ownBlock = some (wr.alloc tmp).heap.size) :
    PS w t m v' (w4.setCell ⟨w.heap.size, 0, none⟩ v') ∧ w4.cell? ⟨w.heap.size, 0, none⟩ = some v ∧ w4.frozen? ⟨w.heap.size, 0, none⟩ = false := by
  have l1 := lt_heap' h.pv
  have l2 := lt_heap' h.tx
  have e1 := ((hgrow.block w.heap.size (by simp; omega) (fun e => (h.ne _ e.symm).1 rfl)).trans (Below.heap_alloc _ _ _ l1)).trans h.pv
  have e2 := ((hgrow.block (w.heap.size + 1) (by simp; omega) (fun e => (h.ne _ e.symm).2 rfl)).trans (Below.heap_alloc _ _ _ l2)).trans h.tx
  have hne : ∀ g, v'.ownBlock = some g → g ≠ w.heap.size ∧ g ≠ w.heap.size + 1 := fun g hg => by
    rcases hat with q | q
    · exact h.ne g (by rw [← q]; exact hg)
    · rw [hg] at q
      have e := Option.some.inj q
      rw [World.size_alloc] at e
      exact ⟨by omega, by omega⟩
  have hk : ∀ k, k ≠ w.heap.size → (w4.setCell ⟨w.heap.size, 0, none⟩ v').heap[k]? = w4.heap[k]? := fun k hk => Below.heap_setCell w4 ⟨w.heap.size, 0, none⟩ _ k hk
  refine ⟨⟨?_, (hk _ (by omega)).trans e2, ?_, hne, ?_⟩, (Lib.cell_of_heap e1 0).trans rfl, Lib.frozen_of_heap e1 0⟩
  · exact Go.Joins.block_setCell e1 (i := 0) v'
  · rw [hm]
    exact own_other' hown fun g hg => hk g (hne g hg).1
  · exact ((h.bel.alloc h.bel.size _).grown hgrow (by have := h.bel.size; simp; omega) (fun j hj => own_ge h.own j hj)).setCell (Nat.le_refl _) _
end
theorem app_arr' (a b : List UInt8) : (⟨a.toArray⟩ : ByteArray) ++ ⟨b.toArray⟩ = ⟨(a ++ b).toArray⟩ := by
  apply ByteArray.ext
  simp
theorem u8_ne {c : UInt8} {n : Nat} [OfNat UInt8 n] (h : c ≠ (OfNat.ofNat n : UInt8)) (hn : (OfNat.ofNat n : UInt8).toNat = n := by rfl) : ((c.toNat : Int) == ((n : Nat) : Int)) = false := by
  rw [beq_eq_false_iff_ne]
  intro q
  apply h
  apply UInt8.toNat_inj.1
  rw [hn]
  exact_mod_cast q
theorem news_pt (W : World) (t : List UInt8) (g : Int) : ∀ j u, ([S t, E g] : List Value)[j]? = some u → (W.alloc (.cells #[S t, E g] 56)).cell? ((⟨W.heap.size, 0, none⟩ : Addr).add j) = some u := by
  intro j u hj
  rw [Addr.add_lit, Lib.cell_of_heap (heap_alloc_new _ _), Nat.zero_add]
  simpa using hj
set_option maxRecDepth 100000 in
set_option maxHeartbeats 6400000 in
theorem flush_any (w : World) (t : List UInt8) (a : List Pt) (v : Value) (wr : World) (h : PS w t a v wr) (ha : a.length ≤ 100000) :
    Calls Tryz.prog 54 #[.pointer (some ⟨w.heap.size + 1, 0, none⟩), .pointer (some ⟨w.heap.size, 0, none⟩)] wr fun e w' => e = .returned (.tuple #[]) ∧ ∃ ao n cp, PS w [] (a ++ flushP t) (.slice ao n cp) w' := by
  obtain ⟨i0, hi, hz0, hz1, hz2⟩ := info_parts infoP
  have HP := Lib.hid h
  have HA := Lib.hid ha
  obtain ⟨c1, c2, c3, c4⟩ := h.cells
  clear h ha
  by_cases ht : t = []
  · subst ht
    have hie : ([] : List UInt8).isEmpty = true := rfl
    go_enter Tryz.func54, Tryz.ntmps54
    go_wp2
    go_end0
    refine ⟨rfl, ?_⟩
    have h5 : PS w [] (a ++ flushP []) v (wr.setCell ⟨w.heap.size + 1, 0, none⟩ (S [])) := by simpa [flushP] using HP.out.text []
    rcases own_forms h5.own with ⟨e, _⟩ | ⟨g, cap, e, _⟩
    · exact ⟨none, 0, 0, by rw [← e]; exact h5⟩
    · exact ⟨_, _, _, by rw [← e]; exact h5⟩
  · have hie : t.isEmpty = false := by cases t with
      | nil => exact absurd rfl ht
      | cons b r => rfl
    have HOA := Lib.hid (HP.out.own.alloc (.cells #[S t, E (-1)] 56))
    have HFL := Lib.hid (show a ++ flushP t = a ++ [⟨t, -1⟩] from by unfold flushP; rw [if_neg ht])
    clear ht
    go_enter Tryz.func54, Tryz.ntmps54
    go_wp2_with (at_builtin; go_loud (refine wpList_append_own_at _ rfl _ _ 57 rfl w.heap.size 56 i0 _ 2 24 Tryz.underlying57 hi hz0 hz1 hz2 rfl (by decide) _ _ _ rfl HOA.out ⟨_, 0, none⟩ 1 1 [S t, E (-1)] rfl rfl (news_pt wr t (-1)) (by simp [Value.oneCell']) (by unfold maxLen; have := HA.out; omega) (by have := HA.out; omega) (by have := HP.out.bel.size; simp; omega) ?_); intro v2 w4 hown hgrow _ hat; obtain ⟨g', cap', rfl⟩ := ownsRow_succ hown; rw [show flP a ++ [S t, E (-1)] = flP (a ++ [⟨t, -1⟩]) from by rw [flP_append]; rfl] at hown; obtain ⟨d1, d2, d3⟩ := HP.out.grow hown (by simp) hgrow hat; have HP4 := Lib.hid d1; clear d1 hown hgrow hat HOA c1 c2 c3 c4; obtain ⟨c1, c2, c3, c4⟩ := HP4.out.cells)
    go_end0
    exact ⟨rfl, _, _, _, by rw [HFL.out]; exact HP4.out.text []⟩
end Go.Proofs.YthpiapemjadgdaaGreatDoor.Mt
