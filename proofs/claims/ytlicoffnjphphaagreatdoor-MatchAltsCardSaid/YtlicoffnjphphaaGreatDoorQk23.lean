/- The texts MtQ. -/
import Derived.Deep.LoopGhost
import Derived.Deep.AppendLies
import Derived.Test.YtlicoffnjphphaaGreatDoorQk21
set_option linter.unusedVariables false
set_option linter.unusedSimpArgs false
namespace Go.Proofs.YtlicoffnjphphaaGreatDoor.Mt
open Go.RowKit Go.Shelf
open Go.Proofs.YtlicoffnjphphaaGreatDoor.Rx
open Go.Proofs.YtlicoffnjphphaaGreatDoor.Rx.Tr
open Go.Proofs.YtlicoffnjphphaaGreatDoor.St (Wf word mem SV SV_eq)
def StdOk (X : Par) (mx : Int) (i j : Nat) (s : Std) : Prop := i + s.c ≤ s.p ∧ s.p ≤ j ∧ s.k ≤ j ∧ (mx = -1 ∨ (s.c : Int) ≤ mx) ∧ CapsOk X.N s.a
def StkOk (X : Par) (mx : Int) (i j : Nat) (l : List Std) : Prop := ∀ q s, l[q]? = some s → StdOk X mx i j s ∧ s.c = q
section
variable {X : Par} {mx : Int} {i j : Nat}
theorem stk_pop {r : List Std} {s : Std} (h : StkOk X mx i j (r ++ [s])) : StkOk X mx i j r := fun q t ht => h q t (by rw [List.getElem?_append_left (List.getElem?_eq_some_iff.1 ht).1]; exact ht)
theorem stk_last {r : List Std} {s : Std} (h : StkOk X mx i j (r ++ [s])) : StdOk X mx i j s ∧ s.c = r.length := h r.length s (by simp)
theorem stk_push {r : List Std} {s : Std} (h : StkOk X mx i j r) (hs : StdOk X mx i j s) (hc : s.c = r.length) : StkOk X mx i j (r ++ [s]) := fun q t ht => by
 rcases Nat.lt_trichotomy q r.length with hq | hq | hq
 · rw [List.getElem?_append_left hq] at ht; exact h q t ht
 · subst hq;simp at ht;subst ht;exact ⟨hs, hc⟩
 · rw [List.getElem?_eq_none (by simp; omega)] at ht; cases ht
theorem stk_one {s : Std} (hs : StdOk X mx i j s) (hc : s.c = 0) : StkOk X mx i j [s] := stk_push (r := []) (fun q t ht => by simp at ht) hs hc
end
theorem muL_next {j : Nat} (r : List Std) (p c k : Nat) (a : Caps) (h : p < k) : muL j (r ++ [⟨p, c, k - 1, a⟩]) ≤ muL j (r ++ [⟨p, c, k, a⟩]) := by
 rw [muL_push, muL_push];have := mu_down (j := j) p c k a h;omega
theorem muL_more {j : Nat} (r : List Std) (p c k : Nat) (a x : Caps) (h : p < k) (hj : k ≤ j) : muL j (r ++ [⟨p, c, k - 1, a⟩] ++ [⟨k, c + 1, j, x⟩]) < muL j (r ++ [⟨p, c, k, a⟩]) := by
 rw [muL_push, muL_push, muL_push];have := mu_step (j := j) p c k a x h hj;omega
theorem muL_less {j : Nat} (r : List Std) (s : Std) : muL j r < muL j (r ++ [s]) := by
 rw [muL_push];have := mu_pos (j := j) s;omega
/-- Whether a stand is gone on with. -/
def rch (X : Par) (x : Tr) (mn mx : Int) (k c j : Nat) : Bool := X.refs || timesB (endsP X.T x) (max 0 (mn - c)) (if mx = -1 then -1 else mx - c) X.N k j
theorem rch_none {X : Par} {x : Tr} {mn mx : Int} {k c j : Nat} {a : Caps} (hr : X.refs = false → refsT x = 0) (hn : NumsOk x) (hk : k ≤ j) (hj : j ≤ X.N) (hc : mx = -1 ∨ (c : Int) ≤ mx) (h : rch X x mn mx k c j = false) : ansS (fitP X.T x) mn mx j ⟨k, c, j, a⟩ = none := by
 unfold rch at h;rw [Bool.or_eq_false_iff] at h;rw [ansS_new k c a hk];cases hf : timesP (fitP X.T x) mn mx j (j - k) k c a with
 | none => rfl
 | some y =>
  have := reach_sound (T := X.T) (hr h.1) hn hk hj hc hf;rw [h.2] at this;cases this
abbrev SC (p c k : Nat) (a : Caps) : Array Value := #[E (p : Nat), E (c : Nat), E (k : Nat), capV (gr a 0), capV (gr a 1), capV (gr a 2), capV (gr a 3), capV (gr a 4), capV (gr a 5), capV (gr a 6), capV (gr a 7), capV (gr a 8), capV (gr a 9)]
abbrev SZ : Array Value := #[E 0, E 0, E 0, .complex .f64 0 0, .complex .f64 0 0, .complex .f64 0 0, .complex .f64 0 0, .complex .f64 0 0, .complex .f64 0 0, .complex .f64 0 0, .complex .f64 0 0, .complex .f64 0 0, .complex .f64 0 0]
theorem sc_one (p c k : Nat) (a : Caps) : (SC p c k a).all (·.oneCell') = true := by
 have h := cap_one;(have h2 : ∀ n : Int, (E n).oneCell' = true := fun _ => rfl);simp [h, h2]
theorem sc_one' (p c k : Nat) (a : Caps) : ∀ u ∈ (SC p c k a).toList, u.oneCell' = true := by
 have h := sc_one p c k a;rw [Array.all_eq_true'] at h;intro u hu;exact h u (by simpa using hu)
theorem infoSt : (Tryz.prog.info? 173).map (fun i => (i.zero, i.size, i.bytes)) = some (some (.agg SZ), 13, 184) := by kernel_rfl
theorem news_st (w : World) (p c k : Nat) (a : Caps) (B : Nat) (hB : B = w.heap.size) : ∀ j u, (SC p c k a).toList[j]? = some u → (w.alloc (.cells (SC p c k a) 173)).cell? ((⟨B, 0, none⟩ : Addr).add j) = some u := by
 intro j u hj;subst hB;rw [Addr.add_lit, Lib.cell_of_heap (heap_alloc_new _ _), Nat.zero_add];simpa using hj
/-- The memory while a part is tried several times. -/
structure AG (X : Par) (pr : Nat → Prop) (w : World) (c : Caps) (nd : Nd) (g cap : Nat) (l : List Std) (wr : World) : Prop where
 lf : LF X pr w c nd wr
 sr : SR wr (w.heap.size + 1 + 1 + 1) g cap l
section
variable {X : Par} {pr : Nat → Prop} {w wr w' : World} {c : Caps} {nd : Nd} {g cap : Nat} {l r : List Std} {s : Std} {p cc k : Nat} {a : Caps}
theorem AG.gt (h : AG X pr w c nd g cap l wr) : w.heap.size + 1 + 1 < g := by
 obtain ⟨cur, h2, _⟩ := h.sr.parts;omega
theorem AG.call (h : AG X pr w c nd g cap l wr) (hm : MM X (Pv pr [w.heap.size + 1]) w') (hk : Km X wr w') : AG X pr w c nd g cap l w' := by
 obtain ⟨cur, h2, h3, _⟩ := h.sr.parts;exact ⟨h.lf.call hm hk, h.sr.keep ((mm_keep h.lf.tf.mm hk h3).trans h3.symm)⟩
theorem AG.below (h : AG X pr w c nd g cap l wr) (hb : Below wr.heap.size wr w') : AG X pr w c nd g cap l w' := h.call (h.lf.tf.mm.below hb) (Km.of_below hb)
theorem AG.pop (h : AG X pr w c nd g cap (r ++ [s]) wr) : AG X pr w c nd g cap r wr := ⟨h.lf, h.sr.pop⟩
theorem AG.next (h : AG X pr w c nd g cap (r ++ [⟨p, cc, k, a⟩]) wr) (k' : Nat) : AG X pr w c nd g cap (r ++ [⟨p, cc, k', a⟩]) (wr.setCell ⟨g, r.length * 13 + 2, none⟩ (E (k' : Nat))) := by
 obtain ⟨cur, h2, h3, _⟩ := h.sr.parts;exact ⟨h.lf.other (by decide) (by decide) h3 h.gt (by simp) (fun q _ hq => Below.heap_setCell wr ⟨g, _, none⟩ _ q hq) ((Below.refl _ _).setCell (by show X.w0.heap.size ≤ g; have := h.lf.tf.base; have := h.gt; omega) _), h.sr.next⟩
theorem AG.cells (h : AG X pr w c nd g cap (r ++ [⟨p, cc, k, a⟩]) wr) : (wr.cell? ⟨g, r.length * 13, none⟩ = some (E (p : Nat)) ∧ wr.cell? ⟨g, r.length * 13 + 1, none⟩ = some (E (cc : Nat)) ∧ wr.cell? ⟨g, r.length * 13 + 2, none⟩ = some (E (k : Nat))) ∧ wr.rangeAt g (r.length * 13 + 3) (CC a).toList ∧ (∀ i, wr.frozen? ⟨g, i, none⟩ = false) ∧ r.length + 1 ≤ cap := by
 obtain ⟨cur, h2, h3, h4, _⟩ := h.sr.parts;refine ⟨⟨h.sr.cell 0 _ rfl, h.sr.cell 1 _ rfl, h.sr.cell 2 _ rfl⟩, fun q v hv => ?_, fun i => by simp [World.frozen?, h3], by simpa using h4⟩;(have hq : q < 10 := by have := (List.getElem?_eq_some_iff.1 hv).1; simpa using this);have := h.sr.cell (3 + q) v (by
  rw [show 3 + q = q + 1 + 1 + 1 by omega];simpa using hv)
 rw [← Nat.add_assoc] at this;exact this
/-- A box for what groups have, with nothing in it yet. -/
theorem AG.zero (h : AG X pr w c nd g cap l wr) : AG X pr w c nd g cap l (wr.alloc (.cells CZ 27)) ∧ (wr.alloc (.cells CZ 27)).heap[wr.heap.size]? = some (.cells CZ 27 (0, 0)) ∧ w.heap.size + 1 + 1 < wr.heap.size :=
 ⟨h.below ((Below.refl _ _).alloc (Nat.le_refl _) _), heap_alloc_new _ _, lt_heap' h.lf.nb⟩
/-- .. is filled. -/
theorem AG.fill (h : AG X pr w c nd g cap l wr) {gx : Nat} (hg : wr.heap[gx]? = some (.cells CZ 27 (0, 0))) (hlt : w.heap.size + 1 + 1 < gx) (x : Caps) : AG X pr w c nd g cap l (wr.setRow gx (CC x)) ∧ CB (wr.setRow gx (CC x)) gx x := by
 obtain ⟨cur, h2, h3, _⟩ := h.sr.parts;have hne : g ≠ gx := by
  rintro rfl;have := h3.symm.trans hg;simp only [Option.some.injEq, Obj.cells.injEq] at this;exact absurd this.2.1 (by decide)
 exact ⟨⟨h.lf.other (by decide) (by decide) hg hlt (by simp) (fun q _ hq => setRow_other _ _ _ _ hq) (below_setRow (Below.refl _ _) (by have := h.lf.tf.base; omega) _), h.sr.keep (setRow_other _ _ _ _ hne)⟩, setRow_heap _ _ _ _ _ _ hg⟩
theorem AG.kept (h : AG X pr w c nd g cap l wr) {gx : Nat} {cs : Array Value} {t : TypeId} {fr : Nat × Nat} (hg : wr.heap[gx]? = some (.cells cs t fr)) (hk : Km X wr w') : w'.heap[gx]? = some (.cells cs t fr) := mm_keep h.lf.tf.mm hk hg
/-- A stand of one's own is laid. -/
theorem AG.stand (h : AG X pr w c nd g cap l wr) (o : Obj) : AG X pr w c nd g cap l (wr.alloc o) ∧ ∀ {gx : Nat} {cs : Array Value} {t : TypeId} {fr : Nat × Nat}, wr.heap[gx]? = some (.cells cs t fr) → (wr.alloc o).heap[gx]? = some (.cells cs t fr) := by
 have hb := (Below.refl wr.heap.size wr).alloc (Nat.le_refl _) o;exact ⟨h.below hb, fun hg => (hb.block _ (lt_heap' hg)).trans hg⟩
theorem stand_laid (wr : World) (p c k : Nat) (a : Caps) : (wr.alloc (.cells SZ 173)).setRow wr.heap.size (SC p c k a) = wr.alloc (.cells (SC p c k a) 173) := World.setRow_alloc_new wr SZ (SC p c k a) 173
theorem AG.push {o : Obj} {gg cap' n : Nat} {p cc k : Nat} {a : Caps} (h : AG X pr w c nd g cap l wr) (hl : l.length = n)
  (hown : w'.ownsRow (w.heap.size + 1 + 1 + 1) 173 13 (.slice (some ⟨gg, 0, none⟩) (n + 1) cap') (n + 1) (flatS l ++ (SC p cc k a).toList)) (hgrow : (wr.alloc o).grownBy w' (Value.slice (some ⟨g, 0, none⟩) n cap).ownBlock) :
  AG X pr w c nd gg cap' (l ++ [⟨p, cc, k, a⟩]) w' := by
 subst hl;have h2 := (h.stand o).1;obtain ⟨cur, q2, q3, _⟩ := h2.sr.parts;refine ⟨h2.lf.other (by decide) (by decide) q3 h2.gt hgrow.size (fun q hq hn => hgrow.block q hq (by simp only [Value.ownBlock, ne_eq, Option.some.injEq]; exact fun e => hn e)) ((Below.refl _ _).grown hgrow (by have := h2.lf.tf.mm.bel.size; exact this) (by
  intro q hq;simp only [Value.ownBlock, Option.some.injEq] at hq;have := h2.gt;have := h2.lf.tf.base;omega)), ?_⟩
 unfold SR;rw [List.length_append, List.length_singleton, flatS_push];exact hown
/-- The row as append sees it. -/
theorem AG.row (h : AG X pr w c nd g cap l wr) {n : Nat} (hl : l.length = n) : wr.ownsRow (w.heap.size + 1 + 1 + 1) 173 13 (.slice (some ⟨g, 0, none⟩) n cap) n (flatS l) := by
 subst hl; exact h.sr
/-- The beginning. -/
theorem ag_start (h : LF X pr w c nd wr) (p cc k : Nat) (a : Caps) : AG X pr w c nd wr.heap.size 1 [⟨p, cc, k, a⟩] (wr.alloc (.cells (SC p cc k a) 173)) :=
 ⟨h.below ((Below.refl _ _).alloc (Nat.le_refl _) _), World.ownsRow_lit (size := 13) wr (SC p cc k a) 1 (by have := lt_heap' h.nb; omega) (by decide) rfl⟩
end
/-- What is read meanwhile. -/
abbrev AGS (X : Par) (w : World) (c : Caps) (nd : Nd) (g : Nat) (q p cc k : Nat) (a : Caps) (w' : World) : Prop :=
 LW X w c nd w' ∧ (w'.cell? ⟨g, q * 13, none⟩ = some (E (p : Nat)) ∧ w'.cell? ⟨g, q * 13 + 1, none⟩ = some (E (cc : Nat)) ∧ w'.cell? ⟨g, q * 13 + 2, none⟩ = some (E (k : Nat))) ∧ w'.rangeAt g (q * 13 + 3) (CC a).toList
theorem AG.ags {X : Par} {pr : Nat → Prop} {w wr : World} {c : Caps} {nd : Nd} {g cap : Nat} {r : List Std} {p cc k : Nat} {a : Caps} (h : AG X pr w c nd g cap (r ++ [⟨p, cc, k, a⟩]) wr) : AGS X w c nd g r.length p cc k a wr := ⟨h.lf.ls, h.cells.1, h.cells.2.1⟩
end Go.Proofs.YtlicoffnjphphaaGreatDoor.Mt
