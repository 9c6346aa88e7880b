/- Finds: all of them: the walk. -/
import Derived.Test.YthpiapemjadgdaaGreatDoorFnIPk
namespace Go.Proofs.YthpiapemjadgdaaGreatDoor.Mt
open Go.RowKit Go.Shelf
open Go.Proofs.YthpiapemjadgdaaGreatDoor.Rx
open Go.Proofs.YthpiapemjadgdaaGreatDoor.Fn
set_option linter.unusedVariables false
set_option linter.unusedSimpArgs false
attribute [local go_sem] Oper.semAt_some
/-- Rows of what groups have, flat. -/
def flC (l : List Caps) : List Value := l.flatMap fun c => (CC c).toList
theorem flC_append (l m : List Caps) : flC (l ++ m) = flC l ++ flC m := by unfold flC; rw [List.flatMap_append]
theorem flC_one (c : Caps) : flC [c] = (CC c).toList := by simp [flC]
theorem infoC : (Tryz.prog.info? 27).map (fun i => (i.zero, i.size, i.bytes)) = some (some (.agg CZ), 10, 160) := by kernel_rfl
theorem boxed_one {W : World} {B : Nat} {t : TypeId} {v v' : Value} (h : Boxed W B t v) (h' : Boxed W B t v') : v = v' := by
  have := (show W.heap[B]? = _ from h).symm.trans h'
  simpa using this
/-- What a round of the loop that collects keeps: all but the box, and the row that it holds. -/
structure Kc (n0 B : Nat) (W W' : World) : Prop where
  bel : Below n0 W W'
  row : ∀ v, Boxed W B 37 v → (∀ k o, W.heap[k]? = some o → o.isCells = true → k ≠ B → some k ≠ v.ownBlock → W'.heap[k]? = some o) ∧
    ∃ v', Boxed W' B 37 v' ∧ ∀ g, v'.ownBlock = some g → v.ownBlock = some g ∨ (W.heap.size ≤ g ∧ g < W'.heap.size)
theorem Kc.trans {n0 B : Nat} {X Y Z : World} (h : Kc n0 B X Y) (k : Kc n0 B Y Z) : Kc n0 B X Z := by
  refine ⟨h.bel.trans k.bel, fun v hv => ?_⟩
  obtain ⟨h1, v', h2, h3⟩ := h.row v hv
  obtain ⟨k1, v'', k2, k3⟩ := k.row v' h2
  refine ⟨fun i o hi ho hB hn => k1 i o (h1 i o hi ho hB hn) ho hB (fun e => ?_), v'', k2, fun g hg => ?_⟩
  · rcases h3 i e.symm with q | ⟨q, _⟩
    · exact hn q.symm
    · have := lt_heap' hi; omega
  · rcases k3 g hg with q | ⟨q1, q2⟩
    · rcases h3 g q with r | ⟨r1, r2⟩
      · exact .inl r
      · exact .inr ⟨r1, Nat.lt_of_lt_of_le r2 k.bel.size⟩
    · exact .inr ⟨Nat.le_trans h.bel.size q1, q2⟩
theorem Kc.of_below {n0 B : Nat} {W W' : World} (h0 : n0 ≤ W.heap.size) (h : Below W.heap.size W W') : Kc n0 B W W' :=
  ⟨h.mono h0, fun v hv => ⟨fun k o hk _ _ _ => (h.block k (lt_heap' hk)).trans hk, v, (h.block B hv.lt).trans hv, fun g hg => .inl hg⟩⟩
theorem Kc.putObj {n0 B : Nat} {w : World} (hn : n0 ≤ w.heap.size) (W : World) (l : Nat) (o o' : Obj) (hl : w.heap.size ≤ l) (h : W.heap[l]? = some o) (hc : o.isCells = false) (hw : o.isWalk = false) : Kc n0 B W (W.putObj l o') := by
  refine ⟨belowK_b hn W l o o' hl h hc hw, fun v hv => ⟨fun k x hk hx _ _ => ?_, v, ?_, fun g hg => .inl hg⟩⟩
  · have hne : l ≠ k := by rintro rfl; rw [h] at hk; cases hk; rw [hc] at hx; cases hx
    exact (World.putObj_heap_other (Ne.symm hne)).trans hk
  · have hne : l ≠ B := by rintro rfl; rw [show W.heap[l]? = _ from hv] at h; cases h; cases hc
    exact (World.putObj_heap_other (Ne.symm hne)).trans hv
/-- What the iterator reads, within that loop. -/
structure Fc (w : World) (v : Value) (T : List UInt8) (W : World) : Prop where
  bel : Below w.heap.size w W
  t : Boxed W (w.heap.size + 1 + 1) 9 (S T)
  l : Boxed W (w.heap.size + 1) 22 v
  o : ∃ x, Boxed W w.heap.size 37 x ∧ ∀ g, x.ownBlock = some g → g < W.heap.size ∧ g ≠ w.heap.size + 1 ∧ g ≠ w.heap.size + 1 + 1
theorem Fc.below {w : World} {v : Value} {T : List UInt8} {W W' : World} (h : Fc w v T W) (hb : Below W.heap.size W W') : Fc w v T W' := by
  obtain ⟨x, h1, h2⟩ := h.o
  exact ⟨h.bel.trans (hb.mono h.bel.size), (hb.block _ h.t.lt).trans h.t, (hb.block _ h.l.lt).trans h.l, x, (hb.block _ h1.lt).trans h1, fun g hg => ⟨Nat.lt_of_lt_of_le (h2 g hg).1 hb.size, (h2 g hg).2⟩⟩
theorem Fc.kept {w : World} {v : Value} {T : List UInt8} {W W' : World} (h : Fc w v T W) (hk : Kc w.heap.size w.heap.size W W') : Fc w v T W' := by
  obtain ⟨x, h1, h2⟩ := h.o
  obtain ⟨k1, x', k2, k3⟩ := hk.row x h1
  refine ⟨h.bel.trans hk.bel, k1 _ _ h.t rfl (by omega) (fun e => (h2 _ e.symm).2.2 rfl), k1 _ _ h.l rfl (by omega) (fun e => (h2 _ e.symm).2.1 rfl), x', k2, fun g hg => ?_⟩
  rcases k3 g hg with q | ⟨q1, q2⟩
  · exact ⟨Nat.lt_of_lt_of_le (h2 g q).1 hk.bel.size, (h2 g q).2⟩
  · have := h.t.lt
    exact ⟨q2, by omega, by omega⟩
theorem Fc.fresh {w : World} {v : Value} {T : List UInt8} {W W' : World} {cs : Array Value} (h : Fc w v T W) (hk : Kc w.heap.size w.heap.size (W.alloc (.cells cs 27)) W') : W'.heap[W.heap.size]? = some (.cells cs 27 (0, 0)) := by
  obtain ⟨x, h1, h2⟩ := h.o
  refine (hk.row x (h1.alloc _)).1 _ _ (heap_alloc_new W _) rfl (by have := h1.lt; omega) (fun e => ?_)
  have := (h2 _ e.symm).1
  omega
theorem boxed_from {β : Type} {B k : Nat} {t : TypeId} {v : Value} : OwnFrom B (fun (_ : β) W => Boxed W k t v) := fun s X Y row hv hg hr => hv.kept hg (fun e => by
  obtain ⟨_, o, ho, hc⟩ := hr k e.symm
  rw [show X.heap[k]? = _ from hv] at ho
  cases ho
  cases hc)
theorem cells_from {β : Type} {B k : Nat} {cs : Array Value} {t : TypeId} : OwnFrom B (fun (_ : β) W => W.heap[k]? = some (.cells cs t (0, 0))) := fun s X Y row hv hg hr => (hg.block k (lt_heap' hv) (fun e => by
  obtain ⟨_, o, ho, hc⟩ := hr k e.symm
  rw [hv] at ho
  cases ho
  cases hc)).trans hv
theorem fc_start (w : World) (v : Value) (T : List UInt8) : Fc w v T (((w.alloc (.cells #[.slice none 0 0] 37)).alloc (.cells #[v] 22)).alloc (.cells #[S T] 9)) := by
  have b0 := Boxed.new w 37 (.slice none 0 0)
  have b1 := Boxed.new (w.alloc (.cells #[.slice none 0 0] 37)) 22 v
  have b2 := Boxed.new ((w.alloc (.cells #[.slice none 0 0] 37)).alloc (.cells #[v] 22)) 9 (S T)
  rw [World.size_alloc] at b1
  rw [World.size_alloc, World.size_alloc] at b2
  refine ⟨(((Below.refl _ w).alloc (Nat.le_refl _) _).alloc (by simp) _).alloc (by simp; omega) _, b2, b1.alloc _, .slice none 0 0, (b0.alloc _).alloc _, fun g hg => by cases hg⟩
theorem results_box {fn : Func} {p : Tmp} {ty : TypeId} (h : fn.results = #[.cell p ty]) {tmps : Array Value} {w : World} {B n cap : Nat} {ao : Option Addr} (hp : tmps.getD p undef = PT B) (hv : Boxed w B ty (.slice ao n cap)) (hty : ty = 37) :
    (results fn tmps).run Tryz.prog w = .ok (.slice ao n cap) w := by
  subst hty
  have hc := hv.cell
  have hp' : tmps[p]?.getD undef = PT B := by simpa using hp
  simp only [results, h]
  simp [hp', asAddr]
  go_simp
theorem kc_append {n0 B : Nat} {W w1 : World} {v v' : Value} {tmp : Obj} (hv : Boxed W B 37 v) (hgrow : (W.alloc tmp).grownBy w1 v.ownBlock) (hat : v'.ownBlock = v.ownBlock ∨ v'.ownBlock = some (W.alloc tmp).heap.size)
    (hv2 : Boxed (w1.setCell ⟨B, 0, none⟩ v') B 37 v') (hbel : Below n0 W (w1.setCell ⟨B, 0, none⟩ v')) (hlt : ∀ g, v'.ownBlock = some g → g < (w1.setCell ⟨B, 0, none⟩ v').heap.size) : Kc n0 B W (w1.setCell ⟨B, 0, none⟩ v') :=
  ⟨hbel, fun u hu => by
    obtain rfl := boxed_one hv hu
    refine ⟨fun k o hk hc hB hn => ?_, v', hv2, fun g hg => ?_⟩
    · have hl := lt_heap' hk
      exact (Below.heap_setCell w1 ⟨B, 0, none⟩ v' k hB).trans ((hgrow.block k (by simp; omega) hn).trans ((Below.heap_alloc W tmp k hl).trans hk))
    · rcases hat with q | q
      · exact .inl (by rw [← q]; exact hg)
      · rw [hg] at q
        have e := Option.some.inj q
        rw [World.size_alloc] at e
        exact .inr ⟨by omega, hlt g hg⟩⟩
theorem own_lt {w : World} {B e n z : Nat} {v : Value} {xs : List Value} (h : w.ownsRow B e z v n xs) : ∀ g, v.ownBlock = some g → g < w.heap.size := by
  intro g hg
  rcases h.2 with ⟨rfl, _⟩ | ⟨g', cap, cur, rfl, _, hgb, _⟩
  · cases hg
  · have : g' = g := by simpa [Value.ownBlock] using hg
    subst this
    exact lt_heap' hgb
theorem news_caps (W : World) (x : Caps) : ∀ j u, (CC x).toList[j]? = some u → (W.alloc (.cells (CC x) 27)).cell? ((⟨W.heap.size, 0, none⟩ : Addr).add j) = some u := by
  intro j u hj
  rw [Addr.add_lit, Lib.cell_of_heap (heap_alloc_new _ _), Nat.zero_add]
  simpa using hj
theorem ones_caps (x : Caps) : ∀ u ∈ (CC x).toList, u.oneCell' = true := fun u hu => by
  have h := cc_one x
  rw [← Array.all_toList, List.all_eq_true] at h
  exact h u hu
set_option maxRecDepth 100000 in
theorem finds_any (ao : Option Addr) (nn cc : Nat) (T : List UInt8) (w : World) :
    Calls Tryz.prog 43 #[.slice ao nn cc, S T] w fun e w' => e = .returned (.func (.func 67) #[] #[PT (w.heap.size + 1), PT w.heap.size]) ∧ w' = (w.alloc (.cells #[.slice ao nn cc] 22)).alloc (.cells #[S T] 9) := by
  go_enter Tryz.func43, Tryz.ntmps43
  go_wp2
  go_ret
  exact ⟨by simp, rfl⟩
/-- What All answers. -/
def AllAns (w : World) (l : List Caps) (e : Ending) (w' : World) : Prop := ∃ v, e = .returned v ∧ w'.ownsRow w.heap.size 27 10 v l.length (flC l) ∧ Below w.heap.size w w'
set_option maxRecDepth 100000 in
set_option maxHeartbeats 6400000 in
theorem all_in (hna : NoneOk) (ao : Option Addr) (nn cc : Nat) (T : List UInt8) (hT : T.length ≤ 100000) (F : Nat → Option Caps) (hF : FOk T.length F) (w : World) (hlo : LongOk w (.slice ao nn cc) T F) :
    CallsIn Fence.wide 6 Tryz.prog 19 #[.slice ao nn cc, S T] w (AllAns w (allF F T.length)) := by
  obtain ⟨i0, hi, hz0, hz1, hz2⟩ := info_parts infoC
  refine callsIn_of_wp_marks Tryz.func19 rfl trivial ?_ rfl
  simp only [Tryz.ntmps19, List.size_toArray, List.length_cons, List.length_nil, Nat.reduceAdd, Nat.reduceSub, Array.replicate_succ, Array.replicate_zero, List.push_toArray, List.append_toArray, List.nil_append, List.cons_append]
  have HLO := Lib.hid hlo
  have HF := Lib.hid hF
  have HT := Lib.hid hT
  clear hlo hF hT
  gi_wp2
  refine ⟨trivial, ?_⟩
  refine (callsIn_wide.2 (finds_any ao nn cc T _)).mono ?_
  rintro e w2 ⟨rfl, hw2⟩
  gi_wp2
  have HFc := Lib.hid (fc_start w (.slice ao nn cc) T)
  rw [← hw2] at HFc ⊢
  have HSZ := Lib.hid (show w2.heap.size = w.heap.size + 1 + 1 + 1 from by rw [hw2]; simp)
  have HB0 := Lib.hid (show Boxed w2 w.heap.size 37 (.slice none 0 0) from by rw [hw2]; exact ((Boxed.new w 37 (.slice none 0 0)).alloc _).alloc _)
  clear hw2
  refine wpIn_rangeFunc_ownH rfl (by omega) (gf := 67) (lb := #[PT (w.heap.size + 1 + 1), PT (w.heap.size + 1)]) rfl trivial (enters_of Tryz.func67 (by kernel_rfl) rfl)
    (finds_stops hna 5 (by omega) ao nn cc T HT.out F HF.out (w.heap.size + 1 + 1) (w.heap.size + 1) w2 (Kc w.heap.size w.heap.size) (Fc w (.slice ao nn cc) T) (fun W hW => HFc.out.below hW) (fun W W' h hb => h.below hb) (fun W W' hk h => h.kept hk) (fun W h => ⟨HLO.out.below h.bel, h.t, h.l⟩) (fun W cs W' h hk => h.fresh hk))
    (fun h k => h.trans k) (Kc.putObj (w := w2) (by rw [HSZ.out]; omega)) (Below.refl _ _) (fun _ => rfl)
    (fun (pre : List Caps) W => (∃ x, Boxed W w.heap.size 37 x ∧ W.ownsRow w.heap.size 27 10 x pre.length (flC pre) ∧ True) ∧ Below w.heap.size w W ∧ Boxed W (w.heap.size + 1 + 1) 9 (S T) ∧ Boxed W (w.heap.size + 1) 22 (.slice ao nn cc))
    (fun _ _ _ => False)
    (OwnFrom.and (Own.from (holdsRow_own w.heap.size w.heap.size 37 27 10 (fun (pre : List Caps) => pre.length) flC (fun (pre : List Caps) v => True)) _) (OwnFrom.and (ownFrom_below (Nat.le_refl _) (by rw [HSZ.out]; omega)) (OwnFrom.and boxed_from boxed_from)))
    (fun _ _ _ _ _ hs _ _ => hs)
    ⟨⟨_, HB0.out, World.ownsRow_nil _ _ _ _, trivial⟩, HFc.out.bel, HFc.out.t, HFc.out.l⟩
    (fun x a' W => ∃ b, a' = { tmps := #[.slice ao nn cc, S T, undef, undef, .pointer (some ⟨w.heap.size, 0, none⟩), PT b, .slice ao nn cc, S T, .func (.func 67) #[] #[PT (w.heap.size + 1 + 1), PT (w.heap.size + 1)], CV x, undef, undef, undef, undef, undef], defers := [] } ∧ CB W b x)
    (fun x a' s X Y row ⟨b, e, hb⟩ hg hr => ⟨b, e, cells_from s X Y row hb hg hr⟩)
    ?assign ?body ?done ?stop
  case assign =>
    intro l pre x W K hI hK
    have hII := hI
    gi_wp2_with (refine inStore_row rfl 27 (.tmp 5) (.tmp 9) rfl _ (CC x) rfl rfl _ CZ (heap_alloc_new _ _) (by kernel_rfl) rfl (cc_one x) ?_; simp only [Act.put, List.setIfInBounds_toArray, List.set_cons_zero, List.set_cons_succ]; rw [box_laid])
    refine hK _ _ ((KeepsOthers.alloc W _).from _) (Kc.of_below hI.2.1.size ((Below.refl _ W).alloc (Nat.le_refl _) _)) ?_ ⟨W.heap.size, rfl, heap_alloc_new _ _⟩
    obtain ⟨⟨y, y1, y2, y3⟩, y4, y5, y6⟩ := hI
    exact ⟨⟨y, y1.alloc _, y2.alloc _, trivial⟩, y4.trans (((Below.refl _ W).alloc (Nat.le_refl _) _).mono y4.size), y5.alloc _, y6.alloc _⟩
  case body =>
    rintro l pre x a' W hlD _ ⟨⟨v, hv, hrow, _⟩, hB, ht, hl⟩ ⟨b, rfl, hb⟩ hlt
    have hc := hv.cell
    have hN := HT.out
    gi_wp2_with (first
      | (refine inLoad_row rfl 27 (.tmp 5) rfl b rfl _ (CC x) (0, 0) _ hb Tryz.underlying27 rfl (by kernel_rfl) ?_; simp only [Act.put, List.setIfInBounds_toArray, List.set_cons_zero, List.set_cons_succ])
      | (gi_at_builtin; refine wpListIn_append_own_at _ rfl _ _ 37 rfl w.heap.size 27 i0 (.agg CZ) 10 160 Tryz.underlying37 hi hz0 hz1 hz2 rfl (by decide) _ _ _ rfl (hrow.alloc _) ⟨W.heap.size, 0, none⟩ 1 1 (CC x).toList rfl rfl (news_caps W x) (ones_caps x) (by unfold maxLen; omega) (by omega) (by have := hB.size; simp; omega) ?_; intro v' w1 hown' hgrow _ hat; obtain ⟨g', cap', rfl⟩ := ownsRow_succ hown'; obtain ⟨hv1, hv2, hr2, hk2, hb2⟩ := hv.appended (by decide) hrow hB.size (Nat.le_refl _) hown' hgrow; have hc1 := hv1.cell; have hf1 := hv1.frozen))
    have HK := kc_append hv hgrow hat hv2 hb2 (own_lt hr2)
    refine ⟨hk2.from _, HK, ⟨_, hv2, by simpa [flC_append, flC_one] using hr2⟩, hB.trans hb2, (HK.row _ hv).1 _ _ ht rfl (by omega) (ht.not_row (by decide) hrow), (HK.row _ hv).1 _ _ hl rfl (by omega) (hl.not_row (by decide) hrow)⟩
  case done =>
    rintro D ys W hD rfl ⟨⟨v, hv, hrow, _⟩, hB, ht, hl⟩ hK
    have hDB : D ≠ w.heap.size := by have := HSZ.out; omega
    obtain ⟨ao', n', c', rfl⟩ : ∃ ao' n' c', v = .slice ao' n' c' := by
      rcases own_forms hrow with ⟨rfl, _⟩ | ⟨g, cap, rfl, _⟩
      · exact ⟨_, _, _, rfl⟩
      · exact ⟨_, _, _, rfl⟩
    have hc := hv.cell
    have hf := hv.frozen
    gi_wp2
    have hK2 := (Below.heap_setCell W ⟨w.heap.size, 0, none⟩ (.slice ao' n' c') D hDB).trans hK
    have hv2 := hv.set (.slice ao' n' c')
    have hr2 := hrow.kept (grownBy_setCell' W w.heap.size (.slice ao' n' c')) (.inr (hv.not_row (by decide) hrow).symm)
    have hB2 : Below w.heap.size w (W.setCell ⟨w.heap.size, 0, none⟩ (.slice ao' n' c')) := hB.setCell (Nat.le_refl _) _
    refine ⟨by simp, .inl ⟨_, _, rfl, run_takeDeferred hK2, ?_⟩⟩
    exact ⟨_, results_box rfl rfl ((World.putObj_heap_other (Ne.symm hDB)).trans hv2) rfl, _, rfl, ownsRow_putObj hr2 _ hK2 rfl, hB2.trans (belowK_b (w := w) (Nat.le_refl _) _ D _ _ (by have := HSZ.out; omega) hK2 rfl rfl)⟩
  case stop =>
    rintro D c pre W _ _ h _
    exact h.elim
/-- All of them. -/
theorem all_any (hna : NoneOk) (ao : Option Addr) (nn cc : Nat) (T : List UInt8) (hT : T.length ≤ 100000) (F : Nat → Option Caps) (hF : FOk T.length F) (w : World) (hlo : LongOk w (.slice ao nn cc) T F) :
    Calls Tryz.prog 19 #[.slice ao nn cc, S T] w (AllAns w (allF F T.length)) :=
  callsIn_wide.1 (all_in hna ao nn cc T hT F hF w hlo)
end Go.Proofs.YthpiapemjadgdaaGreatDoor.Mt
