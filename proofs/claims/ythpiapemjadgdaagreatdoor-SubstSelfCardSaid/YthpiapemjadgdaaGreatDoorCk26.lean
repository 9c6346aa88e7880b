/- The texts FnA FnB FnF SnN7 SnT7 SnP7 FnS FnG SbB. -/
import Derived.Test.YthpiapemjadgdaaGreatDoorCk11
import Derived.Test.YthpiapemjadgdaaGreatDoorCk19
import Derived.Test.YthpiapemjadgdaaGreatDoorCk20
import Derived.Test.YthpiapemjadgdaaGreatDoorCk25
set_option linter.unusedVariables false
set_option linter.unusedSimpArgs false
set_option maxHeartbeats 12800000
set_option maxRecDepth 100000
namespace Go.Proofs.YthpiapemjadgdaaGreatDoor.Mt
open Go.RowKit Go.Shelf
open Rx
open Go.Proofs.YthpiapemjadgdaaGreatDoor.Fn
attribute [local go_sem] Oper.semAt_some
/-- Rows of what groups have, flat. -/
def flC (l : List Caps) : List Value := l.flatMap fun c => (CC c).toList
theorem flC_append (l m : List Caps) : flC (l ++ m) = flC l ++ flC m := by unfold flC; rw [List.flatMap_append]
theorem flC_one (c : Caps) : flC [c] = (CC c).toList := by simp [flC]
theorem infoC : (Tryz.prog.info? 27).map (fun i => (i.zero, i.size, i.bytes)) = some (some (.agg CZ), 10, 160) := by kernel_rfl
theorem boxed_one {W : World} {B : Nat} {t : TypeId} {v v' : Value} (h : Boxed W B t v) (h' : Boxed W B t v') : v = v' := by
 have := (show W.heap[B]? = _ from h).symm.trans h';simpa using this
/-- What a round of the loop that collects keeps: all but the box, and the row that it holds. -/
structure Kc (n0 B : Nat) (W W' : World) : Prop where
 bel : Below n0 W W'
 row : ∀ v, Boxed W B 37 v → (∀ k o, W.heap[k]? = some o → o.isCells = true → k ≠ B → some k ≠ v.ownBlock → W'.heap[k]? = some o) ∧
  ∃ v', Boxed W' B 37 v' ∧ ∀ g, v'.ownBlock = some g → v.ownBlock = some g ∨ (W.heap.size ≤ g ∧ g < W'.heap.size)
theorem Kc.trans {n0 B : Nat} {X Y Z : World} (h : Kc n0 B X Y) (k : Kc n0 B Y Z) : Kc n0 B X Z := by
 refine ⟨h.bel.trans k.bel, fun v hv => ?_⟩;obtain ⟨h1, v', h2, h3⟩ := h.row v hv;obtain ⟨k1, v'', k2, k3⟩ := k.row v' h2;refine ⟨fun i o hi ho hB hn => k1 i o (h1 i o hi ho hB hn) ho hB (fun e => ?_), v'', k2, fun g hg => ?_⟩
 ·
  rcases h3 i e.symm with q | ⟨q, _⟩
  · exact hn q.symm
  · have := lt_heap' hi; omega
 ·
  rcases k3 g hg with q | ⟨q1, q2⟩
  ·
   rcases h3 g q with r | ⟨r1, r2⟩
   · exact .inl r
   · exact .inr ⟨r1, Nat.lt_of_lt_of_le r2 k.bel.size⟩
  · exact .inr ⟨Nat.le_trans h.bel.size q1, q2⟩
theorem Kc.of_below {n0 B : Nat} {W W' : World} (h0 : n0 ≤ W.heap.size) (h : Below W.heap.size W W') : Kc n0 B W W' :=
 ⟨h.mono h0, fun v hv => ⟨fun k o hk _ _ _ => (h.block k (lt_heap' hk)).trans hk, v, (h.block B hv.lt).trans hv, fun g hg => .inl hg⟩⟩
theorem Kc.putObj {n0 B : Nat} {w : World} (hn : n0 ≤ w.heap.size) (W : World) (l : Nat) (o o' : Obj) (hl : w.heap.size ≤ l) (h : W.heap[l]? = some o) (hc : o.isCells = false) (hw : o.isWalk = false) : Kc n0 B W (W.putObj l o') := by
 refine ⟨belowK_b hn W l o o' hl h hc hw, fun v hv => ⟨fun k x hk hx _ _ => ?_, v, ?_, fun g hg => .inl hg⟩⟩
 · (have hne : l ≠ k := by rintro rfl; rw [h] at hk; cases hk; rw [hc] at hx; cases hx);exact (World.putObj_heap_other (Ne.symm hne)).trans hk
 · (have hne : l ≠ B := by rintro rfl; rw [show W.heap[l]? = _ from hv] at h; cases h; cases hc);exact (World.putObj_heap_other (Ne.symm hne)).trans hv
/-- What the iterator reads, within that loop. -/
structure Fc (w : World) (v : Value) (T : List UInt8) (W : World) : Prop where
 bel : Below w.heap.size w W
 t : Boxed W (w.heap.size + 1 + 1) 9 (S T)
 l : Boxed W (w.heap.size + 1) 22 v
 o : ∃ x, Boxed W w.heap.size 37 x ∧ ∀ g, x.ownBlock = some g → g < W.heap.size ∧ g ≠ w.heap.size + 1 ∧ g ≠ w.heap.size + 1 + 1
theorem Fc.below {w : World} {v : Value} {T : List UInt8} {W W' : World} (h : Fc w v T W) (hb : Below W.heap.size W W') : Fc w v T W' := by
 obtain ⟨x, h1, h2⟩ := h.o;exact ⟨h.bel.trans (hb.mono h.bel.size), (hb.block _ h.t.lt).trans h.t, (hb.block _ h.l.lt).trans h.l, x, (hb.block _ h1.lt).trans h1, fun g hg => ⟨Nat.lt_of_lt_of_le (h2 g hg).1 hb.size, (h2 g hg).2⟩⟩
theorem Fc.kept {w : World} {v : Value} {T : List UInt8} {W W' : World} (h : Fc w v T W) (hk : Kc w.heap.size w.heap.size W W') : Fc w v T W' := by
 obtain ⟨x, h1, h2⟩ := h.o;obtain ⟨k1, x', k2, k3⟩ := hk.row x h1;refine ⟨h.bel.trans hk.bel, k1 _ _ h.t rfl (by omega) (fun e => (h2 _ e.symm).2.2 rfl), k1 _ _ h.l rfl (by omega) (fun e => (h2 _ e.symm).2.1 rfl), x', k2, fun g hg => ?_⟩;rcases k3 g hg with q | ⟨q1, q2⟩
 · exact ⟨Nat.lt_of_lt_of_le (h2 g q).1 hk.bel.size, (h2 g q).2⟩
 · have := h.t.lt;exact ⟨q2, by omega, by omega⟩
theorem Fc.fresh {w : World} {v : Value} {T : List UInt8} {W W' : World} {cs : Array Value} (h : Fc w v T W) (hk : Kc w.heap.size w.heap.size (W.alloc (.cells cs 27)) W') : W'.heap[W.heap.size]? = some (.cells cs 27 (0, 0)) := by
 obtain ⟨x, h1, h2⟩ := h.o;refine (hk.row x (h1.alloc _)).1 _ _ (heap_alloc_new W _) rfl (by have := h1.lt; omega) (fun e => ?_);have := (h2 _ e.symm).1;omega
theorem boxed_from {β : Type} {B k : Nat} {t : TypeId} {v : Value} : OwnFrom B (fun (_ : β) W => Boxed W k t v) := fun s X Y row hv hg hr => hv.kept hg (fun e => by
 obtain ⟨_, o, ho, hc⟩ := hr k e.symm;rw [show X.heap[k]? = _ from hv] at ho;cases ho;cases hc)
theorem cells_from {β : Type} {B k : Nat} {cs : Array Value} {t : TypeId} : OwnFrom B (fun (_ : β) W => W.heap[k]? = some (.cells cs t (0, 0))) := fun s X Y row hv hg hr => (hg.block k (lt_heap' hv) (fun e => by
 obtain ⟨_, o, ho, hc⟩ := hr k e.symm;rw [hv] at ho;cases ho;cases hc)).trans hv
theorem fc_start (w : World) (v : Value) (T : List UInt8) : Fc w v T (((w.alloc (.cells #[.slice none 0 0] 37)).alloc (.cells #[v] 22)).alloc (.cells #[S T] 9)) := by
 have b0 := Boxed.new w 37 (.slice none 0 0);have b1 := Boxed.new (w.alloc (.cells #[.slice none 0 0] 37)) 22 v;have b2 := Boxed.new ((w.alloc (.cells #[.slice none 0 0] 37)).alloc (.cells #[v] 22)) 9 (S T);rw [World.size_alloc] at b1;rw [World.size_alloc, World.size_alloc] at b2;refine ⟨(((Below.refl _ w).alloc (Nat.le_refl _) _).alloc (by simp) _).alloc (by simp; omega) _, b2, b1.alloc _, .slice none 0 0, (b0.alloc _).alloc _, fun g hg => by cases hg⟩
theorem results_box {fn : Func} {p : Tmp} {ty : TypeId} (h : fn.results = #[.cell p ty]) {tmps : Array Value} {w : World} {B n cap : Nat} {ao : Option Addr} (hp : tmps.getD p undef = PT B) (hv : Boxed w B ty (.slice ao n cap)) (hty : ty = 37) :
  (results fn tmps).run Tryz.prog w = .ok (.slice ao n cap) w := by
 subst hty;have hc := hv.cell;(have hp' : tmps[p]?.getD undef = PT B := by simpa using hp);simp only [results, h];simp [hp', asAddr];go_simp
theorem kc_append {n0 B : Nat} {W w1 : World} {v v' : Value} {tmp : Obj} (hv : Boxed W B 37 v) (hgrow : (W.alloc tmp).grownBy w1 v.ownBlock) (hat : v'.ownBlock = v.ownBlock ∨ v'.ownBlock = some (W.alloc tmp).heap.size)
  (hv2 : Boxed (w1.setCell ⟨B, 0, none⟩ v') B 37 v') (hbel : Below n0 W (w1.setCell ⟨B, 0, none⟩ v')) (hlt : ∀ g, v'.ownBlock = some g → g < (w1.setCell ⟨B, 0, none⟩ v').heap.size) : Kc n0 B W (w1.setCell ⟨B, 0, none⟩ v') :=
 ⟨hbel, fun u hu => by
  obtain rfl := boxed_one hv hu;refine ⟨fun k o hk hc hB hn => ?_, v', hv2, fun g hg => ?_⟩
  · have hl := lt_heap' hk;exact (Below.heap_setCell w1 ⟨B, 0, none⟩ v' k hB).trans ((hgrow.block k (by simp; omega) hn).trans ((Below.heap_alloc W tmp k hl).trans hk))
  ·
   rcases hat with q | q
   · exact .inl (by rw [← q]; exact hg)
   · rw [hg] at q;have e := Option.some.inj q;rw [World.size_alloc] at e;exact .inr ⟨by omega, hlt g hg⟩⟩
theorem own_lt {w : World} {B e n z : Nat} {v : Value} {xs : List Value} (h : w.ownsRow B e z v n xs) : ∀ g, v.ownBlock = some g → g < w.heap.size := by
 intro g hg;rcases h.2 with ⟨rfl, _⟩ | ⟨g', cap, cur, rfl, _, hgb, _⟩
 · cases hg
 · (have : g' = g := by simpa [Value.ownBlock] using hg);subst this;exact lt_heap' hgb
theorem news_caps (W : World) (x : Caps) : ∀ j u, (CC x).toList[j]? = some u → (W.alloc (.cells (CC x) 27)).cell? ((⟨W.heap.size, 0, none⟩ : Addr).add j) = some u := by
 intro j u hj;rw [Addr.add_lit, Lib.cell_of_heap (heap_alloc_new _ _), Nat.zero_add];simpa using hj
theorem ones_caps (x : Caps) : ∀ u ∈ (CC x).toList, u.oneCell' = true := fun u hu => by
 have h := cc_one x;rw [← Array.all_toList, List.all_eq_true] at h;exact h u hu
theorem finds_any (ao : Option Addr) (nn cc : Nat) (T : List UInt8) (w : World) :
  Calls Tryz.prog 43 #[.slice ao nn cc, S T] w fun e w' => e = .returned (.func (.func 67) #[] #[PT (w.heap.size + 1), PT w.heap.size]) ∧ w' = (w.alloc (.cells #[.slice ao nn cc] 22)).alloc (.cells #[S T] 9) := by
 go_enter Tryz.func43, Tryz.ntmps43;go_wp2;go_ret;exact ⟨by simp, rfl⟩
/-- What All answers. -/
def AllAns (w : World) (l : List Caps) (e : Ending) (w' : World) : Prop := ∃ v, e = .returned v ∧ w'.ownsRow w.heap.size 27 10 v l.length (flC l) ∧ Below w.heap.size w w'
theorem all_in (hna : NoneOk) (ao : Option Addr) (nn cc : Nat) (T : List UInt8) (hT : T.length ≤ 100000) (F : Nat → Option Caps) (hF : FOk T.length F) (w : World) (hlo : LongOk w (.slice ao nn cc) T F) :
  CallsIn Fence.wide 6 Tryz.prog 19 #[.slice ao nn cc, S T] w (AllAns w (allF F T.length)) := by
 obtain ⟨i0, hi, hz0, hz1, hz2⟩ := info_parts infoC;refine callsIn_of_wp_marks Tryz.func19 rfl trivial ?_ rfl;simp only [Tryz.ntmps19, List.size_toArray, List.length_cons, List.length_nil, Nat.reduceAdd, Nat.reduceSub, Array.replicate_succ, Array.replicate_zero, List.push_toArray, List.append_toArray, List.nil_append, List.cons_append];have HLO := Lib.hid hlo;have HF := Lib.hid hF;have HT := Lib.hid hT;clear hlo hF hT;gi_wp2;refine ⟨trivial, ?_⟩;refine (callsIn_wide.2 (finds_any ao nn cc T _)).mono ?_;rintro e w2 ⟨rfl, hw2⟩;gi_wp2;have HFc := Lib.hid (fc_start w (.slice ao nn cc) T);rw [← hw2] at HFc ⊢;have HSZ := Lib.hid (show w2.heap.size = w.heap.size + 1 + 1 + 1 from by rw [hw2]; simp);have HB0 := Lib.hid (show Boxed w2 w.heap.size 37 (.slice none 0 0) from by rw [hw2]; exact ((Boxed.new w 37 (.slice none 0 0)).alloc _).alloc _);clear hw2;refine wpIn_rangeFunc_ownH rfl (by omega) (gf := 67) (lb := #[PT (w.heap.size + 1 + 1), PT (w.heap.size + 1)]) rfl trivial (enters_of Tryz.func67 (by kernel_rfl) rfl)
  (finds_stops hna 5 (by omega) ao nn cc T HT.out F HF.out (w.heap.size + 1 + 1) (w.heap.size + 1) w2 (Kc w.heap.size w.heap.size) (Fc w (.slice ao nn cc) T) (fun W hW => HFc.out.below hW) (fun W W' h hb => h.below hb) (fun W W' hk h => h.kept hk) (fun W h => ⟨HLO.out.below h.bel, h.t, h.l⟩) (fun W cs W' h hk => h.fresh hk))
  (fun h k => h.trans k) (Kc.putObj (w := w2) (by rw [HSZ.out]; omega)) (Below.refl _ _) (fun _ => rfl)
  (fun (pre : List Caps) W => (∃ x, Boxed W w.heap.size 37 x ∧ W.ownsRow w.heap.size 27 10 x pre.length (flC pre) ∧ True) ∧ Below w.heap.size w W ∧ Boxed W (w.heap.size + 1 + 1) 9 (S T) ∧ Boxed W (w.heap.size + 1) 22 (.slice ao nn cc))
  (fun _ _ _ => False)
  (OwnFrom.and (Own.from (holdsRow_own w.heap.size w.heap.size 37 27 10 (fun (pre : List Caps) => pre.length) flC (fun (pre : List Caps) v => True)) _) (OwnFrom.and (ownFrom_below (Nat.le_refl _) (by rw [HSZ.out]; omega)) (OwnFrom.and boxed_from boxed_from)))
  (fun _ _ _ _ _ hs _ _ => hs)
  ⟨⟨_, HB0.out, World.ownsRow_nil _ _ _ _, trivial⟩, HFc.out.bel, HFc.out.t, HFc.out.l⟩
  (fun x a' W => ∃ b, a' = { tmps := #[.slice ao nn cc, S T, undef, undef, .pointer (some ⟨w.heap.size, 0, none⟩), PT b, .slice ao nn cc, S T, .func (.func 67) #[] #[PT (w.heap.size + 1 + 1), PT (w.heap.size + 1)], CV x, undef, undef, undef, undef, undef], defers := [] } ∧ CB W b x)
  (fun x a' s X Y row ⟨b, e, hb⟩ hg hr => ⟨b, e, cells_from s X Y row hb hg hr⟩)
  ?assign ?body ?done ?stop
 case assign =>
  intro l pre x W K hI hK;have hII := hI
  gi_wp2_with (refine inStore_row rfl 27 (.tmp 5) (.tmp 9) rfl _ (CC x) rfl rfl _ CZ (heap_alloc_new _ _) (by kernel_rfl) rfl (cc_one x) ?_; simp only [Act.put, List.setIfInBounds_toArray, List.set_cons_zero, List.set_cons_succ]; rw [box_laid])
  refine hK _ _ ((KeepsOthers.alloc W _).from _) (Kc.of_below hI.2.1.size ((Below.refl _ W).alloc (Nat.le_refl _) _)) ?_ ⟨W.heap.size, rfl, heap_alloc_new _ _⟩;obtain ⟨⟨y, y1, y2, y3⟩, y4, y5, y6⟩ := hI;exact ⟨⟨y, y1.alloc _, y2.alloc _, trivial⟩, y4.trans (((Below.refl _ W).alloc (Nat.le_refl _) _).mono y4.size), y5.alloc _, y6.alloc _⟩
 case body =>
  rintro l pre x a' W hlD _ ⟨⟨v, hv, hrow, _⟩, hB, ht, hl⟩ ⟨b, rfl, hb⟩ hlt;have hc := hv.cell;have hN := HT.out
  gi_wp2_with (first
   | (refine inLoad_row rfl 27 (.tmp 5) rfl b rfl _ (CC x) (0, 0) _ hb Tryz.underlying27 rfl (by kernel_rfl) ?_; simp only [Act.put, List.setIfInBounds_toArray, List.set_cons_zero, List.set_cons_succ])
   | (gi_at_builtin; refine wpListIn_append_own_at _ rfl _ _ 37 rfl w.heap.size 27 i0 (.agg CZ) 10 160 Tryz.underlying37 hi hz0 hz1 hz2 rfl (by decide) _ _ _ rfl (hrow.alloc _) ⟨W.heap.size, 0, none⟩ 1 1 (CC x).toList rfl rfl (news_caps W x) (ones_caps x) (by unfold maxLen; omega) (by omega) (by have := hB.size; simp; omega) ?_; intro v' w1 hown' hgrow _ hat; obtain ⟨g', cap', rfl⟩ := ownsRow_succ hown'; obtain ⟨hv1, hv2, hr2, hk2, hb2⟩ := hv.appended (by decide) hrow hB.size (Nat.le_refl _) hown' hgrow; have hc1 := hv1.cell; have hf1 := hv1.frozen))
  have HK := kc_append hv hgrow hat hv2 hb2 (own_lt hr2);refine ⟨hk2.from _, HK, ⟨_, hv2, by simpa [flC_append, flC_one] using hr2⟩, hB.trans hb2, (HK.row _ hv).1 _ _ ht rfl (by omega) (ht.not_row (by decide) hrow), (HK.row _ hv).1 _ _ hl rfl (by omega) (hl.not_row (by decide) hrow)⟩
 case done =>
  rintro D ys W hD rfl ⟨⟨v, hv, hrow, _⟩, hB, ht, hl⟩ hK;(have hDB : D ≠ w.heap.size := by have := HSZ.out; omega);obtain ⟨ao', n', c', rfl⟩ : ∃ ao' n' c', v = .slice ao' n' c' := by
   rcases own_forms hrow with ⟨rfl, _⟩ | ⟨g, cap, rfl, _⟩
   · exact ⟨_, _, _, rfl⟩
   · exact ⟨_, _, _, rfl⟩
  have hc := hv.cell;have hf := hv.frozen;gi_wp2;have hK2 := (Below.heap_setCell W ⟨w.heap.size, 0, none⟩ (.slice ao' n' c') D hDB).trans hK;have hv2 := hv.set (.slice ao' n' c');have hr2 := hrow.kept (grownBy_setCell' W w.heap.size (.slice ao' n' c')) (.inr (hv.not_row (by decide) hrow).symm);have hB2 : Below w.heap.size w (W.setCell ⟨w.heap.size, 0, none⟩ (.slice ao' n' c')) := hB.setCell (Nat.le_refl _) _;refine ⟨by simp, .inl ⟨_, _, rfl, run_takeDeferred hK2, ?_⟩⟩;exact ⟨_, results_box rfl rfl ((World.putObj_heap_other (Ne.symm hDB)).trans hv2) rfl, _, rfl, ownsRow_putObj hr2 _ hK2 rfl, hB2.trans (belowK_b (w := w) (Nat.le_refl _) _ D _ _ (by have := HSZ.out; omega) hK2 rfl rfl)⟩
 case stop =>
  rintro D c pre W _ _ h _;exact h.elim
/-- All of them. -/
theorem all_any (hna : NoneOk) (ao : Option Addr) (nn cc : Nat) (T : List UInt8) (hT : T.length ≤ 100000) (F : Nat → Option Caps) (hF : FOk T.length F) (w : World) (hlo : LongOk w (.slice ao nn cc) T F) :
  Calls Tryz.prog 19 #[.slice ao nn cc, S T] w (AllAns w (allF F T.length)) :=
 callsIn_wide.1 (all_in hna ao nn cc T hT F hF w hlo)
open Rx.Tr
open St (Wf word mem SV SV_eq ofL wf_ofL bytesL)
theorem fbounded_any (ao : Option Addr) (c : Nat) (l : List Nd) (w : World) (h : Ns w (.slice ao l.length c) l) (hl : l.length ≤ maxLen) (T : List UInt8) (R : Bool) (hR : R = boundedL 16 8 5 l T.length) :
  Calls Tryz.prog 12 #[.slice ao l.length c, S T] w fun e w' => e = .returned (.bool R) ∧ w = w' := by
 have HRR := Hd hR;clear hR;have HN := Hd h;have HL := Hd hl;clear h hl;go_enter Tryz.func12, Tryz.ntmps12;go_wp2;go_loopw [5, 6, 7] (fun nv rv iv wr => ∃ k : Nat, k ≤ l.length ∧ nv = .int .i64 (cntK l 6 k : Nat) ∧ rv = .int .i64 (cntK l 8 k : Nat) ∧ iv = .int .i64 (k : Nat) ∧ w = wr) (fun _ _ iv _ => l.length - (intOf iv).toNat);(case atStart => exact ⟨0, Nat.zero_le _, rfl, rfl, rfl, rfl⟩);case round =>
  obtain ⟨k, hk, rfl, rfl, rfl, rfl⟩ := hrel;by_cases hlt : k < l.length
  ·
   obtain ⟨b, o, rfl, hc⟩ := HN.out.at hlt;have q0 := hc.1;(have hlt' : (k : Int) < (l.length : Int) := by omega);(have hk0 : (0 : Int) ≤ (k : Int) := by omega);(have hwk : IntKind.i64.wrap ((k : Int) + 1) = (k : Int) + 1 := by rw [IntKind.wrap_i64]; have := HL.out; unfold maxLen at this; omega);have h6 := cnt_next l 6 hlt;have h8 := cnt_next l 8 hlt;have l6 := cnt_le l 6 k;have l8 := cnt_le l 8 k;obtain ⟨c6, hc6⟩ : ∃ c6, cntK l 6 k = c6 := ⟨_, rfl⟩;obtain ⟨c8, hc8⟩ : ∃ c8, cntK l 8 k = c8 := ⟨_, rfl⟩;rw [hc6] at h6 l6;rw [hc8] at h8 l8;rw [hc6, hc8];(have hw6 : IntKind.i64.wrap ((c6 : Int) + 1) = (c6 : Int) + 1 := by rw [IntKind.wrap_i64]; have := HL.out; unfold maxLen at this; omega);(have hw8 : IntKind.i64.wrap ((c8 : Int) + 1) = (c8 : Int) + 1 := by rw [IntKind.wrap_i64]; have := HL.out; unfold maxLen at this; omega);clear hc hc6 hc8;generalize (l[k]'hlt).k = kd at *;have H6 := Hd h6;have H8 := Hd h8;clear h6 h8 l6 l8;by_cases e6 : kd = 6
   · subst e6;go_wp2;go_roundw;(case rel => exact ⟨k + 1, by omega, by rw [H6.out]; simp, by rw [H8.out]; simp, by go_num, trivial⟩);case measure => simp [intOf]; omega
   ·
    (have hq6 : (kd == 6) = false := by rw [beq_eq_false_iff_ne]; exact e6);by_cases e8 : kd = 8
    · subst e8;go_wp2;go_roundw;(case rel => exact ⟨k + 1, by omega, by rw [H6.out]; simp, by rw [H8.out]; simp, by go_num, trivial⟩);case measure => simp [intOf]; omega
    · (have hq8 : (kd == 8) = false := by rw [beq_eq_false_iff_ne]; exact e8);have E6 := Hd e6;have E8 := Hd e8;clear e6 e8;go_wp2;go_roundw;(case rel => exact ⟨k + 1, by omega, by rw [H6.out, if_neg E6.out]; rfl, by rw [H8.out, if_neg E8.out]; rfl, by go_num, trivial⟩);case measure => simp [intOf]; omega
  ·
   (obtain rfl : k = l.length := by omega);have HB := Hd (show R = (decide (l.length ≤ 16) && (decide (T.length ≤ 8) && (decide (cntK l 8 l.length = 0) || (decide (cntK l 6 l.length ≤ 2) && decide (T.length ≤ 5))))) from HRR.out);generalize cntK l 6 l.length = c6 at *;generalize cntK l 8 l.length = c8 at *;(have hn1 : ¬ (l.length : Int) < (l.length : Int) := by omega);by_cases a1 : l.length ≤ 16
   ·
    (have b1 : (l.length : Int) ≤ 16 := by omega);have D1 := Hd (decide_eq_true a1);clear a1;by_cases a2 : T.length ≤ 8
    ·
     (have b2 : (T.length : Int) ≤ 8 := by omega);have D2 := Hd (decide_eq_true a2);clear a2;by_cases a3 : c8 = 0
     · (have b3 : ((c8 : Int) == 0) = true := by rw [a3]; rfl);have D3 := Hd (decide_eq_true a3);clear a3;go_wp2;go_ret;refine ⟨?_, rfl⟩;rw [HB.out, D1.out, D2.out, D3.out];(try rfl)
     ·
      (have b3 : ((c8 : Int) == 0) = false := by rw [beq_eq_false_iff_ne]; omega);have D3 := Hd (decide_eq_false a3);clear a3;by_cases a4 : c6 ≤ 2
      ·
       (have b4 : (c6 : Int) ≤ 2 := by omega);have D4 := Hd (decide_eq_true a4);clear a4;by_cases a5 : T.length ≤ 5
       · (have b5 : (T.length : Int) ≤ 5 := by omega);have D5 := Hd (decide_eq_true a5);clear a5;go_wp2;go_ret;refine ⟨?_, rfl⟩;rw [HB.out, D1.out, D2.out, D3.out, D4.out, D5.out];(try rfl)
       · (have b5 : ¬ (T.length : Int) ≤ 5 := by omega);have D5 := Hd (decide_eq_false a5);clear a5;go_wp2;go_ret;refine ⟨?_, rfl⟩;rw [HB.out, D1.out, D2.out, D3.out, D4.out, D5.out];(try rfl)
      · (have b4 : ¬ (c6 : Int) ≤ 2 := by omega);have D4 := Hd (decide_eq_false a4);clear a4;go_wp2;go_ret;refine ⟨?_, rfl⟩;rw [HB.out, D1.out, D2.out, D3.out, D4.out];(try rfl)
    · (have b2 : ¬ (T.length : Int) ≤ 8 := by omega);have D2 := Hd (decide_eq_false a2);clear a2;go_wp2;go_ret;refine ⟨?_, rfl⟩;rw [HB.out, D1.out, D2.out];(try rfl)
   · (have b1 : ¬ (l.length : Int) ≤ 16 := by omega);have D1 := Hd (decide_eq_false a1);clear a1;go_wp2;go_ret;refine ⟨?_, rfl⟩;rw [HB.out, D1.out];(try rfl)
theorem flC_cons (c : Caps) (l : List Caps) : flC (c :: l) = (CC c).toList ++ flC l := by unfold flC; rw [List.flatMap_cons]
theorem flC_get : ∀ (l : List Caps) (i : Nat) (h : i < l.length) (r : Nat), r < 10 → (flC l)[i * 10 + r]? = (CC l[i])[r]?
 | [], i, h, r, hr => by simp at h
 | c :: l, 0, h, r, hr => by
  rw [flC_cons, List.getElem?_append_left (by simp; omega)];simp
 | c :: l, i + 1, h, r, hr => by
  rw [flC_cons, List.getElem?_append_right (by simp; omega), show (i + 1) * 10 + r - (CC c).toList.length = i * 10 + r from by simp; omega];rw [flC_get l i (by simpa using h) r hr];simp
/-- Finds in memory. -/
def CsIn (w : World) (ae : Option Addr) (l : List Caps) : Prop := ∀ i (hi : i < l.length), ∃ g, ae = some ⟨g, 0, none⟩ ∧ w.cell? ⟨g, i * 10, none⟩ = some (capV (gr l[i] 0)) ∧ w.rangeAt g (i * 10) (CC l[i]).toList
theorem caps_form {w : World} {B : Nat} {v : Value} {l : List Caps} (h : w.ownsRow B 27 10 v l.length (flC l)) : ∃ ae cap, v = .slice ae l.length cap ∧ l.length ≤ cap ∧ CsIn w ae l := by
 rcases own_forms h with ⟨rfl, h0⟩ | ⟨g, cap, rfl, hc⟩
 · exact ⟨none, 0, by rw [h0], by omega, fun i hi => by omega⟩
 ·
  have hcell : ∀ i (hi : i < l.length) r, r < 10 → w.cell? ⟨g, i * 10 + r, none⟩ = (CC l[i])[r]? := fun i hi r hr => by
   rw [h.cellAt (i * 10 + r) (by omega), flC_get l i hi r hr]
  refine ⟨_, cap, rfl, hc, fun i hi => ⟨g, rfl, ?_, fun j u hj => ?_⟩⟩
  · have := hcell i hi 0 (by omega);rw [Nat.add_zero] at this;rw [this];simp
  ·
   have hl : j < 10 := by
    have := (List.getElem?_eq_some_iff.1 hj).1;simpa using this
   rw [hcell i hi j hl];simpa using hj
theorem CsIn.below {w w' : World} {ae : Option Addr} {l : List Caps} (h : CsIn w ae l) (hb : Below w.heap.size w w') : CsIn w' ae l := fun i hi => by
 obtain ⟨g, h1, h2, h3⟩ := h i hi;exact ⟨g, h1, (hb.cell (lt_cell h2)).trans h2, fun j u hj => (hb.cell (lt_cell (h3 j u hj))).trans (h3 j u hj)⟩
end Go.Proofs.YthpiapemjadgdaaGreatDoor.Mt
namespace Go.Proofs.YthpiapemjadgdaaGreatDoor.Rx
open Go.RowKit Go.Shelf
theorem node_any7 (w0 : World) (b : Nat) (hL : Lay w0) : ∀ left : Nat, left ≤ 1000 → Below2 false w0 b left
 | 0, _ => fun r v w h hr hA => by cases hA
 | left + 1, hle => by
  have IH := node_any7 w0 b hL left (by omega);rintro ⟨s, l, g, bad⟩ v w h hr hA;obtain ⟨rfl, hl, c, t, hs, hc⟩ := nodeA_out hA;have h1 := hr.len;have h2 := hr.g0;have h3 := hr.g1;dsimp only at h1 h2 h3;rcases hc with hc | hc | ⟨hc0, hc | hc⟩
  · exact node_s1 _ w0 b left _ c t s l g v w hs h hL h1 hl h2 h3 rfl (by omega) IH hA hc
  · exact node_m1 _ w0 b left _ c t s l g v w hs h hL h1 hl h2 h3 rfl (by omega) IH hA hc
  · cases hc0
  · cases hc0
open St (Wf word zeroW Tab SV SV_eq bytesL bytes_any)
open Ad (dec_len)
open Tr
theorem text_good7 (ao : Option Addr) (c : Nat) (t : Tr) (hg : Good t) (w : World) (h : Ns w (.slice ao (t.nodes 0).length c) (t.nodes 0)) (hw : ∀ n ∈ t.nodes 0, Wf n.s) (hL : Lay w) (hkd : ∀ (k : Nat) (h : k < (t.nodes 0).length), ((t.nodes 0)[k].k = 1 ∧ k = 0) ∨ (t.nodes 0)[k].k = 6) :
  Calls Tryz.prog 61 #[.slice ao (t.nodes 0).length c] w fun e w' => e = .returned (S (textT t)) ∧ Below w.heap.size w w' := by
 obtain ⟨i0, hi, hz0, hz1, hz2⟩ := info_parts infoStr;have HNS := Hd h;have HL := Hd hL;have HM0 := Hd (may_any ao c _ w h hw);(have hmay : mayL (t.nodes 0) = true := by unfold mayL; rw [patOf_good hg]; rfl);rw [hmay] at HM0;have hsz := hg.2.1;have hps := size_pos t;obtain ⟨st0, hst⟩ := (ordered_iff (t.nodes 0)).2 ⟨t, hg.1, rfl⟩;have HEND := Hd (show tx (t.nodes 0) (t.nodes 0).length = [textT t] from by rw [nodes_len]; exact tx_end hg);have HOR := Hd hst;have hlen := nodes_len t 0;have HKD := Hd hkd;clear h hL hmay hst hkd;generalize ht : textT t = tt at *;(have hl : (t.nodes 0).length ≤ 120 := by omega);(have hl0 : 0 < (t.nodes 0).length := by omega);clear hlen hsz hps hg ht;generalize t.nodes 0 = l at *;go_enter Tryz.func61, Tryz.ntmps61;go_wp2_with (go_at_call 27; refine HM0.out.mono ?_; rintro e w0 ⟨rfl, hb⟩; have HB0 := Hd hb; clear hb);go_loopw [3, 16] (fun v i wr => ∃ (k : Nat), k ≤ l.length ∧ i = .int .i64 (k : Nat) ∧ Hid (k = 0 → v = .slice none 0 0) ∧ Hid (wr.ownsRow w.heap.size 9 1 v (tx l k).length ((tx l k).map S)) ∧ Hid (Below w.heap.size w wr)) (fun _ i _ => l.length - (intOf i).toNat);(case atStart => exact ⟨0, Nat.zero_le _, rfl, Hd (fun _ => rfl), Hd (World.ownsRow_nil _ _ _ _), HB0⟩);case round =>
  clear HB0;obtain ⟨k, hk, rfl, HV, HO, HB⟩ := hrel;by_cases hlt : k < l.length
  ·
   obtain ⟨B0, o0, rfl, q0, q1, q2, q3, q4, q5, q6, q7, q8, q9⟩ := (HNS.out.below HB.out).at hlt;obtain ⟨ho, hpa, htx, hfl, hXk⟩ := tx_step HOR.out hlt;have hwn : Wf l[k].s := hw _ (List.getElem_mem _);have HX1 := Hd htx;clear htx;generalize tx l k = X at *;have hkk := HKD.out k hlt;generalize hn : l[k] = n at *;(have hlt' : ((k : Nat) : Int) < ((l.length : Nat) : Int) := by omega);(have CPa := fun W => parts_any n W);clear hn hw;(have hp2 : parts n ≤ 2 := by unfold parts; split; omega; split <;> omega);obtain ⟨bo, cap, rfl⟩ : ∃ bo cap, u3 = .slice bo X.length cap := by
    rcases own_forms HO.out with ⟨rfl, h0⟩ | ⟨g, cap, rfl, _⟩
    · exact ⟨none, 0, by rw [h0]⟩
    · exact ⟨_, _, rfl⟩
   have HBN := ((Below.refl wr.heap.size wr).alloc (Nat.le_refl _) (Obj.cells (NC n) 48));have HNB : NB (wr.alloc (Obj.cells (NC n) 48)) wr.heap.size n := heap_alloc_new _ _;have HH0 := Hd (NB.held (w0 := wr) HNB HBN);clear HNB HBN;obtain ⟨P, hP⟩ : ∃ P, P = parts n := ⟨_, rfl⟩;obtain ⟨m, hm⟩ : ∃ m, X.length = m + P := ⟨X.length - P, by omega⟩;rw [← hP, show X.length - P = m by omega] at HX1;rw [← hP] at CPa hp2 hpa;(have hsub : IntKind.i64.wrap (((X.length : Nat) : Int) - (P : Int)) = ((m : Nat) : Int) := by rw [IntKind.wrap_i64]; omega);have HM := Hd hm;(have hm0 : (0 : Int) ≤ ((m : Nat) : Int) := by omega);(have hm1 : ((m : Nat) : Int) ≤ ((X.length : Nat) : Int) := by omega);(have hm2 : m ≤ X.length := by omega);(have HLW := fun (W : World) (hb : Below wr.heap.size wr W) => HL.out.below (HB.out.trans (hb.mono HB.out.size)));have HLW := Hd HLW;have hbl := flat_drop X m;have HFL := Hd hfl;obtain ⟨b, hb⟩ : ∃ b, b = (X.drop m).flatten := ⟨_, rfl⟩;rw [← hb] at HX1;(have hbl : b.length ≤ 100000 := by rw [hb]; omega);have HBE := Hd hb;have HP := Hd hP;clear hb hP hfl;(have hml : m ≤ 120 := by omega);have hcase : (n.k = 1 ∧ k = 0) ∨ (n.k = 6 ∧ 0 ≤ n.mn ∧ n.mn ≤ 255 ∧ -1 ≤ n.mx ∧ n.mx ≤ 255) := by
    unfold OneN at ho;omega
   clear ho hkk;rcases hcase with ⟨hq, hq2⟩ | ⟨hq, hq1, hq2, hq3, hq4⟩
   ·
    skip
    (have hkj : n.k = 1 := by omega);(have t0 : (n.k == 0) = false := by rw [beq_eq_false_iff_ne]; omega);(have t1 : (n.k == 1) = true := by rw [beq_iff_eq]; omega);rw [show nodeS n b = (91 :: ((bytesL n.s).flatMap hexB ++ [93])) from by unfold nodeS; rw [if_neg (by omega)]; rw [if_pos hkj]] at HX1;(have hP0 : P = 0 := by rw [HP.out]; unfold parts; rw [if_neg (by omega), if_neg (by omega)]);subst hP0;clear HP hkj hq;have CJ := Hd (fun (W : World) (_ : Below wr.heap.size wr W) (a : Option Addr) (c : Nat) => Tryz.strings_Join_none a c ⟨#[]⟩ W);have hv := HV.out hq2;clear hq2 HV;(have h0 : X.length = 0 := by simp only [Value.slice.injEq] at hv; exact hv.2.1);(obtain ⟨rfl, h00, rfl⟩ : bo = none ∧ X.length = 0 ∧ cap = 0 := by simpa using hv);(obtain rfl : m = 0 := by omega);obtain rfl : X = [] := List.length_eq_zero_iff.1 h0;clear hv h0 h00 hm HM;have CB := Hd (fun (W : World) (hb : Below wr.heap.size wr W) => by
     have h1 := bytes_any n.s W hwn (HLW.out W hb).tl (HLW.out W hb).tab;rw [SV_eq hwn] at h1;exact h1)
    (have hbs : (bytesL n.s).length ≤ 256 := by rw [St.bytesL_len]; exact St.bytesN_len n.s);generalize bytesL n.s = bs at *;(have hszb : (ByteArray.mk bs.toArray).size = bs.length := by simp [ByteArray.size]);go_wp2_with (first
     | (go_at_call 86; refine (CPa _).mono ?_; rintro e w1 ⟨rfl, hb1⟩; have HH1 := Hd (HH0.out.below hb1); clear hb1; obtain ⟨r0, r1, r2, r3, r4, r5, r6, r7, r8, r9, _⟩ := HH1.out)
     | (go_at_call 87; refine (CJ.out _ HH1.out.bel _ _).mono ?_; rintro e w2 ⟨rfl, rfl⟩; have HH2 := Hd HH1.out; obtain ⟨s0, s1, s2, s3, s4, s5, s6, s7, s8, s9, _⟩ := HH2.out; clear HH1; have HOm := Hd (own_below (HO.out) (HH2.out.bel)))
     | (go_at_call 88; refine (CB.out _ HH2.out.bel).mono ?_; rintro e w3 ⟨rfl, hb3⟩; have HH3 := Hd (HH2.out.below hb3); have HOm := Hd (own_below HOm.out hb3); clear hb3))
    have hcv := run_bytes_of_string (P := Tryz.prog) w3 9 94 5 ⟨bs.toArray⟩ Tryz.underlying9 Tryz.underlying94 Tryz.underlying5;rw [hszb] at hcv;generalize grownCap w3 bs.length 0 5 = gc at hcv;have HC := Hd (bytes_cell w3 bs gc ((bytesRow ⟨bs.toArray⟩ gc).size, (bytesRow ⟨bs.toArray⟩ gc).size + 1));have HBa := Hd ((Below.refl w3.heap.size w3).alloc (Nat.le_refl _) (.cells (bytesRow ⟨bs.toArray⟩ gc) 5 ((bytesRow ⟨bs.toArray⟩ gc).size, (bytesRow ⟨bs.toArray⟩ gc).size + 1))).drew;(have hszw : w3.heap.size < (w3.alloc (.cells (bytesRow ⟨bs.toArray⟩ gc) 5 ((bytesRow ⟨bs.toArray⟩ gc).size, (bytesRow ⟨bs.toArray⟩ gc).size + 1))).drew.heap.size := by simp);generalize Obj.cells (bytesRow ⟨bs.toArray⟩ gc) 5 ((bytesRow ⟨bs.toArray⟩ gc).size, (bytesRow ⟨bs.toArray⟩ gc).size + 1) = ob at *;have HSW := Hd hszw;clear hszw;rw [hcv];clear hcv;go_wp2;have HCd : Hid (∀ i (h : i < bs.length), ((w3.alloc ob).drew).cell? ⟨w3.heap.size, i, none⟩ = some (.int .u8 (bs[i].toNat : Int))) := Hd HC.out;clear HC;generalize hw4 : (w3.alloc ob).drew = w4 at *;have HH4 := Hd (HH3.out.below HBa.out);have HOm4 := Hd (own_below HOm.out HBa.out);go_loopw [8, 40] (fun s i wr2 => ∃ (j : Nat), j ≤ bs.length ∧ i = .int .i64 (j : Nat) ∧ s = S (91 :: (bs.take j).flatMap hexB) ∧ Hid (Below w4.heap.size w4 wr2)) (fun _ i _ => bs.length - (intOf i).toNat);(case atStart => exact ⟨0, Nat.zero_le _, rfl, rfl, Hd (Below.refl _ _)⟩);case round =>
     obtain ⟨j, hj, rfl, rfl, HB2⟩ := hrel;by_cases hjl : j < bs.length
     ·
      (have hjl' : ((j : Nat) : Int) < ((bs.length : Nat) : Int) := by omega);have hcl := (HB2.out.cell (p := ⟨w3.heap.size, j, none⟩) HSW.out).trans (HCd.out j hjl);have hst : (91 :: (bs.take j).flatMap hexB).length ≤ 513 := by
       have hx : ∀ l : List UInt8, (l.flatMap hexB).length = 2 * l.length := by
        intro l
        induction l with
        | nil => rfl
        | cons b r ih => rw [List.flatMap_cons, List.length_append, ih]; simp [hexB]; omega
       rw [List.length_cons, hx, List.length_take];omega
      have HNX := Hd (show 91 :: (bs.take (j + 1)).flatMap hexB = (91 :: (bs.take j).flatMap hexB) ++ [hexd (bs[j].toNat / 16), hexd (bs[j].toNat % 16)] from by
       rw [List.take_succ_eq_append_getElem hjl, List.flatMap_append]; simp [hexB])
      have hdl := UInt8.toNat_lt bs[j];have HLZ := Hd (fun (W : World) (hb : Below wr.heap.size wr W) => HLW.out W (HH4.out.bel.trans ((HB2.out.trans (hb.mono HB2.out.size)).mono HH4.out.bel.size)));generalize bs[j] = d at *;generalize 91 :: (bs.take j).flatMap hexB = z at *;have CF1 := Hd (fun (W : World) (hb : Below wr.heap.size wr W) => fmt16 (d.toNat / 16) (by omega) W (HLZ.out W hb).tab (HLZ.out W hb).tl);have CF2 := Hd (fun (W : World) (hb : Below wr.heap.size wr W) => fmt16 (d.toNat % 16) (by omega) W (HLZ.out W hb).tab (HLZ.out W hb).tl);generalize hexd (d.toNat / 16) = x1 at *;generalize hexd (d.toNat % 16) = x2 at *;(have c1 := fun w => run_string_add_lists (P := Tryz.prog) w [x1] [x2] (by simp) (by simp));(have c2 := fun w => run_string_add_lists (P := Tryz.prog) w z [x1, x2] (by omega) (by simp));go_wp2_with (first
       | (go_at_call 89; have hb0 := CF1.out _ (Below.refl _ _); clear CF1; refine hb0.mono ?_; rintro e w5 ⟨rfl, hb5⟩; have HB5 := Hd hb5; clear hb0 hb5)
       | (go_at_call 89; refine (CF2.out _ HB5.out).mono ?_; rintro e w6 ⟨rfl, hb6⟩; have HB6 := Hd (HB5.out.trans (hb6.mono HB5.out.size)); clear hb6))
      go_roundw;(case rel => exact ⟨j + 1, by omega, by go_num, by rw [HNX.out], Hd (HB2.out.trans (HB6.out.mono HB2.out.size))⟩);case measure => simp [intOf]; omega
     ·
      (obtain rfl : j = bs.length := by omega);have HH5 := Hd (HH4.out.below HB2.out);have HOm := Hd (own_below HOm4.out HB2.out);have hst : (91 :: bs.flatMap hexB).length ≤ 513 := by
       have hx : ∀ l : List UInt8, (l.flatMap hexB).length = 2 * l.length := by
        intro l
        induction l with
        | nil => rfl
        | cons b r ih => rw [List.flatMap_cons, List.length_append, ih]; simp [hexB]; omega
       rw [List.length_cons, hx];omega
      rw [List.take_length];rw [show 91 :: (bs.flatMap hexB ++ [93]) = (91 :: bs.flatMap hexB) ++ [93] from by simp] at HX1;generalize 91 :: bs.flatMap hexB = z at *;(have c1 := fun w => run_string_add_lists (P := Tryz.prog) w z [93] (by omega) (by decide));go_wp2_with (have hzz := HH5; clear hzz; at_builtin; refine wpList_append_own _ rfl _ _ 131 rfl w.heap.size 9 i0 _ 1 16 Tryz.underlying131 hi hz0 hz1 hz2 rfl (by decide) _ _ _ rfl (HOm.out.alloc _) ⟨_, 0, none⟩ 1 1 [S (z ++ [93])] rfl rfl (one_cell (heap_alloc_new _ _)) (one_str _) (by unfold maxLen; omega) (by omega) (by have h1 := HB.out.size; have h2 := HH5.out.bel.size; simp; omega) ?_);rintro v' w4 hown hgrow -;have HB4 := Hd (((HB.out.trans (HH5.out.bel.mono HB.out.size)).alloc (by have h1 := HB.out.size; have h2 := HH5.out.bel.size; omega) _).grown hgrow (by have h1 := HB.out.size; have h2 := HH5.out.bel.size; simp; omega) (own_ge HOm.out));have HO4 : Hid (w4.ownsRow w.heap.size 9 1 v' (tx l (k + 1)).length ((tx l (k + 1)).map S)) := Hd (by rw [HX1.out]; simpa using hown);obtain ⟨bo', n', cap', rfl⟩ : ∃ bo' n' cap', v' = .slice bo' n' cap' := by
       rcases own_forms hown with ⟨rfl, _⟩ | ⟨g, cap, rfl, _⟩
       · exact ⟨_, _, _, rfl⟩
       · exact ⟨_, _, _, rfl⟩
      clear hown hgrow;go_wp2;go_roundw;(case rel => exact ⟨k + 1, by omega, by go_num, Hd (fun q => absurd q (Nat.succ_ne_zero _)), HO4, HB4⟩);case measure => simp [intOf]; omega
   ·
    skip
    (have hkj : n.k = 6 := by omega);(have t0 : (n.k == 0) = false := by rw [beq_eq_false_iff_ne]; omega);(have t1 : (n.k == 1) = false := by rw [beq_eq_false_iff_ne]; omega);(have t2 : (n.k == 2) = false := by rw [beq_eq_false_iff_ne]; omega);(have t3 : (n.k == 3) = false := by rw [beq_eq_false_iff_ne]; omega);(have t4 : (n.k == 4) = false := by rw [beq_eq_false_iff_ne]; omega);(have t5 : (n.k == 5) = false := by rw [beq_eq_false_iff_ne]; omega);(have t6 : (n.k == 6) = true := by rw [beq_iff_eq]; omega);rw [show nodeS n b = (42 :: (Lib.itoa n.mn ++ 44 :: (Lib.itoa n.mx ++ 59 :: b))) from by unfold nodeS; rw [if_neg (by omega)]; rw [if_neg (by omega)]; rw [if_neg (by omega)]; rw [if_neg (by omega)]; rw [if_neg (by omega)]; rw [if_neg (by omega)]; rw [if_pos hkj]] at HX1;(have hP0 : P = 1 := by rw [HP.out]; unfold parts; rw [if_neg (by omega), if_pos (by omega)]);subst hP0;clear HP hkj hq;obtain ⟨g, cap', rfl, rfl, hcap⟩ : ∃ g cap', bo = some ⟨g, 0, none⟩ ∧ cap = cap' ∧ X.length ≤ cap' := by
     rcases own_forms HO.out with ⟨hv, h0⟩ | ⟨g, cap', hv, hcap⟩
     · exfalso; omega
     · simp only [Value.slice.injEq, true_and] at hv; exact ⟨g, cap', hv.1, hv.2, hcap⟩
    (have hcap' : ((X.length : Nat) : Int) ≤ (cap : Int) := by omega);have CJ := Hd (fun (W : World) (hb : Below wr.heap.size wr W) => by
     have h1 := join_own X w.heap.size g cap m 1 (cap - m) W (own_below HO.out hb) hm (by omega) (by omega) (by have := HFL.out; omega);rw [← HBE.out] at h1;exact h1)
    have hi10 := itoa_len (n := n.mn) (by omega) (by omega);have hi11 := itoa_len (n := n.mx) (by omega) (by omega);generalize hx : Lib.itoa n.mn = x at *;generalize hy : Lib.itoa n.mx = y at *;have HIX := Hd hx;have HIY := Hd hy;clear hx hy;(have c1 := fun w => run_string_add_lists (P := Tryz.prog) w [42] x (by decide) (by omega));(have c2 := fun w => run_string_add_lists (P := Tryz.prog) w (42 :: x) [44] (by simp; omega) (by decide));(have c3 := fun w => run_string_add_lists (P := Tryz.prog) w (42 :: (x ++ [44])) y (by simp; omega) (by omega));(have c4 := fun w => run_string_add_lists (P := Tryz.prog) w (42 :: (x ++ 44 :: y)) [59] (by simp; omega) (by decide));(have c5 := fun w => run_string_add_lists (P := Tryz.prog) w (42 :: (x ++ 44 :: (y ++ [59]))) b (by simp; omega) (by omega));go_wp2_with (first
     | (go_at_call 86; refine (CPa _).mono ?_; rintro e w1 ⟨rfl, hb1⟩; have HH1 := Hd (HH0.out.below hb1); clear hb1; obtain ⟨r0, r1, r2, r3, r4, r5, r6, r7, r8, r9, _⟩ := HH1.out)
     | (go_at_call 87; refine (CJ.out _ HH1.out.bel).mono ?_; rintro e w2 ⟨rfl, hb2⟩; have HH2 := Hd (HH1.out.below hb2); clear hb2; obtain ⟨s0, s1, s2, s3, s4, s5, s6, s7, s8, s9, _⟩ := HH2.out; clear HH1; have HOm := Hd (own_below (own_take HO.out hm2) (HH2.out.bel))))
    have HOm := Hd (own_below HOm.out (Below.refl w2.heap.size w2).drew);(refine Tk.g (fun w' => NH wr w' wr.heap.size n) (by exact NH.drew HH2.out) fun hH => ?_);clear HH2;generalize w2.drew = w3 at *;refine Tk.t 0 ?_;refine Tk.t 1 ?_;refine Tk.t 5 ?_;refine Tk.t 6 ?_;refine Tk.t 10 ?_;refine Tk.o 2 (fun K hK => ?_);go_simp
    (go_at_call 59; refine (itoa_any n.mn (by omega) (by omega) _ (HLW.out _ hH.bel)).mono ?_; rintro e w5 ⟨rfl, hbl⟩; have HOm := Hd (own_below HOm.out hbl); rw [HIX.out])
    refine hK.out _ _ ?_ (fun hH => Tk.w ?_)
    · (exact NH.below hH hbl)
    clear hK K;refine Tk.t 3 ?_;refine Tk.t 4 ?_;refine Tk.o 7 (fun K hK => ?_);go_simp
    (go_at_call 59; refine (itoa_any n.mx (by omega) (by omega) _ (HLW.out _ hH.bel)).mono ?_; rintro e w6 ⟨rfl, hbl⟩; have HOm := Hd (own_below HOm.out hbl); rw [HIY.out])
    refine hK.out _ _ ?_ (fun hH => Tk.w ?_)
    · (exact NH.below hH hbl)
    clear hK K;refine Tk.t 8 ?_;refine Tk.t 9 ?_;refine Tk.t 11 ?_;refine Tk.t 12 ?_;refine Tk.d ?_;have HH3 := Hd hH;clear hH;go_wp2_with (have hzz := HH3; clear hzz; at_builtin; refine wpList_append_own _ rfl _ _ 131 rfl w.heap.size 9 i0 _ 1 16 Tryz.underlying131 hi hz0 hz1 hz2 rfl (by decide) _ _ _ rfl (HOm.out.alloc _) ⟨_, 0, none⟩ 1 1 [S (42 :: (x ++ 44 :: (y ++ 59 :: b)))] rfl rfl (one_cell (heap_alloc_new _ _)) (one_str _) (by unfold maxLen; omega) (by omega) (by have h1 := HB.out.size; have h2 := HH3.out.bel.size; simp; omega) ?_);rintro v' w4 hown hgrow -;have HB4 := Hd (((HB.out.trans (HH3.out.bel.mono HB.out.size)).alloc (by have h1 := HB.out.size; have h2 := HH3.out.bel.size; omega) _).grown hgrow (by have h1 := HB.out.size; have h2 := HH3.out.bel.size; simp; omega) (own_ge HOm.out));have HO4 : Hid (w4.ownsRow w.heap.size 9 1 v' (tx l (k + 1)).length ((tx l (k + 1)).map S)) := Hd (by rw [HX1.out]; simpa [HM.out, List.map_take] using hown);obtain ⟨bo', n', cap', rfl⟩ : ∃ bo' n' cap', v' = .slice bo' n' cap' := by
     rcases own_forms hown with ⟨rfl, _⟩ | ⟨g, cap, rfl, _⟩
     · exact ⟨_, _, _, rfl⟩
     · exact ⟨_, _, _, rfl⟩
    clear hown hgrow;go_wp2;go_roundw;(case rel => exact ⟨k + 1, by omega, by go_num, Hd (fun q => absurd q (Nat.succ_ne_zero _)), HO4, HB4⟩);case measure => simp [intOf]; omega
  ·
   (obtain rfl : k = l.length := by omega);rw [HEND.out] at HO;obtain ⟨g, cap, rfl, hcap⟩ : ∃ g cap, u3 = .slice (some ⟨g, 0, none⟩) 1 cap ∧ 1 ≤ cap := by
    rcases own_forms HO.out with ⟨rfl, h0⟩ | ⟨g, cap, rfl, hc⟩
    · simp at h0
    · exact ⟨g, cap, rfl, by simpa using hc⟩
   have hc0 := own_cell' (m := 0) HO.out (by simp);go_wp2;go_ret;exact ⟨by rfl, HB.out⟩
open St (Wf word zeroW Tab wf_two wf_orL wf_ofL wf_zero orL ofL)
theorem parse_any7 (s : List UInt8) (w : World) (hL : Lay w) (hs : s.length ≤ 100000) (t : Tr) (hg : Good t) (ht0 : textT t = s) (hp : parseL s = some (t.nodes 0)) (hA : nodeA false 120 ⟨s, [], 0, false⟩ = true) (hkd : ∀ (k : Nat) (h : k < (t.nodes 0).length), ((t.nodes 0)[k].k = 1 ∧ k = 0) ∨ (t.nodes 0)[k].k = 6) :
  Calls Tryz.prog 38 #[S s] w (ParseR w s) := by
 have hq0 : RW w w.heap.size ⟨s, [], 0, false⟩ (.slice none 0 0) (w.alloc (.cells #[S s, .slice none 0 0, E 0, .bool false] 112)) :=
  ⟨heap_alloc_new _ _, World.ownsRow_nil _ _ _ _, (by intro q; cases q), Nat.le_refl _, (Below.refl _ _).alloc (Nat.le_refl _) _⟩
 have hn9 := (node_any7 w w.heap.size hL 120 (by decide) ⟨s, [], 0, false⟩ _ _ hq0 ⟨by simpa using hs, Int.le_refl _, by show (0 : Int) + ((s.length : Nat) : Int) ≤ 100000; omega⟩ hA);unfold NodeAns at hn9;have HN := Hd hn9;clear hn9 hA;have hwf := wf_node 120 ⟨s, [], 0, false⟩ (by intro n hn; cases hn);have hP := hp;unfold parseL at hP;dsimp only at hP;split at hP;(case isFalse => cases hP);case isTrue hc =>
  obtain ⟨hc1, hc2, hc3⟩ := hc;have hPl := Option.some.inj hP;clear hP hc2 hc3;generalize nodeP 120 ⟨s, [], 0, false⟩ = p at *;obtain ⟨⟨rest, l, g, bad⟩, at0⟩ := p;dsimp only at hwf hPl hc1 HN;subst hPl;subst hc1;(have hm : mayL (t.nodes 0) = true := by unfold mayL; rw [patOf_good hg]; rfl);have HM := Hd (fun ao c W h => may_any ao c (t.nodes 0) W h hwf);rw [hm] at HM;have HT := Hd (fun ao c W h hl => text_good7 ao c t hg W h hwf hl hkd);rw [ht0] at HT;have HO := Hd hp;have HL := Hd hL;(have hq : (s == s) = true := by rw [beq_iff_eq]);clear hq0 hL hm hkd hp ht0 hg;generalize t.nodes 0 = l at *;go_enter Tryz.func38, Tryz.ntmps38;go_wp2_with (first
   | (go_at_call 60; refine HN.out.mono ?_; rintro e w1 ⟨v, rfl, hr, hk⟩; obtain ⟨ao, cap, rfl⟩ := own_slice hr.own; have HR := Hd hr; have HNS := Hd (own_ns hr.own); clear hr hk; obtain ⟨⟨c0, c1, c2, c3⟩, f0, f1, f2, f3⟩ := HR.out.cells; dsimp only at c0 c1 c2 c3)
   | (go_at_call 27; refine (HM.out _ _ _ HNS.out).mono ?_; rintro e w2 ⟨rfl, hb⟩; have HR2 := Hd (HR.out.below hb); have HNS2 := Hd (HNS.out.below hb); clear hb; obtain ⟨⟨d0, d1, d2, d3⟩, _, _, _, _⟩ := HR2.out.cells; dsimp only at d0 d1 d2 d3)
   | (go_at_call 61; refine (HT.out _ _ _ HNS2.out (HR2.out.lay HL.out)).mono ?_; rintro e w3 ⟨rfl, hb⟩; have HR3 := Hd (HR2.out.below hb); clear hb; obtain ⟨⟨g0, g1, g2, g3⟩, _, _, _, _⟩ := HR3.out.cells; dsimp only at g0 g1 g2 g3))
  go_ret2
  exact ⟨HR3.out.bel, Or.inr ⟨l, _, HO.out, rfl, HR3.out.own⟩⟩
end Go.Proofs.YthpiapemjadgdaaGreatDoor.Rx
namespace Go.Proofs.YthpiapemjadgdaaGreatDoor.Mt
open Go.RowKit Go.Shelf
open Rx
open Rx.Tr
open Go.Proofs.YthpiapemjadgdaaGreatDoor.Fn
open St (Wf word mem SV SV_eq ofL wf_ofL bytesL)
/-- The longest ones are in their places. -/
theorem fok_long (T : List UInt8) (t : Tr) : FOk T.length (longP T t) := by
 have key : ∀ i c, longP T t i = some c → CapsOk T.length c ∧ ∃ j, i ≤ j ∧ j ≤ T.length ∧ gr c 0 = some (i, j) := fun i c h => by
  obtain ⟨q, h1, h2, _⟩ := dn_some h;have hok := whole_ok (by omega) (by omega) h2;refine ⟨hok, i + q, by omega, by omega, ?_⟩;unfold wholeP at h2;cases hf : fitP T t i (i + q) nones with
  | none => rw [hf] at h2; cases h2
  | some a =>
   rw [hf] at h2;have e := Option.some.inj h2;rw [← e, gr_set (fit_ok t i (i + q) nones a (by omega) (by omega) (caps_none _) hf).1 (by decide)];simp
 refine ⟨fun i c h => (key i c h).1, fun i c h => ?_, fun i c h => ?_, fun i c h => ?_⟩
 · obtain ⟨_, j, _, _, e⟩ := key i c h;unfold from0; rw [e]
 · obtain ⟨_, j, _, _, e⟩ := key i c h;unfold from0 to0; rw [e]
 · obtain ⟨_, j, h1, h2, e⟩ := key i c h;unfold from0 to0; rw [e]; exact ⟨h1, h2⟩
def T7 : Tr := .times 0 (-1) (.set (ofL [97]))
def l7 : List Caps := [[some (0, 0), none, none, none, none, none, none, none, none, none], [some (1, 4), none, none, none, none, none, none, none, none, none], [some (5, 5), none, none, none, none, none, none, none, none, none]]
theorem t7_text : textT T7 = [42, 48, 44, 45, 49, 59, 91, 54, 49, 93] := by
 (have e0 : Lib.itoa 0 = [48] := by rw [itoa_digit (by decide) (by decide)]; rfl);have e1 : Lib.itoa (-1) = [45, 49] := by
  unfold Lib.itoa;rw [if_pos (by decide), show Int.natAbs (-1) = 1 from rfl, Lib.decDigits, dif_pos (by decide)];rfl
 simp only [T7, textT];rw [e0, e1, bytes_97];rfl
theorem t7_good : Rx.Good T7 := by
 refine ⟨?_, by decide, by decide⟩;unfold Rx.Whole;simp only [T7, Fine, Tr.rk];decide
theorem t7_sets : SetsOk T7 := wf_ofL _
theorem t7_all : allF (longP [98, 97, 97, 97, 99] T7) 5 = l7 := by decide +kernel
theorem t7_has : (firstF (longP [] T7) 0 0).isSome = true := by decide +kernel
theorem t7_node : nodeA false 120 ⟨[42, 48, 44, 45, 49, 59, 91, 54, 49, 93], [], 0, false⟩ = true := by decide +kernel
theorem t7_kinds : ∀ (k : Nat) (h : k < (T7.nodes 0).length), ((T7.nodes 0)[k].k = 1 ∧ k = 0) ∨ (T7.nodes 0)[k].k = 6 := by decide +kernel
theorem t7_len : (T7.nodes 0).length = 2 := rfl
theorem fshown_core (hna : NoneOk) (hlg : ∀ (ao : Option Addr) (c : Nat) (w : World), Ns w (.slice ao (T7.nodes 0).length c) (T7.nodes 0) → ∀ T : List UInt8, T.length ≤ 100000 → LongOk w (.slice ao (T7.nodes 0).length c) T (longP T T7)) (w : World) (hL : Lay w) :
  Calls Tryz.prog 13 #[] w fun e w' => e = .returned (.bool true) ∧ Below w.heap.size w w' := by
 have hp := parse_text t7_good t7_sets;rw [t7_text] at hp;have HP0 := parse_any7 [42, 48, 44, 45, 49, 59, 91, 54, 49, 93] w hL (by decide) T7 t7_good t7_text hp t7_node t7_kinds;unfold ParseR at HP0;rw [hp] at HP0;have HP := Hd HP0;(have hal := fun (g cap : Nat) (W : World) (h : Ns W (.slice (some ⟨g, 0, none⟩) (T7.nodes 0).length cap) (T7.nodes 0)) => all_any hna (some ⟨g, 0, none⟩) (T7.nodes 0).length cap [98, 97, 97, 97, 99] (by decide) (longP [98, 97, 97, 97, 99] T7) (fok_long _ _) W (hlg _ _ _ h _ (by decide)));rw [show ([98, 97, 97, 97, 99] : List UInt8).length = 5 from rfl, t7_all] at hal;(have hha := fun (g cap : Nat) (W : World) (h : Ns W (.slice (some ⟨g, 0, none⟩) (T7.nodes 0).length cap) (T7.nodes 0)) => has_any hna (.slice (some ⟨g, 0, none⟩) (T7.nodes 0).length cap) [] (by decide) (longP [] T7) W (hlg _ _ _ h _ (by decide)) true t7_has.symm);have hln := t7_len;have HCUT := Hd (fun W => cut_cap (T := [98, 97, 97, 97, 99]) (x := some (1, 4)) (by decide) ⟨by decide, by decide⟩ W);have HFRM := Hd (fun W => from_cap (N := 5) (i := 5) (j := 5) (by decide) ⟨by decide, by decide⟩ W);have HLN := Hd hln;generalize T7.nodes 0 = l at *;rw [hln] at hal hha;have HAL := Hd hal;have HHA := Hd hha;clear hal hha hln HP0 hp hL hlg hna;go_enter Tryz.func13, Tryz.ntmps13;go_wp2_with (first
  | (go_at_call 38; refine HP.out.mono ?_; rintro e w1 ⟨hb, hr⟩; rcases hr with ⟨q, _⟩ | ⟨l', v, hq, rfl, ho⟩; exact absurd q (by intro q; cases q); obtain rfl := Option.some.inj hq; have HB1 := Hd hb; have HNS := Hd (own_ns ho); obtain ⟨g, cap, rfl, hcap⟩ : ∃ g cap, v = .slice (some ⟨g, 0, none⟩) 2 cap ∧ 2 ≤ cap := (by rcases own_forms ho with ⟨_, h0⟩ | ⟨g, cap, hv, hc⟩; (have := HLN.out; omega); (rw [HLN.out] at hv hc; exact ⟨g, cap, hv, hc⟩)); clear hb ho hq hcap)
  | (go_at_call 19; refine (HAL.out g cap w1 HNS.out).mono ?_; rintro e w2 ⟨v, rfl, ho, hb⟩; obtain ⟨ae, cap2, rfl, hcap, hcs⟩ := caps_form ho; rw [show l7.length = 3 from rfl] at hcap ⊢; have HB2 := Hd (HB1.out.trans (hb.mono HB1.out.size)); have HNS2 := Hd (HNS.out.below hb); obtain ⟨g2, hg2, hy1, z1⟩ := hcs 1 (by decide); obtain ⟨g3, hg3, hy2, z2⟩ := hcs 2 (by decide); obtain rfl : g2 = g3 := (by rw [hg2] at hg3; simpa using hg3); subst hg2; rw [show gr (l7[1]'(by decide)) 0 = some (1, 4) from rfl] at hy1; rw [show gr (l7[2]'(by decide)) 0 = some (5, 5) from rfl] at hy2; clear hb ho hcs z1 z2 hg3)
  | (go_at_call 39; refine (HCUT.out _).mono ?_; rintro e w5 ⟨rfl, rfl⟩)
  | (go_at_call 22; refine (HFRM.out _).mono ?_; rintro e w5 ⟨rfl, rfl⟩)
  | (go_at_call 17; refine (HHA.out g cap _ HNS2.out).mono ?_; rintro e w6 ⟨rfl, hb⟩; have HB6 := Hd (HB2.out.trans (hb.mono HB2.out.size)); clear hb))
 go_ret;exact ⟨rfl, HB6.out⟩
theorem none_ok : NoneOk := fun W => none_any W
def FL (l : List Nd) (T : List UInt8) : Nat → Option Caps := match patOf l with
 | none => fun _ => none
 | some t => longP T t
theorem fl_ok (l : List Nd) (T : List UInt8) : FOk T.length (FL l T) := by
 unfold FL;cases patOf l with
 | none => exact ⟨fun i c h => absurd h (by simp), fun i c h => absurd h (by simp), fun i c h => absurd h (by simp), fun i c h => absurd h (by simp)⟩
 | some t => exact fok_long T t
theorem fl_long {l : List Nd} {ao : Option Addr} {c : Nat} {w : World} (h : Ns w (.slice ao l.length c) l) (hw : ∀ n ∈ l, Wf n.s) {T : List UInt8} (hT : T.length ≤ 100000) : LongOk w (.slice ao l.length c) T (FL l T) := fun W i hW hi => by
 cases hp : patOf l with
 | none =>
  (have e : FL l T i = none := by unfold FL; rw [hp]);rw [e];refine (Longest_no l ao c W (h.below hW) hw T i (Or.inl (by unfold mayL; rw [hp]; rfl))).mono ?_;rintro e w' ⟨rfl, hb⟩;exact ⟨rfl, hb⟩
 | some t =>
  (have e : FL l T i = longP T t i := by unfold FL; rw [hp]);rw [e];obtain ⟨rfl, hg⟩ := patOf_some hp;exact Longest_yes t hg (sets_nodes t 0 hw) ao c W (h.below hW) T hT i hi _ rfl
theorem fshown_any (w : World) (hL : Lay w) : Calls Tryz.prog 13 #[] w fun e w' => e = .returned (.bool true) ∧ Below w.heap.size w w' :=
 fshown_core none_ok (fun ao c w h T hT W i hW hi => Longest_yes T7 t7_good t7_sets ao c W (h.below hW) T hT i hi _ rfl) w hL
theorem sbounded_any (ao : Option Addr) (c : Nat) (l : List Nd) (w : World) (h : Ns w (.slice ao l.length c) l) (hl : l.length ≤ maxLen) (T : List UInt8) (R : Bool) (hR : R = boundedL 16 8 5 l T.length) :
  Calls Tryz.prog 29 #[.slice ao l.length c, S T] w fun e w' => e = .returned (.bool R) ∧ w = w' := by
 have HRR := Hd hR;clear hR;have HN := Hd h;have HL := Hd hl;clear h hl;go_enter Tryz.func29, Tryz.ntmps29;go_wp2;go_loopw [5, 6, 7] (fun nv rv iv wr => ∃ k : Nat, k ≤ l.length ∧ nv = .int .i64 (cntK l 6 k : Nat) ∧ rv = .int .i64 (cntK l 8 k : Nat) ∧ iv = .int .i64 (k : Nat) ∧ w = wr) (fun _ _ iv _ => l.length - (intOf iv).toNat);(case atStart => exact ⟨0, Nat.zero_le _, rfl, rfl, rfl, rfl⟩);case round =>
  obtain ⟨k, hk, rfl, rfl, rfl, rfl⟩ := hrel;by_cases hlt : k < l.length
  ·
   obtain ⟨b, o, rfl, hc⟩ := HN.out.at hlt;have q0 := hc.1;(have hlt' : (k : Int) < (l.length : Int) := by omega);(have hk0 : (0 : Int) ≤ (k : Int) := by omega);(have hwk : IntKind.i64.wrap ((k : Int) + 1) = (k : Int) + 1 := by rw [IntKind.wrap_i64]; have := HL.out; unfold maxLen at this; omega);have h6 := cnt_next l 6 hlt;have h8 := cnt_next l 8 hlt;have l6 := cnt_le l 6 k;have l8 := cnt_le l 8 k;obtain ⟨c6, hc6⟩ : ∃ c6, cntK l 6 k = c6 := ⟨_, rfl⟩;obtain ⟨c8, hc8⟩ : ∃ c8, cntK l 8 k = c8 := ⟨_, rfl⟩;rw [hc6] at h6 l6;rw [hc8] at h8 l8;rw [hc6, hc8];(have hw6 : IntKind.i64.wrap ((c6 : Int) + 1) = (c6 : Int) + 1 := by rw [IntKind.wrap_i64]; have := HL.out; unfold maxLen at this; omega);(have hw8 : IntKind.i64.wrap ((c8 : Int) + 1) = (c8 : Int) + 1 := by rw [IntKind.wrap_i64]; have := HL.out; unfold maxLen at this; omega);clear hc hc6 hc8;generalize (l[k]'hlt).k = kd at *;have H6 := Hd h6;have H8 := Hd h8;clear h6 h8 l6 l8;by_cases e6 : kd = 6
   · subst e6;go_wp2;go_roundw;(case rel => exact ⟨k + 1, by omega, by rw [H6.out]; simp, by rw [H8.out]; simp, by go_num, trivial⟩);case measure => simp [intOf]; omega
   ·
    (have hq6 : (kd == 6) = false := by rw [beq_eq_false_iff_ne]; exact e6);by_cases e8 : kd = 8
    · subst e8;go_wp2;go_roundw;(case rel => exact ⟨k + 1, by omega, by rw [H6.out]; simp, by rw [H8.out]; simp, by go_num, trivial⟩);case measure => simp [intOf]; omega
    · (have hq8 : (kd == 8) = false := by rw [beq_eq_false_iff_ne]; exact e8);have E6 := Hd e6;have E8 := Hd e8;clear e6 e8;go_wp2;go_roundw;(case rel => exact ⟨k + 1, by omega, by rw [H6.out, if_neg E6.out]; rfl, by rw [H8.out, if_neg E8.out]; rfl, by go_num, trivial⟩);case measure => simp [intOf]; omega
  ·
   (obtain rfl : k = l.length := by omega);have HB := Hd (show R = (decide (l.length ≤ 16) && (decide (T.length ≤ 8) && (decide (cntK l 8 l.length = 0) || (decide (cntK l 6 l.length ≤ 2) && decide (T.length ≤ 5))))) from HRR.out);generalize cntK l 6 l.length = c6 at *;generalize cntK l 8 l.length = c8 at *;(have hn1 : ¬ (l.length : Int) < (l.length : Int) := by omega);by_cases a1 : l.length ≤ 16
   ·
    (have b1 : (l.length : Int) ≤ 16 := by omega);have D1 := Hd (decide_eq_true a1);clear a1;by_cases a2 : T.length ≤ 8
    ·
     (have b2 : (T.length : Int) ≤ 8 := by omega);have D2 := Hd (decide_eq_true a2);clear a2;by_cases a3 : c8 = 0
     · (have b3 : ((c8 : Int) == 0) = true := by rw [a3]; rfl);have D3 := Hd (decide_eq_true a3);clear a3;go_wp2;go_ret;refine ⟨?_, rfl⟩;rw [HB.out, D1.out, D2.out, D3.out];(try rfl)
     ·
      (have b3 : ((c8 : Int) == 0) = false := by rw [beq_eq_false_iff_ne]; omega);have D3 := Hd (decide_eq_false a3);clear a3;by_cases a4 : c6 ≤ 2
      ·
       (have b4 : (c6 : Int) ≤ 2 := by omega);have D4 := Hd (decide_eq_true a4);clear a4;by_cases a5 : T.length ≤ 5
       · (have b5 : (T.length : Int) ≤ 5 := by omega);have D5 := Hd (decide_eq_true a5);clear a5;go_wp2;go_ret;refine ⟨?_, rfl⟩;rw [HB.out, D1.out, D2.out, D3.out, D4.out, D5.out];(try rfl)
       · (have b5 : ¬ (T.length : Int) ≤ 5 := by omega);have D5 := Hd (decide_eq_false a5);clear a5;go_wp2;go_ret;refine ⟨?_, rfl⟩;rw [HB.out, D1.out, D2.out, D3.out, D4.out, D5.out];(try rfl)
      · (have b4 : ¬ (c6 : Int) ≤ 2 := by omega);have D4 := Hd (decide_eq_false a4);clear a4;go_wp2;go_ret;refine ⟨?_, rfl⟩;rw [HB.out, D1.out, D2.out, D3.out, D4.out];(try rfl)
    · (have b2 : ¬ (T.length : Int) ≤ 8 := by omega);have D2 := Hd (decide_eq_false a2);clear a2;go_wp2;go_ret;refine ⟨?_, rfl⟩;rw [HB.out, D1.out, D2.out];(try rfl)
   · (have b1 : ¬ (l.length : Int) ≤ 16 := by omega);have D1 := Hd (decide_eq_false a1);clear a1;go_wp2;go_ret;refine ⟨?_, rfl⟩;rw [HB.out, D1.out];(try rfl)
end Go.Proofs.YthpiapemjadgdaaGreatDoor.Mt
