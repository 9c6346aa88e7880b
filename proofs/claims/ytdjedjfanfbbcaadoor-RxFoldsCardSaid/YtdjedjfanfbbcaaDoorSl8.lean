/- Sets of bytes: AppendSeq, Collect, Bytes. -/
import Derived.Test.YtdjedjfanfbbcaaDoorSl7
import Derived.RangeFuncBox
import Derived.Maps.AppendAt
namespace Go.Proofs.YtdjedjfanfbbcaaDoor.St
open Go.RowKit Go.Shelf
set_option linter.unusedVariables false
set_option linter.unusedSimpArgs false
attribute [local go_sem] Oper.semAt_some

theorem infoU8 : (Tryd.prog.info? 5).map (fun i => (i.zero, i.size, i.bytes)) = some (some (.int .u8 0), 1, 1) := by kernel_rfl
abbrev u8v (x : UInt8) : Value := .int .u8 (x.toNat : Int)

set_option maxRecDepth 100000 in
set_option maxHeartbeats 2000000 in
theorem append_any (B : Nat) (ws : List Nat) (w : World) (hw : Wf ws) (hB : B < w.heap.size) (hg : 0 < w.heap.size) (hS : SB w B ws) (hT : Tab w) :
    CallsIn Fence.wide 5 Tryd.prog 43 #[.slice none 0 0, .func (.func 44) #[] #[.pointer (some ⟨B, 0, none⟩)]] w fun e W' => ∃ v, e = .returned v ∧ W'.ownsRow w.heap.size 5 1 v (bytesL ws).length ((bytesL ws).map u8v) ∧ Below w.heap.size w W' := by
  obtain ⟨i0, hi, hz0, hz1, hz2⟩ := info_parts infoU8
  refine callsIn_of_wp_marks Tryd.func43 rfl trivial ?_ rfl
  simp only [Tryd.ntmps43, List.size_toArray, List.length_cons, List.length_nil, Nat.reduceAdd, Nat.reduceSub, Array.replicate_succ, Array.replicate_zero, List.push_toArray, List.append_toArray, List.nil_append, List.cons_append]
  have HS := Lib.hid hS
  have HT := Lib.hid hT
  clear hS hT
  gi_wp2
  have bO := Boxed.new w 45 (.slice none 0 0)
  have hB0 : Below w.heap.size w (w.alloc (.cells #[.slice none 0 0] 45)) := (Below.refl _ w).alloc (Nat.le_refl _) _
  refine wpIn_rangeFunc_ownG rfl (by omega) (gf := 44) (lb := #[.pointer (some ⟨B, 0, none⟩)]) rfl trivial (enters_of Tryd.func44 (by kernel_rfl) rfl)
    (all_stops 4 (by omega) B ws _ (Below w.heap.size) hw (by simp; omega) (by simp) ((hB0.block B hB).trans HS.out) (fun W hW => (HT.out.below hB0 hg).below hW (by simp)) (fun W W' hK hT => hT.below hK hg)) belowK_t (belowK_b (by simp)) (Below.refl _ _) (fun _ => rfl)
    (fun (pre : List UInt8) W => (∃ v, Boxed W w.heap.size 45 v ∧ W.ownsRow w.heap.size 5 1 v pre.length (pre.map u8v) ∧ True) ∧ Below w.heap.size w W)
    (fun _ _ _ => False)
    (OwnFrom.and (Own.from (holdsRow_own w.heap.size w.heap.size 45 5 1 (fun (pre : List UInt8) => pre.length) (fun (pre : List UInt8) => pre.map u8v) (fun (pre : List UInt8) v => True)) _) (ownFrom_below (Nat.le_refl _) (by simp)))
    (fun _ _ _ _ _ hs _ _ => hs)
    ⟨⟨_, bO, World.ownsRow_nil _ _ _ _, trivial⟩, hB0⟩
    (fun (x : UInt8) => { tmps := #[.slice none 0 0, .func (.func 44) #[] #[.pointer (some ⟨B, 0, none⟩)], .pointer (some ⟨w.heap.size, 0, none⟩), undef, .slice none 0 0, u8v x, .func (.func 44) #[] #[.pointer (some ⟨B, 0, none⟩)], u8v x, undef, undef, undef, undef, undef], defers := [] }) ?assign ?body ?done ?stop
  case assign =>
    intro l x W K hK
    gi_wp2
    exact hK
  case body =>
    rintro l pre x W ⟨⟨v, hv, hrow, _⟩, hB⟩ hlt
    have hc := hv.cell
    gi_wp2_with (gi_at_builtin; refine wpListIn_append_own _ rfl _ _ 45 rfl w.heap.size 5 i0 (.int .u8 0) 1 1 Tryd.underlying45 hi hz0 hz1 hz2 rfl (by decide) _ _ _ rfl (hrow.alloc _) ⟨W.heap.size, 0, none⟩ 1 1 [u8v x] rfl rfl (cell_one_new _ _ _) (by simp [Value.oneCell', u8v]) (Nat.le_trans hlt (by decide)) (by omega) (by have := hB.size; simp; omega) ?_; intro v' w1 hown' hgrow _; obtain ⟨g', cap', rfl⟩ := ownsRow_succ hown'; obtain ⟨hv1, hv2, hr2, hk2, hb2⟩ := hv.appended (by decide) hrow hB.size (Nat.le_refl _) hown' hgrow; have hc1 := hv1.cell; have hf1 := hv1.frozen)
    exact ⟨hk2.from _, hb2, ⟨_, hv2, by simpa using hr2, trivial⟩, hB.trans hb2⟩
  case done =>
    rintro D ys W hD rfl ⟨⟨v, hv, hrow, _⟩, hB⟩ hK
    have hc := hv.cell
    gi_wp2
    refine ⟨by simp, .inl ⟨_, _, rfl, run_takeDeferred hK, ?_⟩⟩
    exact ⟨_, results_tmp rfl _ _ _, v, rfl, ownsRow_putObj hrow _ hK rfl, hB.trans (belowK_b (w := w) (Nat.le_refl _) W D _ _ (by simp at hD; omega) hK rfl rfl)⟩
  case stop =>
    rintro D c pre W _ _ h _
    exact h.elim

theorem own_string {w : World} {base : Nat} {v : Value} {ws : List Nat} (h : w.ownsRow base 5 1 v (bytesL ws).length ((bytesL ws).map u8v)) :
    (convert 45 9 v).run Tryd.prog w = .ok (.string ⟨(bytesL ws).toArray⟩) w := by
  obtain ⟨_, ⟨rfl, h0⟩ | ⟨g, cap, cur, rfl, _, hg, hc, _, hs, ht⟩⟩ := h
  · have hn : bytesL ws = [] := List.length_eq_zero_iff.1 h0
    have := run_convert_bytes_nil (P := Tryd.prog) (w := w) 45 5 Tryd.underlying45 Tryd.underlying5 0 0 9 Tryd.underlying9
    rw [this, hn]; rfl
  · refine run_convert_bytes_back (P := Tryd.prog) w 45 9 5 ⟨g, 0, none⟩ cap (bytesL ws) Tryd.underlying45 Tryd.underlying5 Tryd.underlying9 ?_
    intro j hj
    have h1 := congrArg (·[j]?) ht
    simp only [Nat.mul_one, List.getElem?_take, hj, if_true, List.getElem?_map, Array.getElem?_toList] at h1
    rw [List.getElem?_eq_getElem hj] at h1
    rw [show (Addr.add ⟨g, 0, none⟩ j) = ⟨g, j, none⟩ from by simp [Addr.add]; exact Eq.symm, Lib.cell_of_heap hg]
    exact h1

set_option maxHeartbeats 400000 in
theorem collect_any (B : Nat) (ws : List Nat) (w : World) (hw : Wf ws) (hB : B < w.heap.size) (hg : 0 < w.heap.size) (hS : SB w B ws) (hT : Tab w) :
    Calls Tryd.prog 30 #[.func (.func 44) #[] #[.pointer (some ⟨B, 0, none⟩)]] w fun e W' => ∃ v, e = .returned v ∧ W'.ownsRow w.heap.size 5 1 v (bytesL ws).length ((bytesL ws).map u8v) ∧ Below w.heap.size w W' := by
  have HA := callsIn_wide.1 (append_any B ws w hw hB hg hS hT)
  clear hS hT
  go_enter Tryd.func30, Tryd.ntmps30
  go_wp2_with (go_at_call 43; refine HA.mono ?_; rintro e w' ⟨v, rfl, ho, hb⟩)
  go_ret
  exact ⟨_, rfl, ho, hb⟩
set_option maxHeartbeats 400000 in
theorem bytes_any (ws : List Nat) (w : World) (hw : Wf ws) (hg : 0 < w.heap.size) (hT : Tab w) :
    Calls Tryd.prog 20 #[SV ws] w fun e w' => e = .returned (.string ⟨(bytesL ws).toArray⟩) ∧ Below w.heap.size w w' := by
  have g0 := word_get hw (i := 0) (by omega)
  have g1 := word_get hw (i := 1) (by omega)
  have g2 := word_get hw (i := 2) (by omega)
  have g3 := word_get hw (i := 3) (by omega)
  have HSV := Lib.hid (SV_eq hw)
  have HT := Lib.hid hT
  clear hT
  go_enter Tryd.func20, Tryd.ntmps20
  go_wp2_with (first
    | (go_at_call 31; rw [← HSV.out]; refine (all_any ws _ hw).mono ?_; rintro e w' ⟨rfl, rfl⟩)
    | (go_at_call 30; refine (collect_any _ ws _ hw (by simp) (by simp) (two_new w _ _).2 (HT.out.below (((Below.refl w.heap.size w).alloc (Nat.le_refl _) _).alloc (by simp) _) hg)).mono ?_; rintro e w1 ⟨v, rfl, ho, hb⟩; have hcv := own_string ho))
  go_ret
  exact ⟨rfl, (((Below.refl w.heap.size w).alloc (Nat.le_refl _) _).alloc (by simp) _).trans (hb.mono (by simp; omega))⟩
end Go.Proofs.YtdjedjfanfbbcaaDoor.St
