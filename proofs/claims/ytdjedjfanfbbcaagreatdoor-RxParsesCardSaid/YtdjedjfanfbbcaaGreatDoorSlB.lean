/- Sets of bytes: the iterator's contract. Sets of bytes: AppendSeq, Collect, Bytes. Sets of bytes: Fold. What is in a folded set: plain facts. -/
import Derived.Test.YtdjedjfanfbbcaaGreatDoorSlA
import Derived.RangeFuncBox
import Derived.Maps.AppendAt
namespace Go.Proofs.YtdjedjfanfbbcaaGreatDoor.St
open Go.RowKit Go.Shelf
set_option linter.unusedVariables false
set_option linter.unusedSimpArgs false
attribute [local go_sem] Oper.semAt_some

theorem shl6 (k : Nat) (hk : k < 4) : True := trivial
set_option maxRecDepth 100000 in
set_option maxHeartbeats 2000000 in
theorem all_stops (n : Nat) (hn : 2 ≤ n) (B : Nat) (ws : List Nat) (w : World) (Kp : World → World → Prop) (hw : Wf ws) (hB : B < w.heap.size) (hg : 0 < w.heap.size) (hS : SB w B ws)
    (hT : ∀ W, Below w.heap.size w W → Tab W) (hKT : ∀ W W', Kp W W' → Tab W → Tab W') :
    SeqStopsK Fence.wide n Tryz.prog 69 #[.pointer (some ⟨B, 0, none⟩)] (fun x : UInt8 => #[.int .u8 (x.toNat : Int)]) Kp (fun xs => xs = bytesL ws) (fun _ => True) 256 w := fun l J Jx W hW hJ hJx hY h0 => by
  have hSW : SB W B ws := (hW.block B hB).trans hS
  have hTW := hT W hW
  have c0 := hSW.cell hw (i := 0) (by omega)
  have c1 := hSW.cell hw (i := 1) (by omega)
  have c2 := hSW.cell hw (i := 2) (by omega)
  have c3 := hSW.cell hw (i := 3) (by omega)
  clear hS hSW
  refine callsIn_of_wp Tryz.func69 rfl trivial ?_ rfl
  simp only [Tryz.ntmps69, List.size_toArray, List.length_cons, List.length_nil, Nat.reduceAdd, Nat.reduceSub, Array.replicate_succ, Array.replicate_zero, List.push_toArray, List.append_toArray, List.nil_append, List.cons_append]
  gi_wp2
  gi_loopw [3, 4, 6] (fun _ _ i wr => ∃ k : Nat, k ≤ 4 ∧ i = .int .i64 (k : Int) ∧ Tab wr ∧ ∃ pre : List UInt8, pre.map UInt8.toNat ++ tl ws k (4 - k) = bytesN ws ∧ J pre wr) (fun _ _ i _ => 4 - (intOf i).toNat)
  case atStart => exact ⟨0, Nat.zero_le _, rfl, hTW, [], tl_four ws, h0⟩
  case round =>
    obtain ⟨k, hk, rfl, hTr, pre, hpre, hJr⟩ := hrel
    by_cases hlt : k < 4
    · have hI : (k : Int) < 4 := by omega
      have hi := fun w => idx_word ws hlt w
      have HP := Lib.hid hpre
      clear hpre
      gi_wp2
      gi_loopw [4] (fun v wv => ∃ x : Nat, v = .int .u64 (x : Int) ∧ x < 2 ^ 64 ∧ Tab wv ∧ ∃ pre : List UInt8, pre.map UInt8.toNat ++ ((bl x).map (k * 64 + ·) ++ tl ws (k + 1) (4 - (k + 1))) = bytesN ws ∧ J pre wv) (fun v _ => (bl (intOf v).toNat).length)
      case atStart => exact ⟨word ws k, rfl, word_lt hw k, hTr, pre, by rw [← HP.out, show 4 - k = (4 - (k + 1)) + 1 from by omega, tl], hJr⟩
      case round =>
        clear HP hTr hJr pre
        obtain ⟨x, rfl, hx, hTv, pre, hpre, hJv⟩ := hrel
        have HP := Lib.hid hpre
        clear hpre
        by_cases hx0 : x = 0
        · subst hx0
          gi_wp2
          go_roundw
          case rel => exact ⟨k + 1, by omega, by go_num, hTv, pre, by rw [← HP.out, bl_zero]; rfl, hJv⟩
          case measure => simp [intOf]; omega
        · obtain ⟨hstep, hc⟩ := bl_step hx hx0
          have HST := Lib.hid hstep
          have hlen : pre.length < 256 := by
            have := bytesN_len ws
            have e := congrArg List.length HP.out
            rw [hstep] at e
            simp at e
            omega
          have hne : ((x : Int) != 0) = true := by simp; omega
          have htz := fun w => tz_any x hx hx0 w
          clear hstep
          generalize hcz : Lib.ctz 64 x = c at *
          have hcz' := Lib.hid hcz
          clear hcz
          obtain ⟨fn, tmps, assign, body, hy, hR⟩ := hY pre (UInt8.ofNat (k * 64 + c)) _ hJv hlen
          have hu := ofNat_toNat (n := k * 64 + c) (by omega)
          generalize UInt8.ofNat (k * 64 + c) = d at *
          rw [show ((d.toNat : Nat) : Int) = (k : Int) * 64 + (c : Int) from by omega] at hy
          have HU := Lib.hid hu
          clear hu
          gi_wp2
          refine ⟨trivial, fun h => (by cases h), ?_⟩
          refine (callsIn_wide.2 (htz _ hTv)).mono ?_
          rintro e w' ⟨rfl, rfl⟩
          gi_wp2
          refine ⟨fun h => (by cases h), hR.mono ?_⟩
          clear hy hR
          rintro e W' (⟨rfl, hJ', hk'⟩ | ⟨rfl, hJx'⟩)
          · gi_wp2
            have hand : bits BinOp.and IntKind.u64 (x : Int) ((x : Int) - 1) = ((x &&& (x - 1) : Nat) : Int) := by
              rw [show ((x : Int) - 1) = ((x - 1 : Nat) : Int) from by omega]
              exact u64_and_nat _ _ hx (by omega)
            go_roundw
            case rel =>
              refine ⟨x &&& (x - 1), by rw [hand], clear_lt hx, hKT _ _ hk' hTv, pre ++ [d], ?_, hJ'⟩
              rw [← HP.out, HST.out]; simp [HU.out]
            case measure =>
              rw [hand]
              simp only [intOf, Int.toNat_natCast]
              rw [HST.out]; simp
          · gi_wp2
            refine bodyPost_ret (results_none rfl _ _ _) rfl ?_
            exact ⟨⟨_, rfl⟩, .inr ⟨_, trivial, hJx'⟩⟩
    · have hk4 : k = 4 := by omega
      subst hk4
      have HP := Lib.hid hpre
      clear hpre
      gi_wp2
      go_end0
      exact ⟨⟨_, rfl⟩, .inl ⟨_, bytesL_of (by have := HP.out; simpa [tl] using this), hJr⟩⟩
end Go.Proofs.YtdjedjfanfbbcaaGreatDoor.St
namespace Go.Proofs.YtdjedjfanfbbcaaGreatDoor.St
open Go.RowKit Go.Shelf
set_option linter.unusedVariables false
set_option linter.unusedSimpArgs false
attribute [local go_sem] Oper.semAt_some

theorem infoU8 : (Tryz.prog.info? 5).map (fun i => (i.zero, i.size, i.bytes)) = some (some (.int .u8 0), 1, 1) := by kernel_rfl
abbrev u8v (x : UInt8) : Value := .int .u8 (x.toNat : Int)

set_option maxRecDepth 100000 in
set_option maxHeartbeats 2000000 in
theorem append_any (B : Nat) (ws : List Nat) (w : World) (hw : Wf ws) (hB : B < w.heap.size) (hg : 0 < w.heap.size) (hS : SB w B ws) (hT : Tab w) :
    CallsIn Fence.wide 5 Tryz.prog 68 #[.slice none 0 0, .func (.func 69) #[] #[.pointer (some ⟨B, 0, none⟩)]] w fun e W' => ∃ v, e = .returned v ∧ W'.ownsRow w.heap.size 5 1 v (bytesL ws).length ((bytesL ws).map u8v) ∧ Below w.heap.size w W' := by
  obtain ⟨i0, hi, hz0, hz1, hz2⟩ := info_parts infoU8
  refine callsIn_of_wp_marks Tryz.func68 rfl trivial ?_ rfl
  simp only [Tryz.ntmps68, List.size_toArray, List.length_cons, List.length_nil, Nat.reduceAdd, Nat.reduceSub, Array.replicate_succ, Array.replicate_zero, List.push_toArray, List.append_toArray, List.nil_append, List.cons_append]
  have HS := Lib.hid hS
  have HT := Lib.hid hT
  clear hS hT
  gi_wp2
  have bO := Boxed.new w 64 (.slice none 0 0)
  have hB0 : Below w.heap.size w (w.alloc (.cells #[.slice none 0 0] 64)) := (Below.refl _ w).alloc (Nat.le_refl _) _
  refine wpIn_rangeFunc_ownG rfl (by omega) (gf := 69) (lb := #[.pointer (some ⟨B, 0, none⟩)]) rfl trivial (enters_of Tryz.func69 (by kernel_rfl) rfl)
    (all_stops 4 (by omega) B ws _ (Below w.heap.size) hw (by simp; omega) (by simp) ((hB0.block B hB).trans HS.out) (fun W hW => (HT.out.below hB0 hg).below hW (by simp)) (fun W W' hK hT => hT.below hK hg)) belowK_t (belowK_b (by simp)) (Below.refl _ _) (fun _ => rfl)
    (fun (pre : List UInt8) W => (∃ v, Boxed W w.heap.size 64 v ∧ W.ownsRow w.heap.size 5 1 v pre.length (pre.map u8v) ∧ True) ∧ Below w.heap.size w W)
    (fun _ _ _ => False)
    (OwnFrom.and (Own.from (holdsRow_own w.heap.size w.heap.size 64 5 1 (fun (pre : List UInt8) => pre.length) (fun (pre : List UInt8) => pre.map u8v) (fun (pre : List UInt8) v => True)) _) (ownFrom_below (Nat.le_refl _) (by simp)))
    (fun _ _ _ _ _ hs _ _ => hs)
    ⟨⟨_, bO, World.ownsRow_nil _ _ _ _, trivial⟩, hB0⟩
    (fun (x : UInt8) => { tmps := #[.slice none 0 0, .func (.func 69) #[] #[.pointer (some ⟨B, 0, none⟩)], .pointer (some ⟨w.heap.size, 0, none⟩), undef, .slice none 0 0, u8v x, .func (.func 69) #[] #[.pointer (some ⟨B, 0, none⟩)], u8v x, undef, undef, undef, undef, undef], defers := [] }) ?assign ?body ?done ?stop
  case assign =>
    intro l x W K hK
    gi_wp2
    exact hK
  case body =>
    rintro l pre x W ⟨⟨v, hv, hrow, _⟩, hB⟩ hlt
    have hc := hv.cell
    gi_wp2_with (gi_at_builtin; refine wpListIn_append_own _ rfl _ _ 64 rfl w.heap.size 5 i0 (.int .u8 0) 1 1 Tryz.underlying64 hi hz0 hz1 hz2 rfl (by decide) _ _ _ rfl (hrow.alloc _) ⟨W.heap.size, 0, none⟩ 1 1 [u8v x] rfl rfl (cell_one_new _ _ _) (by simp [Value.oneCell', u8v]) (Nat.le_trans hlt (by decide)) (by omega) (by have := hB.size; simp; omega) ?_; intro v' w1 hown' hgrow _; obtain ⟨g', cap', rfl⟩ := ownsRow_succ hown'; obtain ⟨hv1, hv2, hr2, hk2, hb2⟩ := hv.appended (by decide) hrow hB.size (Nat.le_refl _) hown' hgrow; have hc1 := hv1.cell; have hf1 := hv1.frozen)
    exact ⟨hk2.from _, hb2, ⟨_, hv2, by simpa using hr2, trivial⟩, hB.trans hb2⟩
  case done =>
    rintro D ys W hD rfl ⟨⟨v, hv, hrow, _⟩, hB⟩ hK
    have hc := hv.cell
    gi_wp2
    refine ⟨by simp, .inl ⟨_, _, rfl, run_takeDeferred hK, ?_⟩⟩
    exact ⟨_, results_tmp rfl _ _ _, v, rfl, ownsRow_putObj hrow _ hK rfl, hB.trans (belowK_b (w := w) (Nat.le_refl _) W D _ _ (by simp at hD; omega) hK rfl rfl)⟩
  case stop =>
    rintro D c pre W _ _ h _
    exact h.elim

theorem own_string {w : World} {base : Nat} {v : Value} {ws : List Nat} (h : w.ownsRow base 5 1 v (bytesL ws).length ((bytesL ws).map u8v)) :
    (convert 64 9 v).run Tryz.prog w = .ok (.string ⟨(bytesL ws).toArray⟩) w := by
  obtain ⟨_, ⟨rfl, h0⟩ | ⟨g, cap, cur, rfl, _, hg, hc, _, hs, ht⟩⟩ := h
  · have hn : bytesL ws = [] := List.length_eq_zero_iff.1 h0
    have := run_convert_bytes_nil (P := Tryz.prog) (w := w) 64 5 Tryz.underlying64 Tryz.underlying5 0 0 9 Tryz.underlying9
    rw [this, hn]; rfl
  · refine run_convert_bytes_back (P := Tryz.prog) w 64 9 5 ⟨g, 0, none⟩ cap (bytesL ws) Tryz.underlying64 Tryz.underlying5 Tryz.underlying9 ?_
    intro j hj
    have h1 := congrArg (·[j]?) ht
    simp only [Nat.mul_one, List.getElem?_take, hj, if_true, List.getElem?_map, Array.getElem?_toList] at h1
    rw [List.getElem?_eq_getElem hj] at h1
    rw [show (Addr.add ⟨g, 0, none⟩ j) = ⟨g, j, none⟩ from by simp [Addr.add]; exact Eq.symm, Lib.cell_of_heap hg]
    exact h1

set_option maxHeartbeats 400000 in
theorem collect_any (B : Nat) (ws : List Nat) (w : World) (hw : Wf ws) (hB : B < w.heap.size) (hg : 0 < w.heap.size) (hS : SB w B ws) (hT : Tab w) :
    Calls Tryz.prog 51 #[.func (.func 69) #[] #[.pointer (some ⟨B, 0, none⟩)]] w fun e W' => ∃ v, e = .returned v ∧ W'.ownsRow w.heap.size 5 1 v (bytesL ws).length ((bytesL ws).map u8v) ∧ Below w.heap.size w W' := by
  have HA := callsIn_wide.1 (append_any B ws w hw hB hg hS hT)
  clear hS hT
  go_enter Tryz.func51, Tryz.ntmps51
  go_wp2_with (go_at_call 68; refine HA.mono ?_; rintro e w' ⟨v, rfl, ho, hb⟩)
  go_ret
  exact ⟨_, rfl, ho, hb⟩
set_option maxHeartbeats 400000 in
theorem bytes_any (ws : List Nat) (w : World) (hw : Wf ws) (hg : 0 < w.heap.size) (hT : Tab w) :
    Calls Tryz.prog 27 #[SV ws] w fun e w' => e = .returned (.string ⟨(bytesL ws).toArray⟩) ∧ Below w.heap.size w w' := by
  have g0 := word_get hw (i := 0) (by omega)
  have g1 := word_get hw (i := 1) (by omega)
  have g2 := word_get hw (i := 2) (by omega)
  have g3 := word_get hw (i := 3) (by omega)
  have HSV := Lib.hid (SV_eq hw)
  have HT := Lib.hid hT
  clear hT
  go_enter Tryz.func27, Tryz.ntmps27
  go_wp2_with (first
    | (go_at_call 52; rw [← HSV.out]; refine (all_any ws _ hw).mono ?_; rintro e w' ⟨rfl, rfl⟩)
    | (go_at_call 51; refine (collect_any _ ws _ hw (by simp) (by simp) (two_new w _ _).2 (HT.out.below (((Below.refl w.heap.size w).alloc (Nat.le_refl _) _).alloc (by simp) _) hg)).mono ?_; rintro e w1 ⟨v, rfl, ho, hb⟩; have hcv := own_string ho))
  go_ret
  exact ⟨rfl, (((Below.refl w.heap.size w).alloc (Nat.le_refl _) _).alloc (by simp) _).trans (hb.mono (by simp; omega))⟩
end Go.Proofs.YtdjedjfanfbbcaaGreatDoor.St
namespace Go.Proofs.YtdjedjfanfbbcaaGreatDoor.St
open Go.RowKit Go.Shelf
set_option linter.unusedVariables false
set_option linter.unusedSimpArgs false
attribute [local go_sem] Oper.semAt_some

def foldStep (s : List Nat) (b : UInt8) : List Nat := if 97 ≤ (b ||| 32).toNat ∧ (b ||| 32).toNat ≤ 122 then orL [s, ofL [b ||| 32, (b ||| 32) &&& 223]] else s
def foldW (ws : List Nat) : List Nat := (bytesL ws).foldl foldStep ws
theorem wf_foldStep {s : List Nat} (h : Wf s) (b : UInt8) : Wf (foldStep s b) := by
  unfold foldStep
  split
  · exact wf_orL (by intro v hv; simp at hv; rcases hv with rfl | rfl; exact h; exact wf_ofL _)
  · exact h
theorem wf_foldl : ∀ (l : List UInt8) {s : List Nat}, Wf s → Wf (l.foldl foldStep s)
  | [], _, h => h
  | b :: r, _, h => wf_foldl r (wf_foldStep h b)
theorem u8_or32 (b : UInt8) : bits .or .u8 (b.toNat : Int) 32 = ((b ||| 32).toNat : Int) := by
  rw [show (32 : Int) = ((32 : Nat) : Int) from rfl, u8_or_nat _ _ (UInt8.toNat_lt b) (by decide), UInt8.toNat_or]; rfl
theorem u8_clear32 (c : UInt8) : bits .andNot .u8 (c.toNat : Int) 32 = ((c &&& 223).toNat : Int) := by
  rw [show (32 : Int) = ((32 : Nat) : Int) from rfl, u8_andNot_nat _ _ (UInt8.toNat_lt c) (by decide), UInt8.toNat_and]; rfl
theorem conv2 (c d : UInt8) {w : World} {b : Nat} {t : TypeId} {f : Nat × Nat} (h : w.heap[b]? = some (.cells #[.int .u8 c.toNat, .int .u8 d.toNat] t f)) : (convert 64 9 (.slice (some ⟨b, 0, none⟩) 2 2)).run Tryz.prog w = .ok (.string ⟨[c, d].toArray⟩) w :=
  run_convert_bytes_back (P := Tryz.prog) w 64 9 5 ⟨b, 0, none⟩ 2 [c, d] Tryz.underlying64 Tryz.underlying5 Tryz.underlying9 (by
    intro j hj
    match j, hj with
    | 0, _ => simp [Addr.add, Lib.cell_of_heap h]
    | 1, _ => simp [Addr.add, Lib.cell_of_heap h])
theorem ls2 {w : World} {b : Nat} {s v : List Nat} {t : TypeId} {f : Nat × Nat} (h : w.heap[b]? = some (.cells #[.int .u64 (word s 0 : Int), .int .u64 (word s 1 : Int), .int .u64 (word s 2 : Int), .int .u64 (word s 3 : Int), .int .u64 (word v 0 : Int), .int .u64 (word v 1 : Int), .int .u64 (word v 2 : Int), .int .u64 (word v 3 : Int)] t f)) : Ls w b [s, v] := by
  intro k hk j hj
  rw [Lib.cell_of_heap h]
  match k, hk, j, hj with
  | 0, _, 0, _ => rfl
  | 0, _, 1, _ => rfl
  | 0, _, 2, _ => rfl
  | 0, _, 3, _ => rfl
  | 1, _, 0, _ => rfl
  | 1, _, 1, _ => rfl
  | 1, _, 2, _ => rfl
  | 1, _, 3, _ => rfl
theorem wf_two {a b : List Nat} (ha : Wf a) (hb : Wf b) : ∀ v ∈ [a, b], Wf v := by
  intro v hv; simp at hv; rcases hv with rfl | rfl; exact ha; exact hb
theorem fold_below1 {W w1 : World} {o : Obj} (hb1 : Below (W.alloc o).drew.heap.size (W.alloc o).drew w1) : Below W.heap.size W w1 :=
  ((Below.refl _ W).alloc (Nat.le_refl _) o).drew.trans (hb1.mono (alloc_le W o))
theorem fold_below {W w1 w3 : World} {o o' : Obj} (hb1 : Below (W.alloc o).drew.heap.size (W.alloc o).drew w1) (hb3 : Below (w1.alloc o').heap.size (w1.alloc o') w3) : Below W.heap.size W w3 := by
  have hA : Below W.heap.size W w1 := ((Below.refl _ W).alloc (Nat.le_refl _) o).drew.trans (hb1.mono (alloc_le W o))
  exact (hA.alloc hA.size o').trans (hb3.mono (Nat.le_trans hA.size (alloc_le w1 o')))
theorem put4_others (w : World) (b : Nat) (vs : List Nat) : KeepsOthers w (put4 w b vs) := by
  unfold put4
  exact (((KeepsOthers.setCell _ _ _).trans (KeepsOthers.setCell _ _ _)).trans (KeepsOthers.setCell _ _ _)).trans (KeepsOthers.setCell _ _ _)
theorem others_of_below {W W' : World} (h : Below W.heap.size W W') : KeepsOthers W W' :=
  ⟨h.size, fun k o hk _ => (h.block k (Array.getElem?_eq_some_iff.1 hk).1).trans hk⟩

theorem sb_kept {A B : World} {row : Option Nat} {b : Nat} {ws : List Nat} (h : SB A b ws) (hg : A.grownBy B row) (hr : ∀ r, row = some r → ∃ o : Obj, A.heap[r]? = some o ∧ o.isCells = false) : SB B b ws := by
  refine (hg.block b (Array.getElem?_eq_some_iff.1 h).1 (fun e => ?_)).trans h
  obtain ⟨o, ho, hc⟩ := hr b e.symm
  rw [h] at ho; cases ho; cases hc

set_option maxRecDepth 100000 in
set_option maxHeartbeats 4000000 in
theorem fold_any (ws : List Nat) (w : World) (hw : Wf ws) (hg : 0 < w.heap.size) (hT : Tab w) :
    Calls Tryz.prog 32 #[SV ws] w fun e w' => e = .returned (SV (foldW ws)) ∧ Below w.heap.size w w' := by
  have g0 := word_get hw (i := 0) (by omega)
  have g1 := word_get hw (i := 1) (by omega)
  have g2 := word_get hw (i := 2) (by omega)
  have g3 := word_get hw (i := 3) (by omega)
  have HSV := Lib.hid (SV_eq hw)
  have HT := Lib.hid hT
  clear hT
  refine (callsIn_wide (n := 5)).1 ?_
  refine callsIn_of_wp_marks Tryz.func32 rfl trivial ?_ rfl
  simp only [Tryz.ntmps32, List.size_toArray, List.length_cons, List.length_nil, Nat.reduceAdd, Nat.reduceSub, Array.replicate_succ, Array.replicate_zero, List.push_toArray, List.append_toArray, List.nil_append, List.cons_append]
  gi_wp2_with (refine ⟨trivial, ?_⟩; rw [← HSV.out]; refine (callsIn_wide.2 (all_any ws _ hw)).mono ?_; rintro e w' ⟨rfl, rfl⟩)
  have H1 := Lib.hid (two_new w (Obj.cells (wc ws) 43) (Obj.cells #[Value.int IntKind.u64 0, Value.int IntKind.u64 0, Value.int IntKind.u64 0, Value.int IntKind.u64 0] 43))
  obtain ⟨w2, hw2⟩ : ∃ w2, (w.alloc (Obj.cells (wc ws) 43)).alloc (Obj.cells #[Value.int IntKind.u64 0, Value.int IntKind.u64 0, Value.int IntKind.u64 0, Value.int IntKind.u64 0] 43) = w2 := ⟨_, rfl⟩
  have hB2 : Below w.heap.size w w2 := by rw [← hw2]; exact ((Below.refl _ w).alloc (Nat.le_refl _) _).alloc (by simp) _
  have hs2 : w2.heap.size = w.heap.size + 1 + 1 := by rw [← hw2]; simp
  rw [hw2] at H1 ⊢
  clear hw2
  obtain ⟨hb1, hb2⟩ := H1.out
  have hB3 : Below w.heap.size w (w2.alloc (Obj.cells (wc ws) 43)) := hB2.alloc hB2.size _
  rw [← hs2]
  refine wpIn_rangeFunc_ownG rfl (by omega) (gf := 69) (lb := #[.pointer (some ⟨w2.heap.size, 0, none⟩)]) rfl trivial (enters_of Tryz.func69 (by kernel_rfl) rfl)
    (all_stops _ (by omega) w2.heap.size ws _ (Below w.heap.size) hw (by simp) (by simp) (heap_alloc_new w2 _) (fun W hW => (HT.out.below hB3 hg).below hW (by simp)) (fun W W' hK hT => hT.below hK hg)) belowK_t (belowK_b (by simp; omega)) (Below.refl _ _) (fun _ => rfl)
    (fun (pre : List UInt8) W => (SB W w.heap.size (pre.foldl foldStep ws) ∧ SB W (w.heap.size + 1) zeroW) ∧ Below w.heap.size w W)
    (fun _ _ _ => False)
    (OwnFrom.and (Own.from (fun s A B row hs hg hr => ⟨sb_kept hs.1 hg hr, sb_kept hs.2 hg hr⟩) _) (ownFrom_below (Nat.le_refl _) (by simp; omega)))
    (fun _ _ _ _ _ hs _ _ => hs)
    ⟨⟨(heap_alloc_old _ _ (by omega)).trans hb1, (heap_alloc_old _ _ (by omega)).trans hb2⟩, hB3⟩
    (fun (x : UInt8) => { tmps := #[SV ws, .pointer (some ⟨w.heap.size, 0, none⟩), .pointer (some ⟨w.heap.size + 1, 0, none⟩), u8v x, undef, SV ws, .func (.func 69) #[] #[.pointer (some ⟨w2.heap.size, 0, none⟩)], u8v x, undef, undef, undef, undef, undef, undef, undef, undef, undef, undef, undef, undef, undef, undef, undef, undef, undef, undef], defers := [] }) ?assign ?body ?done ?stop
  case assign =>
    intro l x W K hK
    clear hs2
    gi_wp2
    exact hK
  case body =>
    rintro l pre x W ⟨⟨hS, hZ⟩, hB⟩ hlt
    clear g0 g1 g2 g3 hb1 hb2 hs2 H1 HT hB2 hB3 HSV
    have hcw := wf_foldl pre hw
    have HSTEP := Lib.hid (show (pre ++ [x]).foldl foldStep ws = foldStep (pre.foldl foldStep ws) x from by rw [List.foldl_append]; rfl)
    have hor := u8_or32 x
    have HFS := Lib.hid (show foldStep (pre.foldl foldStep ws) x = if 97 ≤ (x ||| 32).toNat ∧ (x ||| 32).toNat ≤ 122 then orL [pre.foldl foldStep ws, ofL [x ||| 32, (x ||| 32) &&& 223]] else pre.foldl foldStep ws from rfl)
    generalize pre.foldl foldStep ws = cs at *
    generalize x ||| 32 = c at *
    have hand := u8_clear32 c
    generalize hd : c &&& 223 = d at *
    clear hd
    have HZ := Lib.hid hZ
    clear hZ
    have c0 := hS.cell hcw (i := 0) (by omega)
    have c1 := hS.cell hcw (i := 1) (by omega)
    have c2 := hS.cell hcw (i := 2) (by omega)
    have c3 := hS.cell hcw (i := 3) (by omega)
    have HS := Lib.hid hS
    clear hS
    by_cases hc1 : 97 ≤ c.toNat ∧ c.toNat ≤ 122
    · have HFS' := Lib.hid (HFS.out.trans (if_pos hc1))
      obtain ⟨ha, hb⟩ := hc1
      have ha' : (97 : Int) ≤ (c.toNat : Int) := by omega
      have hb' : (c.toNat : Int) ≤ 122 := by omega
      clear ha hb HFS
      have hmx : Tryz.prog.follows .mixedOrders = true := by kernel_rfl
      have hsz := Lib.hid (show w.heap.size < W.heap.size ∧ w.heap.size + 1 < W.heap.size from ⟨(Array.getElem?_eq_some_iff.1 HS.out).1, (Array.getElem?_eq_some_iff.1 HZ.out).1⟩)
      have hsz1 := hsz.out.1
      have hcv := conv2 c d (w := (W.alloc (Obj.cells #[Value.int IntKind.u8 c.toNat, Value.int IntKind.u8 d.toNat] 5)).drew) (b := W.heap.size) (heap_alloc_new W _)
      gi_wp2
      gi_region_with_o (first
        | (refine ⟨trivial, ?_⟩; refine (CallsIn.inRound l (callsIn_wide.2 (of_any [c, d] _ (by simp)))).mono ?_; rintro e w1 ⟨he, hb1⟩; rw [SV_eq (wf_ofL [c, d])] at he; subst he
           have hA1 := fold_below1 hb1
           have S1 := (hA1.block _ hsz.out.1).trans HS.out
           have m0 := SB.cell S1 hcw (i := 0) (by omega)
           have m1 := SB.cell S1 hcw (i := 1) (by omega)
           have m2 := SB.cell S1 hcw (i := 2) (by omega)
           have m3 := SB.cell S1 hcw (i := 3) (by omega)
           clear S1)
        | (refine ⟨trivial, ?_⟩; refine (CallsIn.inRound l (callsIn_wide.2 (or_any [cs, ofL [c, d]] _ _ (wf_two hcw (wf_ofL _)) (by simp) (by simp) (ls2 (heap_alloc_new _ _))))).mono ?_; rintro e w3 ⟨he, hb3⟩
           have hos := wf_orL (wf_two hcw (wf_ofL [c, d]))
           rw [SV_eq hos] at he; subst he
           have hA3 := fold_below hb1 hb3
           have S3 := (hA3.block _ hsz.out.1).trans HS.out
           have k0 := SB.cell S3 hcw (i := 0) (by omega)
           have k1 := SB.cell S3 hcw (i := 1) (by omega)
           have k2 := SB.cell S3 hcw (i := 2) (by omega)
           have k3 := SB.cell S3 hcw (i := 3) (by omega)
           have f0 := Lib.frozen_of_heap S3 0
           have f1 := Lib.frozen_of_heap S3 1
           have f2 := Lib.frozen_of_heap S3 2
           have f3 := Lib.frozen_of_heap S3 3
           have HS3 := Lib.hid S3
           clear S3))
      all_goals
        rw [put4_eq]
        have hP := put4_below (vs := orL [cs, ofL [c, d]]) (hA3.mono hB.size) (Nat.le_refl w.heap.size)
        exact ⟨((others_of_below hA3).trans (put4_others _ _ _)).from _, hP, ⟨by rw [HSTEP.out, HFS'.out]; exact SB.put HS3.out hcw hos, put4_other ((hA3.block _ hsz.out.2).trans HZ.out) (by omega) _⟩, hB.trans hP⟩
    · have HFS' := Lib.hid (HFS.out.trans (if_neg hc1))
      by_cases ha : 97 ≤ c.toNat
      · have ha' : (97 : Int) ≤ (c.toNat : Int) := by omega
        have hb' : (122 : Int) < (c.toNat : Int) := by omega
        clear ha hc1 HFS
        gi_wp2
        exact ⟨KeepsFrom.refl _ _, Below.refl _ _, ⟨by rw [HSTEP.out, HFS'.out]; exact HS.out, HZ.out⟩, hB⟩
      · have ha' : (c.toNat : Int) < 97 := by omega
        clear ha hc1 HFS
        gi_wp2
        exact ⟨KeepsFrom.refl _ _, Below.refl _ _, ⟨by rw [HSTEP.out, HFS'.out]; exact HS.out, HZ.out⟩, hB⟩
  case done =>
    rintro D ys W hD rfl ⟨⟨hS, hZ⟩, hB⟩ hK
    clear g0 g1 g2 g3 hb1 hb2 H1 HT hB2 hB3 HSV
    have hcw := wf_foldl (bytesL ws) hw
    have HE := Lib.hid (show foldW ws = (bytesL ws).foldl foldStep ws from rfl)
    generalize (bytesL ws).foldl foldStep ws = cs at *
    have HK := Lib.hid hK
    have HD := Lib.hid hD
    clear hK hD
    have c0 := hS.cell hcw (i := 0) (by omega)
    have c1 := hS.cell hcw (i := 1) (by omega)
    have c2 := hS.cell hcw (i := 2) (by omega)
    have c3 := hS.cell hcw (i := 3) (by omega)
    have z0 := SB.cell hZ wf_zero (i := 0) (by omega)
    have z1 := SB.cell hZ wf_zero (i := 1) (by omega)
    have z2 := SB.cell hZ wf_zero (i := 2) (by omega)
    have z3 := SB.cell hZ wf_zero (i := 3) (by omega)
    have f0 := Lib.frozen_of_heap hZ 0
    have f1 := Lib.frozen_of_heap hZ 1
    have f2 := Lib.frozen_of_heap hZ 2
    have f3 := Lib.frozen_of_heap hZ 3
    have HF := Lib.hid (SV_eq hcw)
    have hP := put4_below (vs := cs) hB (Nat.le_succ w.heap.size)
    have HS4 := Lib.hid (SB.put hZ wf_zero hcw)
    clear hS hZ
    gi_wp2
    rw [put4_eq]
    have hK' := (put4_others W (w.heap.size + 1) cs).same D _ HK.out rfl
    have HSP := HS4.out
    generalize put4 W (w.heap.size + 1) cs = W' at *
    refine ⟨by simp, .inl ⟨_, _, rfl, run_takeDeferred hK', ?_⟩⟩
    have HSQ := sb_kept HSP (grownBy_putObj' W' D (.deferred none)) (fun r e => by cases e; exact ⟨_, hK', rfl⟩)
    have k0 := HSQ.cell hcw (i := 0) (by omega)
    have k1 := HSQ.cell hcw (i := 1) (by omega)
    have k2 := HSQ.cell hcw (i := 2) (by omega)
    have k3 := HSQ.cell hcw (i := 3) (by omega)
    refine ⟨SV cs, ?_, by rw [HE.out], hP.trans (belowK_b (w := w) (Nat.le_refl _) W' D _ _ (by have := HD.out; simp at this; omega) hK' rfl rfl)⟩
    rw [HF.out]
    simp [results, Tryz.results32, go_sem, k0, k1, k2, k3]
  case stop =>
    rintro D c pre W _ _ h _
    exact h.elim
end Go.Proofs.YtdjedjfanfbbcaaGreatDoor.St
namespace Go.Proofs.YtdjedjfanfbbcaaGreatDoor.St
open Go.RowKit
set_option linter.unusedVariables false
set_option linter.unusedSimpArgs false
def lowN (b : Nat) : Nat := b ||| 32
def upN (b : Nat) : Nat := (b ||| 32) &&& 223
def adds (b c : Nat) : Bool := decide (97 ≤ lowN b ∧ lowN b ≤ 122) && (c == lowN b || c == upN b)
theorem low_low : ∀ b, b < 256 → lowN (lowN b) = lowN b ∧ lowN (upN b) = lowN b ∧ lowN b < 256 ∧ upN b < 256 := by decide +kernel
theorem letter_low : ∀ b, b < 256 → 65 ≤ b → b ≤ 90 → lowN b = b + 32 ∧ lowN (b + 32) = b + 32 ∧ upN b = b ∧ upN (b + 32) = b := by decide +kernel
theorem adds_low {a b : Nat} (ha : a < 256) (h : adds a b = true) : lowN b = lowN a := by
  simp only [adds, Bool.and_eq_true, Bool.or_eq_true, beq_iff_eq] at h
  obtain ⟨_, rfl | rfl⟩ := h
  · exact (low_low a ha).1
  · exact (low_low a ha).2.1
theorem adds_of_low {a b c : Nat} (h : lowN a = lowN b) : adds a c = adds b c := by
  have : upN a = upN b := by unfold upN; unfold lowN at h; rw [h]
  unfold adds; rw [h, this]
theorem mem_step {s : List Nat} (h : Wf s) (b : UInt8) {c : Nat} (hc : c < 256) : mem (foldStep s b) c = (mem s c || adds b.toNat c) := by
  have e1 : (b ||| 32).toNat = lowN b.toNat := by rw [UInt8.toNat_or]; rfl
  have e2 : ((b ||| 32) &&& 223).toNat = upN b.toNat := by rw [UInt8.toNat_and, UInt8.toNat_or]; rfl
  unfold foldStep adds
  rw [e1]
  split
  · rename_i hl
    rw [mem_orL (wf_two h (wf_ofL _)) hc]
    simp only [List.any_cons, List.any_nil, Bool.or_false, mem_ofL, e1, e2, hl, and_self, decide_true, Bool.true_and]
  · rename_i hl
    simp [hl]
theorem mem_fold : ∀ (l : List UInt8) {s : List Nat}, Wf s → ∀ {c : Nat}, c < 256 → mem (l.foldl foldStep s) c = (mem s c || l.any fun b => adds b.toNat c)
  | [], _, _, _, _ => by simp
  | b :: r, s, h, c, hc => by
    simp only [List.foldl_cons, List.any_cons]
    rw [mem_fold r (wf_foldStep h b) hc, mem_step h b hc, Bool.or_assoc]
theorem mem_foldW {s : List Nat} (h : Wf s) {c : Nat} (hc : c < 256) : mem (foldW s) c = true ↔ mem s c = true ∨ ∃ b, b < 256 ∧ mem s b = true ∧ adds b c = true := by
  unfold foldW
  rw [mem_fold _ h hc, Bool.or_eq_true, List.any_eq_true]
  constructor
  · rintro (h1 | ⟨b, hb, h1⟩)
    · exact Or.inl h1
    · refine Or.inr ⟨b.toNat, UInt8.toNat_lt b, ?_, h1⟩
      unfold bytesL at hb
      obtain ⟨n, hn, rfl⟩ := List.mem_map.1 hb
      rw [ofNat_toNat (bytesN_lt hn)]
      unfold bytesN at hn
      exact (List.mem_filter.1 hn).2
  · rintro (h1 | ⟨b, hb, h1, h2⟩)
    · exact Or.inl h1
    · refine Or.inr ⟨UInt8.ofNat b, ?_, by rw [ofNat_toNat hb]; exact h2⟩
      unfold bytesL bytesN
      exact List.mem_map.2 ⟨b, List.mem_filter.2 ⟨List.mem_range.2 hb, h1⟩, rfl⟩
theorem wf_foldW' {ws : List Nat} (h : Wf ws) : Wf (foldW ws) := wf_foldl _ h
theorem foldW_again {s : List Nat} (h : Wf s) : foldW (foldW s) = foldW s := by
  apply ext_mem (wf_foldW' (wf_foldW' h)) (wf_foldW' h)
  intro c hc
  rw [Bool.eq_iff_iff, mem_foldW (wf_foldW' h) hc]
  constructor
  · rintro (h1 | ⟨b, hb, h1, h2⟩)
    · exact h1
    · rw [mem_foldW h hb] at h1
      rw [mem_foldW h hc]
      rcases h1 with h1 | ⟨a, ha, h1, h3⟩
      · exact Or.inr ⟨b, hb, h1, h2⟩
      · exact Or.inr ⟨a, ha, h1, by rw [← adds_of_low (adds_low ha h3)]; exact h2⟩
  · exact Or.inl
theorem or_fold {s : List Nat} (h : Wf s) : orL [s, foldW s] = foldW s := by
  apply ext_mem (wf_orL (wf_two h (wf_foldW' h))) (wf_foldW' h)
  intro c hc
  rw [mem_orL (wf_two h (wf_foldW' h)) hc, Bool.eq_iff_iff]
  simp only [List.any_cons, List.any_nil, Bool.or_false, Bool.or_eq_true]
  constructor
  · rintro (h1 | h1)
    · rw [mem_foldW h hc]; exact Or.inl h1
    · exact h1
  · exact Or.inr
theorem fold_letter {s : List Nat} (h : Wf s) {b : Nat} (h1 : 65 ≤ b) (h2 : b ≤ 90) : mem (foldW s) b = mem (foldW s) (b + 32) := by
  obtain ⟨e1, e2, e3, e4⟩ := letter_low b (by omega) h1 h2
  have hb : adds b b = true ∧ adds b (b + 32) = true := by
    constructor <;> simp [adds, e1, e3] <;> omega
  have hb' : adds (b + 32) b = true ∧ adds (b + 32) (b + 32) = true := by
    constructor <;> simp [adds, e2, e4] <;> omega
  rw [Bool.eq_iff_iff, mem_foldW h (by omega), mem_foldW h (by omega)]
  constructor
  · rintro (h1 | ⟨a, ha, h1, h3⟩)
    · exact Or.inr ⟨b, by omega, h1, hb.2⟩
    · exact Or.inr ⟨a, ha, h1, by rw [← adds_of_low (adds_low ha h3)]; exact hb.2⟩
  · rintro (h1 | ⟨a, ha, h1, h3⟩)
    · exact Or.inr ⟨b + 32, by omega, h1, hb'.1⟩
    · exact Or.inr ⟨a, ha, h1, by rw [← adds_of_low (adds_low ha h3)]; exact hb'.1⟩
end Go.Proofs.YtdjedjfanfbbcaaGreatDoor.St
