/- The texts SlB. -/
import Derived.RangeFuncBox
import Derived.Maps.AppendAt
import Derived.Test.YthpiapemjadgdaaGreatDoorBk08
set_option linter.unusedVariables false
set_option linter.unusedSimpArgs false
set_option maxHeartbeats 2000000
set_option maxRecDepth 100000
namespace Go.Proofs.YthpiapemjadgdaaGreatDoor.St
open Go.RowKit Go.Shelf
attribute [local go_sem] Oper.semAt_some
theorem all_stops (n : Nat) (hn : 2 ≤ n) (B : Nat) (ws : List Nat) (w : World) (Kp : World → World → Prop) (hw : Wf ws) (hB : B < w.heap.size) (hg : 2 < w.heap.size) (hS : SB w B ws)
  (hT : ∀ W, Below w.heap.size w W → Tab W) (hKT : ∀ W W', Kp W W' → Tab W → Tab W') :
  SeqStopsK Fence.wide n Tryz.prog 146 #[.pointer (some ⟨B, 0, none⟩)] (fun x : UInt8 => #[.int .u8 (x.toNat : Int)]) Kp (fun xs => xs = bytesL ws) (fun _ => True) 256 w := fun l J Jx W hW hJ hJx hY h0 => by
 have hSW : SB W B ws := (hW.block B hB).trans hS;have hTW := hT W hW;have c0 := hSW.cell hw (i := 0) (by omega);have c1 := hSW.cell hw (i := 1) (by omega);have c2 := hSW.cell hw (i := 2) (by omega);have c3 := hSW.cell hw (i := 3) (by omega);clear hS hSW;refine callsIn_of_wp Tryz.func146 rfl trivial ?_ rfl;simp only [Tryz.ntmps146, List.size_toArray, List.length_cons, List.length_nil, Nat.reduceAdd, Nat.reduceSub, Array.replicate_succ, Array.replicate_zero, List.push_toArray, List.append_toArray, List.nil_append, List.cons_append];gi_wp2
 gi_loopw [3, 4, 6] (fun _ _ i wr => ∃ k : Nat, k ≤ 4 ∧ i = .int .i64 (k : Int) ∧ Tab wr ∧ ∃ pre : List UInt8, pre.map UInt8.toNat ++ tl ws k (4 - k) = bytesN ws ∧ J pre wr) (fun _ _ i _ => 4 - (intOf i).toNat)
 (case atStart => exact ⟨0, Nat.zero_le _, rfl, hTW, [], tl_four ws, h0⟩);case round =>
  obtain ⟨k, hk, rfl, hTr, pre, hpre, hJr⟩ := hrel;by_cases hlt : k < 4
  ·
   (have hI : (k : Int) < 4 := by omega);(have hi := fun w => idx_word ws hlt w);have HP := Lib.hid hpre;clear hpre;gi_wp2
   gi_loopw [4] (fun v wv => ∃ x : Nat, v = .int .u64 (x : Int) ∧ x < 2 ^ 64 ∧ Tab wv ∧ ∃ pre : List UInt8, pre.map UInt8.toNat ++ ((bl x).map (k * 64 + ·) ++ tl ws (k + 1) (4 - (k + 1))) = bytesN ws ∧ J pre wv) (fun v _ => (bl (intOf v).toNat).length)
   (case atStart => exact ⟨word ws k, rfl, word_lt hw k, hTr, pre, by rw [← HP.out, show 4 - k = (4 - (k + 1)) + 1 from by omega, tl], hJr⟩);case round =>
    clear HP hTr hJr pre;obtain ⟨x, rfl, hx, hTv, pre, hpre, hJv⟩ := hrel;have HP := Lib.hid hpre;clear hpre;by_cases hx0 : x = 0
    · subst hx0;gi_wp2;go_roundw;(case rel => exact ⟨k + 1, by omega, by go_num, hTv, pre, by rw [← HP.out, bl_zero]; rfl, hJv⟩);case measure => simp [intOf]; omega
    ·
     obtain ⟨hstep, hc⟩ := bl_step hx hx0;have HST := Lib.hid hstep;have hlen : pre.length < 256 := by
      have := bytesN_len ws;have e := congrArg List.length HP.out;rw [hstep] at e;simp at e;omega
     (have hne : ((x : Int) != 0) = true := by simp; omega);(have htz := fun w => tz_any x hx hx0 w);clear hstep;generalize hcz : Lib.ctz 64 x = c at *;have hcz' := Lib.hid hcz;clear hcz;obtain ⟨fn, tmps, assign, body, hy, hR⟩ := hY pre (UInt8.ofNat (k * 64 + c)) _ hJv hlen;have hu := ofNat_toNat (n := k * 64 + c) (by omega);generalize UInt8.ofNat (k * 64 + c) = d at *;rw [show ((d.toNat : Nat) : Int) = (k : Int) * 64 + (c : Int) from by omega] at hy;have HU := Lib.hid hu;clear hu;gi_wp2;refine ⟨trivial, fun h => (by cases h), ?_⟩;refine (callsIn_wide.2 (htz _ hTv)).mono ?_;rintro e w' ⟨rfl, rfl⟩;gi_wp2;refine ⟨fun h => (by cases h), hR.mono ?_⟩;clear hy hR;rintro e W' (⟨rfl, hJ', hk'⟩ | ⟨rfl, hJx'⟩)
     ·
      gi_wp2;have hand : bits BinOp.and IntKind.u64 (x : Int) ((x : Int) - 1) = ((x &&& (x - 1) : Nat) : Int) := by
       rw [show ((x : Int) - 1) = ((x - 1 : Nat) : Int) from by omega];exact u64_and_nat _ _ hx (by omega)
      go_roundw;case rel =>
       refine ⟨x &&& (x - 1), by rw [hand], clear_lt hx, hKT _ _ hk' hTv, pre ++ [d], ?_, hJ'⟩;rw [← HP.out, HST.out]; simp [HU.out]
      case measure =>
       rw [hand];simp only [intOf, Int.toNat_natCast];rw [HST.out]; simp
     · gi_wp2;refine bodyPost_ret (results_none rfl _ _ _) rfl ?_;exact ⟨⟨_, rfl⟩, .inr ⟨_, trivial, hJx'⟩⟩
  · (have hk4 : k = 4 := by omega);subst hk4;have HP := Lib.hid hpre;clear hpre;gi_wp2;go_end0;exact ⟨⟨_, rfl⟩, .inl ⟨_, bytesL_of (by have := HP.out; simpa [tl] using this), hJr⟩⟩
attribute [local go_sem] Oper.semAt_some
theorem infoU8 : (Tryz.prog.info? 5).map (fun i => (i.zero, i.size, i.bytes)) = some (some (.int .u8 0), 1, 1) := by kernel_rfl
abbrev u8v (x : UInt8) : Value := .int .u8 (x.toNat : Int)
theorem append_any (B : Nat) (ws : List Nat) (w : World) (hw : Wf ws) (hB : B < w.heap.size) (hg : 2 < w.heap.size) (hS : SB w B ws) (hT : Tab w) :
  CallsIn Fence.wide 5 Tryz.prog 145 #[.slice none 0 0, .func (.func 146) #[] #[.pointer (some ⟨B, 0, none⟩)]] w fun e W' => ∃ v, e = .returned v ∧ W'.ownsRow w.heap.size 5 1 v (bytesL ws).length ((bytesL ws).map u8v) ∧ Below w.heap.size w W' := by
 obtain ⟨i0, hi, hz0, hz1, hz2⟩ := info_parts infoU8;refine callsIn_of_wp_marks Tryz.func145 rfl trivial ?_ rfl;simp only [Tryz.ntmps145, List.size_toArray, List.length_cons, List.length_nil, Nat.reduceAdd, Nat.reduceSub, Array.replicate_succ, Array.replicate_zero, List.push_toArray, List.append_toArray, List.nil_append, List.cons_append];have HS := Lib.hid hS;have HT := Lib.hid hT;clear hS hT;gi_wp2;have bO := Boxed.new w 94 (.slice none 0 0);have hB0 : Below w.heap.size w (w.alloc (.cells #[.slice none 0 0] 94)) := (Below.refl _ w).alloc (Nat.le_refl _) _;refine wpIn_rangeFunc_ownG rfl (by omega) (gf := 146) (lb := #[.pointer (some ⟨B, 0, none⟩)]) rfl trivial (enters_of Tryz.func146 (by kernel_rfl) rfl)
  (all_stops 4 (by omega) B ws _ (Below w.heap.size) hw (by simp; omega) (by simp <;> omega) ((hB0.block B hB).trans HS.out) (fun W hW => (HT.out.below hB0 hg).below hW (by simp <;> omega)) (fun W W' hK hT => hT.below hK hg)) belowK_t (belowK_b (by simp)) (Below.refl _ _) (fun _ => rfl)
  (fun (pre : List UInt8) W => (∃ v, Boxed W w.heap.size 94 v ∧ W.ownsRow w.heap.size 5 1 v pre.length (pre.map u8v) ∧ True) ∧ Below w.heap.size w W)
  (fun _ _ _ => False)
  (OwnFrom.and (Own.from (holdsRow_own w.heap.size w.heap.size 94 5 1 (fun (pre : List UInt8) => pre.length) (fun (pre : List UInt8) => pre.map u8v) (fun (pre : List UInt8) v => True)) _) (ownFrom_below (Nat.le_refl _) (by simp)))
  (fun _ _ _ _ _ hs _ _ => hs)
  ⟨⟨_, bO, World.ownsRow_nil _ _ _ _, trivial⟩, hB0⟩
  (fun (x : UInt8) => { tmps := #[.slice none 0 0, .func (.func 146) #[] #[.pointer (some ⟨B, 0, none⟩)], .pointer (some ⟨w.heap.size, 0, none⟩), undef, .slice none 0 0, u8v x, .func (.func 146) #[] #[.pointer (some ⟨B, 0, none⟩)], u8v x, undef, undef, undef, undef, undef], defers := [] }) ?assign ?body ?done ?stop
 case assign =>
  intro l x W K hK;gi_wp2;exact hK
 case body =>
  rintro l pre x W ⟨⟨v, hv, hrow, _⟩, hB⟩ hlt;have hc := hv.cell
  gi_wp2_with (gi_at_builtin; refine wpListIn_append_own _ rfl _ _ 94 rfl w.heap.size 5 i0 (.int .u8 0) 1 1 Tryz.underlying94 hi hz0 hz1 hz2 rfl (by decide) _ _ _ rfl (hrow.alloc _) ⟨W.heap.size, 0, none⟩ 1 1 [u8v x] rfl rfl (cell_one_new _ _ _) (by simp [Value.oneCell', u8v]) (Nat.le_trans hlt (by decide)) (by omega) (by have := hB.size; simp; omega) ?_; intro v' w1 hown' hgrow _; obtain ⟨g', cap', rfl⟩ := ownsRow_succ hown'; obtain ⟨hv1, hv2, hr2, hk2, hb2⟩ := hv.appended (by decide) hrow hB.size (Nat.le_refl _) hown' hgrow; have hc1 := hv1.cell; have hf1 := hv1.frozen)
  exact ⟨hk2.from _, hb2, ⟨_, hv2, by simpa using hr2, trivial⟩, hB.trans hb2⟩
 case done =>
  rintro D ys W hD rfl ⟨⟨v, hv, hrow, _⟩, hB⟩ hK;have hc := hv.cell;gi_wp2;refine ⟨by simp, .inl ⟨_, _, rfl, run_takeDeferred hK, ?_⟩⟩;exact ⟨_, results_tmp rfl _ _ _, v, rfl, ownsRow_putObj hrow _ hK rfl, hB.trans (belowK_b (w := w) (Nat.le_refl _) W D _ _ (by simp at hD; omega) hK rfl rfl)⟩
 case stop =>
  rintro D c pre W _ _ h _;exact h.elim
theorem own_string {w : World} {base : Nat} {v : Value} {ws : List Nat} (h : w.ownsRow base 5 1 v (bytesL ws).length ((bytesL ws).map u8v)) :
  (convert 94 9 v).run Tryz.prog w = .ok (.string ⟨(bytesL ws).toArray⟩) w := by
 obtain ⟨_, ⟨rfl, h0⟩ | ⟨g, cap, cur, rfl, _, hg, hc, _, hs, ht⟩⟩ := h
 · have hn : bytesL ws = [] := List.length_eq_zero_iff.1 h0;have := run_convert_bytes_nil (P := Tryz.prog) (w := w) 94 5 Tryz.underlying94 Tryz.underlying5 0 0 9 Tryz.underlying9;rw [this, hn]; rfl
 · refine run_convert_bytes_back (P := Tryz.prog) w 94 9 5 ⟨g, 0, none⟩ cap (bytesL ws) Tryz.underlying94 Tryz.underlying5 Tryz.underlying9 ?_;intro j hj;have h1 := congrArg (·[j]?) ht;simp only [Nat.mul_one, List.getElem?_take, hj, if_true, List.getElem?_map, Array.getElem?_toList] at h1;rw [List.getElem?_eq_getElem hj] at h1;rw [show (Addr.add ⟨g, 0, none⟩ j) = ⟨g, j, none⟩ from by simp [Addr.add]; exact Eq.symm, Lib.cell_of_heap hg];exact h1
theorem collect_any (B : Nat) (ws : List Nat) (w : World) (hw : Wf ws) (hB : B < w.heap.size) (hg : 2 < w.heap.size) (hS : SB w B ws) (hT : Tab w) :
  Calls Tryz.prog 115 #[.func (.func 146) #[] #[.pointer (some ⟨B, 0, none⟩)]] w fun e W' => ∃ v, e = .returned v ∧ W'.ownsRow w.heap.size 5 1 v (bytesL ws).length ((bytesL ws).map u8v) ∧ Below w.heap.size w W' := by
 have HA := callsIn_wide.1 (append_any B ws w hw hB hg hS hT);clear hS hT;go_enter Tryz.func115, Tryz.ntmps115;go_wp2_with (go_at_call 145; refine HA.mono ?_; rintro e w' ⟨v, rfl, ho, hb⟩);go_ret;exact ⟨_, rfl, ho, hb⟩
theorem bytes_any (ws : List Nat) (w : World) (hw : Wf ws) (hg : 2 < w.heap.size) (hT : Tab w) :
  Calls Tryz.prog 88 #[SV ws] w fun e w' => e = .returned (.string ⟨(bytesL ws).toArray⟩) ∧ Below w.heap.size w w' := by
 have g0 := word_get hw (i := 0) (by omega);have g1 := word_get hw (i := 1) (by omega);have g2 := word_get hw (i := 2) (by omega);have g3 := word_get hw (i := 3) (by omega);have HSV := Lib.hid (SV_eq hw);have HT := Lib.hid hT;clear hT;go_enter Tryz.func88, Tryz.ntmps88;go_wp2_with (first
  | (go_at_call 116; rw [← HSV.out]; refine (all_any ws _ hw).mono ?_; rintro e w' ⟨rfl, rfl⟩)
  | (go_at_call 115; refine (collect_any _ ws _ hw (by simp) (by simp <;> omega) (two_new w _ _).2 (HT.out.below (((Below.refl w.heap.size w).alloc (Nat.le_refl _) _).alloc (by simp) _) hg)).mono ?_; rintro e w1 ⟨v, rfl, ho, hb⟩; have hcv := own_string ho))
 go_ret;exact ⟨rfl, (((Below.refl w.heap.size w).alloc (Nat.le_refl _) _).alloc (by simp) _).trans (hb.mono (by simp; omega))⟩
attribute [local go_sem] Oper.semAt_some
theorem ls2 {w : World} {b : Nat} {s v : List Nat} {t : TypeId} {f : Nat × Nat} (h : w.heap[b]? = some (.cells #[.int .u64 (word s 0 : Int), .int .u64 (word s 1 : Int), .int .u64 (word s 2 : Int), .int .u64 (word s 3 : Int), .int .u64 (word v 0 : Int), .int .u64 (word v 1 : Int), .int .u64 (word v 2 : Int), .int .u64 (word v 3 : Int)] t f)) : Ls w b [s, v] := by
 intro k hk j hj;rw [Lib.cell_of_heap h]
 match k, hk, j, hj with
 | 0, _, 0, _ => rfl
 | 0, _, 1, _ => rfl
 | 0, _, 2, _ => rfl
 | 0, _, 3, _ => rfl
 | 1, _, 0, _ => rfl
 | 1, _, 1, _ => rfl
 | 1, _, 2, _ => rfl
 | 1, _, 3, _ => rfl
theorem wf_two {a b : List Nat} (ha : Wf a) (hb : Wf b) : ∀ v ∈ [a, b], Wf v := by
 intro v hv; simp at hv; rcases hv with rfl | rfl; exact ha; exact hb
open Go.RowKit
end Go.Proofs.YthpiapemjadgdaaGreatDoor.St
