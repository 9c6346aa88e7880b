/- The texts SlB RxR1 RxR2 RxR3 RxNx RxNy RxNg RxNw RxN RxGr RxTx. -/
import Derived.RangeFuncBox
import Derived.Maps.AppendAt
import Derived.Deep.AppendLies
import Derived.Laws.EntriesVeiled
import Derived.Test.YthpiapemjadgdaaGreatDoorCk02
import Derived.Test.YthpiapemjadgdaaGreatDoorCk07
import Derived.Test.YthpiapemjadgdaaGreatDoorCk09
set_option linter.unusedVariables false
set_option linter.unusedSimpArgs false
set_option maxHeartbeats 2000000
set_option maxRecDepth 100000
namespace Go.Proofs.YthpiapemjadgdaaGreatDoor.St
open Go.RowKit Go.Shelf
attribute [local go_sem] Oper.semAt_some
theorem all_stops (n : Nat) (hn : 2 ≤ n) (B : Nat) (ws : List Nat) (w : World) (Kp : World → World → Prop) (hw : Wf ws) (hB : B < w.heap.size) (hg : 2 < w.heap.size) (hS : SB w B ws)
  (hT : ∀ W, Below w.heap.size w W → Tab W) (hKT : ∀ W W', Kp W W' → Tab W → Tab W') :
  SeqStopsK Fence.wide n Tryz.prog 146 #[.pointer (some ⟨B, 0, none⟩)] (fun x : UInt8 => #[.int .u8 (x.toNat : Int)]) Kp (fun xs => xs = bytesL ws) (fun _ => True) 256 w := fun l J Jx W hW hJ hJx hY h0 => by
 have hSW : SB W B ws := (hW.block B hB).trans hS;have hTW := hT W hW;have c0 := hSW.cell hw (i := 0) (by omega);have c1 := hSW.cell hw (i := 1) (by omega);have c2 := hSW.cell hw (i := 2) (by omega);have c3 := hSW.cell hw (i := 3) (by omega);clear hS hSW;refine callsIn_of_wp Tryz.func146 rfl trivial ?_ rfl;simp only [Tryz.ntmps146, List.size_toArray, List.length_cons, List.length_nil, Nat.reduceAdd, Nat.reduceSub, Array.replicate_succ, Array.replicate_zero, List.push_toArray, List.append_toArray, List.nil_append, List.cons_append];gi_wp2
 gi_loopw [3, 4, 6] (fun _ _ i wr => ∃ k : Nat, k ≤ 4 ∧ i = .int .i64 (k : Int) ∧ Tab wr ∧ ∃ pre : List UInt8, pre.map UInt8.toNat ++ tl ws k (4 - k) = bytesN ws ∧ J pre wr) (fun _ _ i _ => 4 - (intOf i).toNat)
 (case atStart => exact ⟨0, Nat.zero_le _, rfl, hTW, [], tl_four ws, h0⟩);case round =>
  obtain ⟨k, hk, rfl, hTr, pre, hpre, hJr⟩ := hrel;by_cases hlt : k < 4
  ·
   (have hI : (k : Int) < 4 := by omega);(have hi := fun w => idx_word ws hlt w);have HP := Lib.hid hpre;clear hpre;gi_wp2
   gi_loopw [4] (fun v wv => ∃ x : Nat, v = .int .u64 (x : Int) ∧ x < 2 ^ 64 ∧ Tab wv ∧ ∃ pre : List UInt8, pre.map UInt8.toNat ++ ((bl x).map (k * 64 + ·) ++ tl ws (k + 1) (4 - (k + 1))) = bytesN ws ∧ J pre wv) (fun v _ => (bl (intOf v).toNat).length)
   (case atStart => exact ⟨word ws k, rfl, word_lt hw k, hTr, pre, by rw [← HP.out, show 4 - k = (4 - (k + 1)) + 1 from by omega, tl], hJr⟩);case round =>
    clear HP hTr hJr pre;obtain ⟨x, rfl, hx, hTv, pre, hpre, hJv⟩ := hrel;have HP := Lib.hid hpre;clear hpre;by_cases hx0 : x = 0
    · subst hx0;gi_wp2;go_roundw;(case rel => exact ⟨k + 1, by omega, by go_num, hTv, pre, by rw [← HP.out, bl_zero]; rfl, hJv⟩);case measure => simp [intOf]; omega
    ·
     obtain ⟨hstep, hc⟩ := bl_step hx hx0;have HST := Lib.hid hstep;have hlen : pre.length < 256 := by
      have := bytesN_len ws;have e := congrArg List.length HP.out;rw [hstep] at e;simp at e;omega
     (have hne : ((x : Int) != 0) = true := by simp; omega);(have htz := fun w => tz_any x hx hx0 w);clear hstep;generalize hcz : Lib.ctz 64 x = c at *;have hcz' := Lib.hid hcz;clear hcz;obtain ⟨fn, tmps, assign, body, hy, hR⟩ := hY pre (UInt8.ofNat (k * 64 + c)) _ hJv hlen;have hu := ofNat_toNat (n := k * 64 + c) (by omega);generalize UInt8.ofNat (k * 64 + c) = d at *;rw [show ((d.toNat : Nat) : Int) = (k : Int) * 64 + (c : Int) from by omega] at hy;have HU := Lib.hid hu;clear hu;gi_wp2;refine ⟨trivial, fun h => (by cases h), ?_⟩;refine (callsIn_wide.2 (htz _ hTv)).mono ?_;rintro e w' ⟨rfl, rfl⟩;gi_wp2;refine ⟨fun h => (by cases h), hR.mono ?_⟩;clear hy hR;rintro e W' (⟨rfl, hJ', hk'⟩ | ⟨rfl, hJx'⟩)
     ·
      gi_wp2;have hand : bits BinOp.and IntKind.u64 (x : Int) ((x : Int) - 1) = ((x &&& (x - 1) : Nat) : Int) := by
       rw [show ((x : Int) - 1) = ((x - 1 : Nat) : Int) from by omega];exact u64_and_nat _ _ hx (by omega)
      go_roundw;case rel =>
       refine ⟨x &&& (x - 1), by rw [hand], clear_lt hx, hKT _ _ hk' hTv, pre ++ [d], ?_, hJ'⟩;rw [← HP.out, HST.out]; simp [HU.out]
      case measure =>
       rw [hand];simp only [intOf, Int.toNat_natCast];rw [HST.out]; simp
     · gi_wp2;refine bodyPost_ret (results_none rfl _ _ _) rfl ?_;exact ⟨⟨_, rfl⟩, .inr ⟨_, trivial, hJx'⟩⟩
  · (have hk4 : k = 4 := by omega);subst hk4;have HP := Lib.hid hpre;clear hpre;gi_wp2;go_end0;exact ⟨⟨_, rfl⟩, .inl ⟨_, bytesL_of (by have := HP.out; simpa [tl] using this), hJr⟩⟩
attribute [local go_sem] Oper.semAt_some
theorem infoU8 : (Tryz.prog.info? 5).map (fun i => (i.zero, i.size, i.bytes)) = some (some (.int .u8 0), 1, 1) := by kernel_rfl
abbrev u8v (x : UInt8) : Value := .int .u8 (x.toNat : Int)
theorem append_any (B : Nat) (ws : List Nat) (w : World) (hw : Wf ws) (hB : B < w.heap.size) (hg : 2 < w.heap.size) (hS : SB w B ws) (hT : Tab w) :
  CallsIn Fence.wide 5 Tryz.prog 145 #[.slice none 0 0, .func (.func 146) #[] #[.pointer (some ⟨B, 0, none⟩)]] w fun e W' => ∃ v, e = .returned v ∧ W'.ownsRow w.heap.size 5 1 v (bytesL ws).length ((bytesL ws).map u8v) ∧ Below w.heap.size w W' := by
 obtain ⟨i0, hi, hz0, hz1, hz2⟩ := info_parts infoU8;refine callsIn_of_wp_marks Tryz.func145 rfl trivial ?_ rfl;simp only [Tryz.ntmps145, List.size_toArray, List.length_cons, List.length_nil, Nat.reduceAdd, Nat.reduceSub, Array.replicate_succ, Array.replicate_zero, List.push_toArray, List.append_toArray, List.nil_append, List.cons_append];have HS := Lib.hid hS;have HT := Lib.hid hT;clear hS hT;gi_wp2;have bO := Boxed.new w 94 (.slice none 0 0);have hB0 : Below w.heap.size w (w.alloc (.cells #[.slice none 0 0] 94)) := (Below.refl _ w).alloc (Nat.le_refl _) _;refine wpIn_rangeFunc_ownG rfl (by omega) (gf := 146) (lb := #[.pointer (some ⟨B, 0, none⟩)]) rfl trivial (enters_of Tryz.func146 (by kernel_rfl) rfl)
  (all_stops 4 (by omega) B ws _ (Below w.heap.size) hw (by simp; omega) (by simp <;> omega) ((hB0.block B hB).trans HS.out) (fun W hW => (HT.out.below hB0 hg).below hW (by simp <;> omega)) (fun W W' hK hT => hT.below hK hg)) belowK_t (belowK_b (by simp)) (Below.refl _ _) (fun _ => rfl)
  (fun (pre : List UInt8) W => (∃ v, Boxed W w.heap.size 94 v ∧ W.ownsRow w.heap.size 5 1 v pre.length (pre.map u8v) ∧ True) ∧ Below w.heap.size w W)
  (fun _ _ _ => False)
  (OwnFrom.and (Own.from (holdsRow_own w.heap.size w.heap.size 94 5 1 (fun (pre : List UInt8) => pre.length) (fun (pre : List UInt8) => pre.map u8v) (fun (pre : List UInt8) v => True)) _) (ownFrom_below (Nat.le_refl _) (by simp)))
  (fun _ _ _ _ _ hs _ _ => hs)
  ⟨⟨_, bO, World.ownsRow_nil _ _ _ _, trivial⟩, hB0⟩
  (fun (x : UInt8) => { tmps := #[.slice none 0 0, .func (.func 146) #[] #[.pointer (some ⟨B, 0, none⟩)], .pointer (some ⟨w.heap.size, 0, none⟩), undef, .slice none 0 0, u8v x, .func (.func 146) #[] #[.pointer (some ⟨B, 0, none⟩)], u8v x, undef, undef, undef, undef, undef], defers := [] }) ?assign ?body ?done ?stop
 case assign =>
  intro l x W K hK;gi_wp2;exact hK
 case body =>
  rintro l pre x W ⟨⟨v, hv, hrow, _⟩, hB⟩ hlt;have hc := hv.cell
  gi_wp2_with (gi_at_builtin; refine wpListIn_append_own _ rfl _ _ 94 rfl w.heap.size 5 i0 (.int .u8 0) 1 1 Tryz.underlying94 hi hz0 hz1 hz2 rfl (by decide) _ _ _ rfl (hrow.alloc _) ⟨W.heap.size, 0, none⟩ 1 1 [u8v x] rfl rfl (cell_one_new _ _ _) (by simp [Value.oneCell', u8v]) (Nat.le_trans hlt (by decide)) (by omega) (by have := hB.size; simp; omega) ?_; intro v' w1 hown' hgrow _; obtain ⟨g', cap', rfl⟩ := ownsRow_succ hown'; obtain ⟨hv1, hv2, hr2, hk2, hb2⟩ := hv.appended (by decide) hrow hB.size (Nat.le_refl _) hown' hgrow; have hc1 := hv1.cell; have hf1 := hv1.frozen)
  exact ⟨hk2.from _, hb2, ⟨_, hv2, by simpa using hr2, trivial⟩, hB.trans hb2⟩
 case done =>
  rintro D ys W hD rfl ⟨⟨v, hv, hrow, _⟩, hB⟩ hK;have hc := hv.cell;gi_wp2;refine ⟨by simp, .inl ⟨_, _, rfl, run_takeDeferred hK, ?_⟩⟩;exact ⟨_, results_tmp rfl _ _ _, v, rfl, ownsRow_putObj hrow _ hK rfl, hB.trans (belowK_b (w := w) (Nat.le_refl _) W D _ _ (by simp at hD; omega) hK rfl rfl)⟩
 case stop =>
  rintro D c pre W _ _ h _;exact h.elim
theorem own_string {w : World} {base : Nat} {v : Value} {ws : List Nat} (h : w.ownsRow base 5 1 v (bytesL ws).length ((bytesL ws).map u8v)) :
  (convert 94 9 v).run Tryz.prog w = .ok (.string ⟨(bytesL ws).toArray⟩) w := by
 obtain ⟨_, ⟨rfl, h0⟩ | ⟨g, cap, cur, rfl, _, hg, hc, _, hs, ht⟩⟩ := h
 · have hn : bytesL ws = [] := List.length_eq_zero_iff.1 h0;have := run_convert_bytes_nil (P := Tryz.prog) (w := w) 94 5 Tryz.underlying94 Tryz.underlying5 0 0 9 Tryz.underlying9;rw [this, hn]; rfl
 · refine run_convert_bytes_back (P := Tryz.prog) w 94 9 5 ⟨g, 0, none⟩ cap (bytesL ws) Tryz.underlying94 Tryz.underlying5 Tryz.underlying9 ?_;intro j hj;have h1 := congrArg (·[j]?) ht;simp only [Nat.mul_one, List.getElem?_take, hj, if_true, List.getElem?_map, Array.getElem?_toList] at h1;rw [List.getElem?_eq_getElem hj] at h1;rw [show (Addr.add ⟨g, 0, none⟩ j) = ⟨g, j, none⟩ from by simp [Addr.add]; exact Eq.symm, Lib.cell_of_heap hg];exact h1
theorem collect_any (B : Nat) (ws : List Nat) (w : World) (hw : Wf ws) (hB : B < w.heap.size) (hg : 2 < w.heap.size) (hS : SB w B ws) (hT : Tab w) :
  Calls Tryz.prog 115 #[.func (.func 146) #[] #[.pointer (some ⟨B, 0, none⟩)]] w fun e W' => ∃ v, e = .returned v ∧ W'.ownsRow w.heap.size 5 1 v (bytesL ws).length ((bytesL ws).map u8v) ∧ Below w.heap.size w W' := by
 have HA := callsIn_wide.1 (append_any B ws w hw hB hg hS hT);clear hS hT;go_enter Tryz.func115, Tryz.ntmps115;go_wp2_with (go_at_call 145; refine HA.mono ?_; rintro e w' ⟨v, rfl, ho, hb⟩);go_ret;exact ⟨_, rfl, ho, hb⟩
theorem bytes_any (ws : List Nat) (w : World) (hw : Wf ws) (hg : 2 < w.heap.size) (hT : Tab w) :
  Calls Tryz.prog 88 #[SV ws] w fun e w' => e = .returned (.string ⟨(bytesL ws).toArray⟩) ∧ Below w.heap.size w w' := by
 have g0 := word_get hw (i := 0) (by omega);have g1 := word_get hw (i := 1) (by omega);have g2 := word_get hw (i := 2) (by omega);have g3 := word_get hw (i := 3) (by omega);have HSV := Lib.hid (SV_eq hw);have HT := Lib.hid hT;clear hT;go_enter Tryz.func88, Tryz.ntmps88;go_wp2_with (first
  | (go_at_call 116; rw [← HSV.out]; refine (all_any ws _ hw).mono ?_; rintro e w' ⟨rfl, rfl⟩)
  | (go_at_call 115; refine (collect_any _ ws _ hw (by simp) (by simp <;> omega) (two_new w _ _).2 (HT.out.below (((Below.refl w.heap.size w).alloc (Nat.le_refl _) _).alloc (by simp) _) hg)).mono ?_; rintro e w1 ⟨v, rfl, ho, hb⟩; have hcv := own_string ho))
 go_ret;exact ⟨rfl, (((Below.refl w.heap.size w).alloc (Nat.le_refl _) _).alloc (by simp) _).trans (hb.mono (by simp; omega))⟩
attribute [local go_sem] Oper.semAt_some
theorem ls2 {w : World} {b : Nat} {s v : List Nat} {t : TypeId} {f : Nat × Nat} (h : w.heap[b]? = some (.cells #[.int .u64 (word s 0 : Int), .int .u64 (word s 1 : Int), .int .u64 (word s 2 : Int), .int .u64 (word s 3 : Int), .int .u64 (word v 0 : Int), .int .u64 (word v 1 : Int), .int .u64 (word v 2 : Int), .int .u64 (word v 3 : Int)] t f)) : Ls w b [s, v] := by
 intro k hk j hj;rw [Lib.cell_of_heap h]
 match k, hk, j, hj with
 | 0, _, 0, _ => rfl
 | 0, _, 1, _ => rfl
 | 0, _, 2, _ => rfl
 | 0, _, 3, _ => rfl
 | 1, _, 0, _ => rfl
 | 1, _, 1, _ => rfl
 | 1, _, 2, _ => rfl
 | 1, _, 3, _ => rfl
theorem wf_two {a b : List Nat} (ha : Wf a) (hb : Wf b) : ∀ v ∈ [a, b], Wf v := by
 intro v hv; simp at hv; rcases hv with rfl | rfl; exact ha; exact hb
open Go.RowKit
end Go.Proofs.YthpiapemjadgdaaGreatDoor.St
namespace Go.Proofs.YthpiapemjadgdaaGreatDoor.Rx
open Go.RowKit Go.Shelf
open St (Wf word zeroW Tab SV SV_eq SB put4 ls2 wf_two or_any of_any orL ofL wf_ofL orL_spec wf_orL Ls wf_zero wc_eq put4_below)
open Ad (cutB atoiV)
theorem pairV_lt (c d : UInt8) : (pairV c d).1 < 256 := by
  have h : ∀ u : UInt8, ∀ x, hexV u = some x → x < 16 := by
    intro u x hx;unfold hexV at hx;split at hx
    · have := Option.some.inj hx; omega
    · split at hx
      · have := Option.some.inj hx; omega
      · split at hx
        · have := Option.some.inj hx; omega
        · cases hx
  unfold pairV;cases h1 : hexV c with
  | none => exact (by decide : (0 : Nat) < 256)
  | some x =>
    cases h2 : hexV d with
    | none => exact (by decide : (0 : Nat) < 256)
    | some y =>
      have a := h c x h1;have b := h d y h2;show x * 16 + y < 256;omega
theorem pub_pair (c d : UInt8) (w : World) (hE : Errs w) :
    Calls Tryz.prog 109 #[S [c, d], E 16, E 8] w fun e w' => ∃ ev, ErrIs (pairV c d).2 ev ∧ e = .returned (.tuple #[.int .u64 ((pairV c d).1 : Int), ev]) ∧ Below w.heap.size w w' := by
  refine (pub16_any [c, d] (by simp) (by simp) w hE).mono ?_;rintro e w' ⟨hp, hb⟩;rcases hexL_pair c d with ⟨x, y, h1, h2, h3, h4⟩ | ⟨h3, h4⟩
  · rcases hp with ⟨z, hz, rfl⟩ | ⟨hn, _⟩
    · rw [h3] at hz;obtain rfl := Option.some.inj hz;rw [h4];exact ⟨_, rfl, rfl, hb⟩
    · rw [h3] at hn; cases hn
  · rcases hp with ⟨z, hz, rfl⟩ | ⟨_, te, pe, rfl⟩
    · rw [h3] at hz; cases hz
    · rw [h4];exact ⟨_, ⟨te, pe, rfl⟩, rfl, hb⟩
/-- The reader, and a set in a block. -/
structure RS (w0 : World) (b : Nat) (r : Rd) (v : Value) (K : Nat) (s : List Nat) (w1 w : World) : Prop where
  rw : RW w0 b r v w
  kr : Kr b w1 v w v
  sb : SB w K s
  kb : K ≠ b
  kv : v.ownBlock ≠ some K
  k1 : w1.heap.size ≤ K
theorem RS.below {w0 w w' w1 : World} {b K : Nat} {r : Rd} {v : Value} {s : List Nat} (h : RS w0 b r v K s w1 w) (hb : Below w.heap.size w w') : RS w0 b r v K s w1 w' :=
  ⟨h.rw.below hb, h.kr.below hb, (hb.block K (lt_heap' h.sb)).trans h.sb, h.kb, h.kv, h.k1⟩
theorem RS.setBad {w0 w w1 : World} {b K : Nat} {r : Rd} {v : Value} {s : List Nat} (h : RS w0 b r v K s w1 w) (x : Bool) : RS w0 b ⟨r.rest, r.l, r.g, x⟩ v K s w1 (w.setCell ⟨b, 3, none⟩ (.bool x)) :=
  ⟨h.rw.setBad x, h.kr.set _ _, setne h.sb h.kb, h.kb, h.kv, h.k1⟩
theorem other_set {w0 w w1 : World} {b K : Nat} {r : Rd} {v v1 : Value} (h : RW w0 b r v w) (hk : Kr b w1 v1 w v) (kb : K ≠ b) (kv : v.ownBlock ≠ some K) (k0 : w0.heap.size ≤ K) (k1 : w1.heap.size ≤ K) (i : Nat) (u : Value) : RW w0 b r v (w.setCell ⟨K, i, none⟩ u) ∧ Kr b w1 v1 (w.setCell ⟨K, i, none⟩ u) v :=
  ⟨⟨setne h.rd (Ne.symm kb), ownsRow_setCell_other h.own kv _, h.ne, h.base, h.bel.setCell k0 _⟩,
   ⟨by have := hk.size; simpa using this, fun j h1 h2 h3 => ⟨(Below.heap_setCell w ⟨K, i, none⟩ u j (by show j ≠ K; omega)).trans (hk.far j h1 h2 h3).1, (hk.far j h1 h2 h3).2⟩⟩⟩
theorem RS.put {w0 w w1 : World} {b K : Nat} {r : Rd} {v : Value} {s : List Nat} (h : RS w0 b r v K s w1 w) (h01 : w0.heap.size ≤ w1.heap.size) (hs : Wf s) {t : List Nat} (ht : Wf t) : RS w0 b r v K t w1 (put4 w K t) := by
  have k0 : w0.heap.size ≤ K := Nat.le_trans h01 h.k1;have a1 := other_set h.rw h.kr h.kb h.kv k0 h.k1 0 (U (word t 0));have a2 := other_set a1.1 a1.2 h.kb h.kv k0 h.k1 1 (U (word t 1));have a3 := other_set a2.1 a2.2 h.kb h.kv k0 h.k1 2 (U (word t 2));have a4 := other_set a3.1 a3.2 h.kb h.kv k0 h.k1 3 (U (word t 3));exact ⟨a4.1, a4.2, h.sb.put hs ht, h.kb, h.kv, h.k1⟩
theorem RS.facts {w0 w w1 : World} {b K : Nat} {r : Rd} {v : Value} {s : List Nat} (h : RS w0 b r v K s w1 w) (hs : Wf s) :
    (w.cell? ⟨K, 0, none⟩ = some (U (word s 0)) ∧ w.cell? ⟨K, 1, none⟩ = some (U (word s 1)) ∧ w.cell? ⟨K, 2, none⟩ = some (U (word s 2)) ∧ w.cell? ⟨K, 3, none⟩ = some (U (word s 3))) ∧
    (w.frozen? ⟨K, 0, none⟩ = false ∧ w.frozen? ⟨K, 1, none⟩ = false ∧ w.frozen? ⟨K, 2, none⟩ = false ∧ w.frozen? ⟨K, 3, none⟩ = false) := by
  have h1 := h.sb;exact ⟨⟨h.sb.cell hs (by decide), h.sb.cell hs (by decide), h.sb.cell hs (by decide), h.sb.cell hs (by decide)⟩, by simp [World.frozen?, h1], by simp [World.frozen?, h1], by simp [World.frozen?, h1], by simp [World.frozen?, h1]⟩
theorem conv1 (d : UInt8) (W : World) : (convert 94 9 (.slice (some ⟨W.heap.size, 0, none⟩) 1 1)).run Tryz.prog (W.alloc (.cells #[.int .u8 (d.toNat : Int)] 5)) = .ok (S [d]) (W.alloc (.cells #[.int .u8 (d.toNat : Int)] 5)) :=
  run_convert_bytes_back (P := Tryz.prog) _ 94 9 5 ⟨W.heap.size, 0, none⟩ 1 [d] Tryz.underlying94 Tryz.underlying5 Tryz.underlying9 (by
    intro j hj;(obtain rfl : j = 0 := by simpa using hj);rw [Addr.add_lit, Lib.cell_of_heap (heap_alloc_new W _)];rfl)
theorem infoSet : (Tryz.prog.info? 45).map (·.size) = some 4 := by kernel_rfl
theorem ansS {fn : Func} {p : Tmp} (h : fn.results = #[.cell p 45]) {tmps : Array Value} {w : World} {g : Nat} {s : List Nat} (hp : tmps.getD p undef = .pointer (some ⟨g, 0, none⟩)) (hg : SB w g s) (hs : Wf s) :
    (results fn tmps).run Tryz.prog w = .ok (SV s) w :=
  results_cell_row h tmps w g 45 (St.wc s) (0, 0) (.array 4 43) hp hg Tryz.underlying45 rfl (by rw [wc_eq hs]; exact infoSet)
/-- The reader, beside a block. -/
structure RX (w0 : World) (b : Nat) (r : Rd) (v : Value) (K : Nat) (w1 w : World) : Prop where
  rw : RW w0 b r v w
  kr : Kr b w1 v w v
  kb : K ≠ b
  kv : v.ownBlock ≠ some K
  k1 : w1.heap.size ≤ K
theorem RS.rx {w0 w w1 : World} {b K : Nat} {r : Rd} {v : Value} {s : List Nat} (h : RS w0 b r v K s w1 w) : RX w0 b r v K w1 w := ⟨h.rw, h.kr, h.kb, h.kv, h.k1⟩
theorem RX.rs {w0 w w1 : World} {b K : Nat} {r : Rd} {v : Value} {s : List Nat} (h : RX w0 b r v K w1 w) (hs : SB w K s) : RS w0 b r v K s w1 w := ⟨h.rw, h.kr, hs, h.kb, h.kv, h.k1⟩
theorem RX.below {w0 w w' w1 : World} {b K : Nat} {r : Rd} {v : Value} (h : RX w0 b r v K w1 w) (hb : Below w.heap.size w w') : RX w0 b r v K w1 w' := ⟨h.rw.below hb, h.kr.below hb, h.kb, h.kv, h.k1⟩
theorem sb_below {w w' : World} {K : Nat} {s : List Nat} (h : SB w K s) (hb : Below w.heap.size w w') : SB w' K s := (hb.block K (lt_heap' h)).trans h
theorem sb_facts {w : World} {K : Nat} {s : List Nat} (h : SB w K s) (hs : Wf s) :
    (w.cell? ⟨K, 0, none⟩ = some (U (word s 0)) ∧ w.cell? ⟨K, 1, none⟩ = some (U (word s 1)) ∧ w.cell? ⟨K, 2, none⟩ = some (U (word s 2)) ∧ w.cell? ⟨K, 3, none⟩ = some (U (word s 3))) ∧
    (w.frozen? ⟨K, 0, none⟩ = false ∧ w.frozen? ⟨K, 1, none⟩ = false ∧ w.frozen? ⟨K, 2, none⟩ = false ∧ w.frozen? ⟨K, 3, none⟩ = false) := by
  have h1 := h;exact ⟨⟨h.cell hs (by decide), h.cell hs (by decide), h.cell hs (by decide), h.cell hs (by decide)⟩, by simp [World.frozen?, h1], by simp [World.frozen?, h1], by simp [World.frozen?, h1], by simp [World.frozen?, h1]⟩
open St (Wf word zeroW Tab SV SV_eq)
/-- The reader, a pointer to it, how deep, and a node. -/
structure ST (w0 : World) (b : Nat) (w1 : World) (v1 : Value) (left : Int) (n : Nd) (r : Rd) (v : Value) (w : World) : Prop where
 rw : RW w0 b r v w
 kr : Kr b w1 v1 w v
 p0 : w.heap[w1.heap.size]? = some (.cells #[PT b] 110 (0, 0))
 p1 : w.heap[w1.heap.size + 1]? = some (.cells #[E left] 3 (0, 0))
 p2 : NB w (w1.heap.size + 2) n
 kb : b < w1.heap.size
 h01 : w0.heap.size ≤ w1.heap.size
 own : ∀ k, w1.heap.size ≤ k → k < w1.heap.size + 3 → v.ownBlock ≠ some k
section
variable {w0 w1 w w' : World} {b : Nat} {v1 v v' : Value} {left : Int} {n : Nd} {r r' : Rd}
theorem ST.below (h : ST w0 b w1 v1 left n r v w) (hb : Below w.heap.size w w') : ST w0 b w1 v1 left n r v w' :=
 ⟨h.rw.below hb, h.kr.below hb, (hb.block _ (lt_heap' h.p0)).trans h.p0, (hb.block _ (lt_heap' h.p1)).trans h.p1, (hb.block _ (lt_heap' h.p2)).trans h.p2, h.kb, h.h01, h.own⟩
theorem ST.sz (h : ST w0 b w1 v1 left n r v w) : w1.heap.size + 3 ≤ w.heap.size := lt_heap' h.p2
/-- Behind a call that reads on. -/
theorem ST.step (h : ST w0 b w1 v1 left n r v w) (hr : RW w0 b r' v' w') (hk : Kr b w v w' v') : ST w0 b w1 v1 left n r' v' w' := by
 have hs := h.sz;have hkb := h.kb;have f0 := hk.far w1.heap.size (by omega) (by omega) (h.own _ (by omega) (by omega));have f1 := hk.far (w1.heap.size + 1) (by omega) (by omega) (h.own _ (by omega) (by omega));have f2 := hk.far (w1.heap.size + 2) (by omega) (by omega) (h.own _ (by omega) (by omega));refine ⟨hr, h.kr.trans hk, f0.1.trans h.p0, f1.1.trans h.p1, f2.1.trans h.p2, h.kb, h.h01, fun k h1 h2 => ?_⟩;rcases (show k = w1.heap.size ∨ k = w1.heap.size + 1 ∨ k = w1.heap.size + 2 by omega) with rfl | rfl | rfl
 · exact f0.2
 · exact f1.2
 · exact f2.2
theorem ST.setRest (h : ST w0 b w1 v1 left n r v w) (x : List UInt8) : ST w0 b w1 v1 left n ⟨x, r.l, r.g, r.bad⟩ v (w.setCell ⟨b, 0, none⟩ (S x)) :=
 h.step (h.rw.setRest x) ((Kr.refl b w v).set 0 (S x))
theorem ST.setG (h : ST w0 b w1 v1 left n r v w) (x : Int) : ST w0 b w1 v1 left n ⟨r.rest, r.l, x, r.bad⟩ v (w.setCell ⟨b, 2, none⟩ (E x)) :=
 h.step (h.rw.setG x) ((Kr.refl b w v).set 2 (E x))
theorem ST.setBad (h : ST w0 b w1 v1 left n r v w) (x : Bool) : ST w0 b w1 v1 left n ⟨r.rest, r.l, r.g, x⟩ v (w.setCell ⟨b, 3, none⟩ (.bool x)) :=
 h.step (h.rw.setBad x) ((Kr.refl b w v).set 3 (.bool x))
theorem ST.node (h : ST w0 b w1 v1 left n r v w) {i : Nat} {u : Value} {m : Nd} (e : (NC n).setIfInBounds i u = NC m) : ST w0 b w1 v1 left m r v (w.setCell ⟨w1.heap.size + 2, i, none⟩ u) := by
 have hs3 := h.sz;have ho := other_set (w1 := w1) h.rw h.kr (K := w1.heap.size + 2) (by have := h.kb; omega) (h.own (w1.heap.size + 2) (by omega) (by omega)) (by have := h.h01; omega) (by omega) i u;refine ⟨ho.1, ho.2, setne h.p0 (by omega), setne h.p1 (by omega), ?_, h.kb, h.h01, h.own⟩;have := Go.Joins.block_setCell h.p2 (i := i) u;rw [e] at this;exact this
theorem ST.facts (h : ST w0 b w1 v1 left n r v w) :
  (w.cell? ⟨w1.heap.size, 0, none⟩ = some (PT b) ∧ w.cell? ⟨w1.heap.size + 1, 0, none⟩ = some (E left)) ∧
  (w.cell? ⟨w1.heap.size + 1 + 1, 0, none⟩ = some (E n.k) ∧ w.cell? ⟨w1.heap.size + 1 + 1, 1, none⟩ = some (U (word n.s 0)) ∧ w.cell? ⟨w1.heap.size + 1 + 1, 2, none⟩ = some (U (word n.s 1)) ∧ w.cell? ⟨w1.heap.size + 1 + 1, 3, none⟩ = some (U (word n.s 2)) ∧ w.cell? ⟨w1.heap.size + 1 + 1, 4, none⟩ = some (U (word n.s 3)) ∧
   w.cell? ⟨w1.heap.size + 1 + 1, 5, none⟩ = some (E n.a) ∧ w.cell? ⟨w1.heap.size + 1 + 1, 6, none⟩ = some (E n.b) ∧ w.cell? ⟨w1.heap.size + 1 + 1, 7, none⟩ = some (E n.mn) ∧ w.cell? ⟨w1.heap.size + 1 + 1, 8, none⟩ = some (E n.mx) ∧ w.cell? ⟨w1.heap.size + 1 + 1, 9, none⟩ = some (E n.n)) ∧
  (∀ i, w.frozen? ⟨w1.heap.size + 1 + 1, i, none⟩ = false) :=
 ⟨⟨cell_of_one h.p0, cell_of_one h.p1⟩, ⟨(Lib.cell_of_heap h.p2 0).trans rfl, (Lib.cell_of_heap h.p2 1).trans rfl, (Lib.cell_of_heap h.p2 2).trans rfl, (Lib.cell_of_heap h.p2 3).trans rfl, (Lib.cell_of_heap h.p2 4).trans rfl, (Lib.cell_of_heap h.p2 5).trans rfl, (Lib.cell_of_heap h.p2 6).trans rfl, (Lib.cell_of_heap h.p2 7).trans rfl, (Lib.cell_of_heap h.p2 8).trans rfl, (Lib.cell_of_heap h.p2 9).trans rfl⟩, fun i => by have h2 := h.p2; simp [World.frozen?, h2]⟩
end
abbrev N0 : Nd := ⟨0, z4, 0, 0, 0, 0, 0⟩
/-- Where the reading of a node begins: the reader has been set already. -/
theorem st_from {w0 w1 w2 : World} {b : Nat} {r : Rd} {v : Value} (r1 : RW w0 b r v w2) (k1 : Kr b w1 v w2 v) (sz : w2.heap.size = w1.heap.size) (hlt : b < w1.heap.size) (hs : w0.heap.size ≤ w1.heap.size) (left : Int) (n : Nd) :
  ST w0 b w1 v left n r v (((w2.alloc (.cells #[PT b] 110)).alloc (.cells #[E left] 3)).alloc (.cells (NC n) 48)) := by
 have e0 := heap_alloc_new w2 (.cells #[PT b] 110);have e1 := heap_alloc_new (w2.alloc (.cells #[PT b] 110)) (.cells #[E left] 3);have e2 := heap_alloc_new ((w2.alloc (.cells #[PT b] 110)).alloc (.cells #[E left] 3)) (.cells (NC n) 48);have b3 := ((((Below.refl w2.heap.size w2).alloc (Nat.le_refl _) (.cells #[PT b] 110)).alloc (by simp) (.cells #[E left] 3)).alloc (by simp; omega) (.cells (NC n) 48));(have s1 : (w2.alloc (.cells #[PT b] 110)).heap.size = w1.heap.size + 1 := by simp [sz]);(have s2 : ((w2.alloc (.cells #[PT b] 110)).alloc (.cells #[E left] 3)).heap.size = w1.heap.size + 2 := by simp [sz]);rw [sz] at e0;rw [s1] at e1;rw [s2] at e2;refine ⟨r1.below b3, k1.below b3, ?_, ?_, ?_, hlt, hs, ?_⟩
 · exact (Below.heap_alloc _ _ _ (by rw [s2]; omega)).trans ((Below.heap_alloc _ _ _ (by rw [s1]; omega)).trans e0)
 · exact (Below.heap_alloc _ _ _ (by rw [s2]; omega)).trans e1
 · exact e2
 ·
  intro k h1 h2 q;rcases own_forms r1.own with ⟨rfl, _⟩ | ⟨g, cap, rfl, _⟩
  · cases q
  · have h3 := (r1.own.lt g rfl).2;simp only [Value.ownBlock, Option.some.injEq] at q;omega
theorem ST.dr {w0 w1 w : World} {b : Nat} {v1 v : Value} {left : Int} {n : Nd} {r : Rd} (h : ST w0 b w1 v1 left n r v w) : ST w0 b w1 v1 left n r v w.drew := h.below (Below.refl _ _).drew
theorem st_start {w0 w1 : World} {b : Nat} {r : Rd} {v : Value} (h : RW w0 b r v w1) (left : Int) (x : List UInt8) (n : Nd) :
  ST w0 b w1 v left n ⟨x, r.l, r.g, r.bad⟩ v ((((w1.setCell ⟨b, 0, none⟩ (S x)).alloc (.cells #[PT b] 110)).alloc (.cells #[E left] 3)).alloc (.cells (NC n) 48)).drew :=
 st_from (h.setRest x) ((Kr.refl b w1 v).set 0 (S x)) (by simp) h.lt h.bel.size left n |>.dr
/-- A node pushed. -/
theorem rw_push {w0 w w' : World} {b gg cap : Nat} {r : Rd} {v : Value} {n : Nd} (h : RW w0 b r v w)
  (hown : w'.ownsRow w0.heap.size 48 10 (.slice (some ⟨gg, 0, none⟩) (r.l.length + 1) cap) (r.l.length + 1) (flat r.l ++ (NC n).toList)) (hgrow : w.grownBy w' v.ownBlock) (hg : v.ownBlock = some gg ∨ gg = w.heap.size) :
  RW w0 b ⟨r.rest, r.l ++ [n], r.g, r.bad⟩ (.slice (some ⟨gg, 0, none⟩) (r.l.length + 1) cap) (w'.setCell ⟨b, 1, none⟩ (.slice (some ⟨gg, 0, none⟩) (r.l.length + 1) cap)) ∧
   Kr b w v (w'.setCell ⟨b, 1, none⟩ (.slice (some ⟨gg, 0, none⟩) (r.l.length + 1) cap)) (.slice (some ⟨gg, 0, none⟩) (r.l.length + 1) cap) := by
 have hlt := h.lt;have hgb : gg ≠ b := by
  rcases hg with hg | hg
  · intro q; exact h.ne (by rw [hg, q])
  · omega
 (have e1 : (r.l ++ [n]).length = r.l.length + 1 := by simp);have hown2 := hown;rw [show (flat r.l ++ (NC n).toList) = flat (r.l ++ [n]) from by rw [flat_append, flat_one]] at hown2;refine ⟨⟨?_, ?_, ?_, h.base, ?_⟩, ?_⟩
 · exact Go.Joins.block_setCell ((hgrow.block b hlt (Ne.symm h.ne)).trans h.rd) (i := 1) _
 · show World.ownsRow _ _ _ _ _ (r.l ++ [n]).length _;rw [e1];exact ownsRow_setCell_other hown2 (by simp only [Value.ownBlock, ne_eq, Option.some.injEq]; exact hgb) _
 · simp only [Value.ownBlock, ne_eq, Option.some.injEq]; exact hgb
 · exact (h.bel.grown hgrow h.bel.size (own_ge h.own)).setCell h.base _
 ·
  refine Kr.set ⟨hgrow.size, fun k h1 h2 h3 => ⟨hgrow.block k h1 (Ne.symm h3), ?_⟩⟩ 1 _;simp only [Value.ownBlock, ne_eq, Option.some.injEq];rcases hg with hg | hg
  · intro q; exact h3 (by rw [hg, q])
  · omega
theorem news_row {w : World} {n : Nd} : ∀ j u, (NC n).toList[j]? = some u → (w.alloc (.cells (NC n) 48)).cell? ((⟨w.heap.size, 0, none⟩ : Addr).add j) = some u := by
 intro j u hj;rw [Addr.add_lit, Lib.cell_of_heap (heap_alloc_new _ _), Nat.zero_add];simpa using hj
theorem one_row (n : Nd) : ∀ u ∈ (NC n).toList, u.oneCell' = true := by
 intro u hu;refine flat_cells [n] u ?_;rw [flat_one]; exact hu
open St (Wf word zeroW Tab SV SV_eq wf_two wf_orL wf_ofL wf_zero orL ofL)
def NodeAns (w0 : World) (b left : Nat) (r : Rd) (v : Value) (w : World) (e : Ending) (w' : World) : Prop :=
 ∃ v', e = .returned (E ((nodeP left r).2 : Nat)) ∧ RW w0 b (nodeP left r).1 v' w' ∧ Kr b w v w' v'
/-- What may be read on. -/
structure Rin (r : Rd) : Prop where
 len : r.rest.length + r.l.length ≤ 100000
 g0 : 0 ≤ r.g
 g1 : r.g + r.rest.length ≤ 100000
theorem own_slice {w : World} {B e n z : Nat} {v : Value} {xs : List Value} (h : w.ownsRow B e z v n xs) : ∃ ao cap, v = .slice ao n cap := by
 rcases own_forms h with ⟨rfl, h0⟩ | ⟨g, cap, rfl, _⟩
 · exact ⟨none, 0, by rw [h0]⟩
 · exact ⟨_, _, rfl⟩
/-- What the last region holds: the pointer, and the node. -/
def SQ (w1 : World) (b : Nat) (n : Nd) (w : World) : Prop := w.heap[w1.heap.size]? = some (.cells #[PT b] 110 (0, 0)) ∧ NB w (w1.heap.size + 2) n
theorem sq_of {w0 w1 w : World} {b : Nat} {v1 v : Value} {lf : Int} {n : Nd} {r : Rd} (h : ST w0 b w1 v1 lf n r v w) : SQ w1 b n w := ⟨h.p0, h.p2⟩
theorem sq_cells {w1 w : World} {b : Nat} {n : Nd} (h : SQ w1 b n w) :
  (w.cell? ⟨w1.heap.size + 1 + 1, 0, none⟩ = some (E n.k) ∧ w.cell? ⟨w1.heap.size + 1 + 1, 1, none⟩ = some (U (word n.s 0)) ∧ w.cell? ⟨w1.heap.size + 1 + 1, 2, none⟩ = some (U (word n.s 1)) ∧ w.cell? ⟨w1.heap.size + 1 + 1, 3, none⟩ = some (U (word n.s 2)) ∧ w.cell? ⟨w1.heap.size + 1 + 1, 4, none⟩ = some (U (word n.s 3)) ∧
   w.cell? ⟨w1.heap.size + 1 + 1, 5, none⟩ = some (E n.a) ∧ w.cell? ⟨w1.heap.size + 1 + 1, 6, none⟩ = some (E n.b) ∧ w.cell? ⟨w1.heap.size + 1 + 1, 7, none⟩ = some (E n.mn) ∧ w.cell? ⟨w1.heap.size + 1 + 1, 8, none⟩ = some (E n.mx) ∧ w.cell? ⟨w1.heap.size + 1 + 1, 9, none⟩ = some (E n.n)) ∧
  w.cell? ⟨w1.heap.size, 0, none⟩ = some (PT b) :=
 ⟨⟨(Lib.cell_of_heap h.2 0).trans rfl, (Lib.cell_of_heap h.2 1).trans rfl, (Lib.cell_of_heap h.2 2).trans rfl, (Lib.cell_of_heap h.2 3).trans rfl, (Lib.cell_of_heap h.2 4).trans rfl, (Lib.cell_of_heap h.2 5).trans rfl, (Lib.cell_of_heap h.2 6).trans rfl, (Lib.cell_of_heap h.2 7).trans rfl, (Lib.cell_of_heap h.2 8).trans rfl, (Lib.cell_of_heap h.2 9).trans rfl⟩, cell_of_one h.1⟩
theorem sq_grown {w0 w1 w w' : World} {b : Nat} {v1 v : Value} {lf : Int} {n : Nd} {r : Rd} (h : ST w0 b w1 v1 lf n r v w) (hg : w.grownBy w' v.ownBlock) : SQ w1 b n w' :=
 ⟨(hg.block _ (lt_heap' h.p0) (Ne.symm (h.own _ (by omega) (by omega)))).trans h.p0, (hg.block _ (lt_heap' h.p2) (Ne.symm (h.own _ (by omega) (by omega)))).trans h.p2⟩
theorem fz_grown {w0 w1 w w' : World} {b : Nat} {v1 v : Value} {lf : Int} {n : Nd} {r : Rd} (h : ST w0 b w1 v1 lf n r v w) (hg : w.grownBy w' v.ownBlock) (i : Nat) : w'.frozen? ⟨b, i, none⟩ = false := by
 have e := (hg.block _ h.rw.lt (Ne.symm h.rw.ne)).trans h.rw.rd;simp [World.frozen?, e]
theorem wf_pairs : ∀ (x : List UInt8) (s : List Nat) (bad : Bool), Wf s → Wf (pairsP x s bad).1
 | [], s, bad, h => h
 | [_], s, bad, h => h
 | c :: d :: r, s, bad, h => by
  unfold pairsP;exact wf_pairs r _ _ (wf_orL (wf_two h (wf_ofL _)))
theorem wf_set (r : Rd) : Wf (setP r).2 := wf_pairs _ _ _ wf_zero
theorem cell_grown {w0 w1 w w' : World} {b : Nat} {v1 v : Value} {lf : Int} {n : Nd} {r : Rd} (h : ST w0 b w1 v1 lf n r v w) (hg : w.grownBy w' v.ownBlock) : w'.cell? ⟨b, 1, none⟩ = some v := by
 have e := (hg.block _ h.rw.lt (Ne.symm h.rw.ne)).trans h.rw.rd;exact (Lib.cell_of_heap e 1).trans rfl
/-- .. and what is left of the text. -/
def SR (w1 : World) (b : Nat) (n : Nd) (x : List UInt8) (w : World) : Prop := SQ w1 b n w ∧ w.cell? ⟨b, 0, none⟩ = some (S x)
theorem cut_le (c : UInt8) (x : List UInt8) : (cutB c x).2.1.length ≤ x.length := by
 rcases ibyte c x with ⟨_, h2⟩ | ⟨k, _, _, h2⟩ <;> rw [h2] <;> simp
/-- Less is left, no group is taken back. -/
structure Le (r r' : Rd) : Prop where
 len : r'.rest.length + r'.l.length ≤ r.rest.length + r.l.length
 g0 : r.g ≤ r'.g
 g1 : r'.g + r'.rest.length ≤ r.g + r.rest.length
theorem Le.trans {a b c : Rd} (h : Le a b) (k : Le b c) : Le a c := ⟨Nat.le_trans k.len h.len, Int.le_trans h.g0 k.g0, Int.le_trans k.g1 h.g1⟩
theorem Le.rin {a b : Rd} (h : Le a b) (k : Rin a) : Rin b := ⟨Nat.le_trans h.len k.len, Int.le_trans k.g0 h.g0, Int.le_trans h.g1 k.g1⟩
theorem Le.refl (a : Rd) : Le a a := ⟨Nat.le_refl _, Int.le_refl _, Int.le_refl _⟩
theorem le_num (c : UInt8) (r : Rd) : Le r (numP c r).1 := by
 have := cut_le c r.rest;unfold numP untilP;exact ⟨by dsimp only; omega, Int.le_refl _, by dsimp only; omega⟩
theorem le_set (r : Rd) : Le r (setP r).1 := by
 have := cut_le 93 r.rest;unfold setP untilP;exact ⟨by dsimp only; omega, Int.le_refl _, by dsimp only; omega⟩
theorem close_nil (l : List Nd) (g : Int) (bad : Bool) : closeP ⟨[], l, g, bad⟩ = ⟨[], l, g, true⟩ := rfl
theorem close_cons (c : UInt8) (t : List UInt8) (l : List Nd) (g : Int) (bad : Bool) : closeP ⟨c :: t, l, g, bad⟩ = if c = 41 then ⟨t, l, g, bad⟩ else ⟨c :: t, l, g, true⟩ := rfl
theorem le_any (x : List UInt8) (l : List Nd) (g : Int) (b b' : Bool) : Le ⟨x, l, g, b⟩ ⟨x, l, g, b'⟩ := ⟨Nat.le_refl _, Int.le_refl _, Int.le_refl _⟩
theorem le_tail (c : UInt8) (x : List UInt8) (l : List Nd) (g : Int) (b b' : Bool) : Le ⟨c :: x, l, g, b⟩ ⟨x, l, g, b'⟩ := ⟨by simp, Int.le_refl _, by simp; omega⟩
theorem le_close (r : Rd) : Le r (closeP r) := by
 obtain ⟨rest, l, g, bad⟩ := r;cases rest with
 | nil => rw [close_nil]; exact le_any _ _ _ _ _
 | cons c t =>
  rw [close_cons];split
  · exact le_tail _ _ _ _ _ _
  · exact le_any _ _ _ _ _
theorem ref_nil (l : List Nd) (g : Int) (bad : Bool) : refP ⟨[], l, g, bad⟩ = (⟨[], l, g, true⟩, 0) := rfl
theorem ref_cons (c : UInt8) (t : List UInt8) (l : List Nd) (g : Int) (bad : Bool) : refP ⟨c :: t, l, g, bad⟩ = (⟨t, l, g, false⟩, (c.toNat : Int) - 48) := rfl
theorem le_ref (r : Rd) : Le r (refP r).1 := by
 obtain ⟨rest, l, g, bad⟩ := r;cases rest with
 | nil => rw [ref_nil]; exact le_any _ _ _ _ _
 | cons c t => rw [ref_cons]; exact le_tail _ _ _ _ _ _
theorem le_push {c : UInt8} {t : List UInt8} {l : List Nd} {g : Int} {bad bad' : Bool} {r : Rd} (h : Le ⟨t, l, g, bad⟩ r) (n : Nd) : Le ⟨c :: t, l, g, bad'⟩ (pushP r n).1 := by
 obtain ⟨h1, h2, h3⟩ := h;dsimp only at h1 h2 h3;unfold pushP;exact ⟨by simp; omega, h2, by simp; omega⟩
theorem le_push1 {c : UInt8} {t : List UInt8} {l : List Nd} {g : Int} {bad bad' : Bool} {r : Rd} (h : Le ⟨t, l, g + 1, bad⟩ r) (n : Nd) : Le ⟨c :: t, l, g, bad'⟩ (pushP r n).1 := by
 obtain ⟨h1, h2, h3⟩ := h;dsimp only at h1 h2 h3;unfold pushP;exact ⟨by simp; omega, by show g ≤ r.g; omega, by simp; omega⟩
theorem le_node : ∀ (left : Nat) (r : Rd), Le r (nodeP left r).1
 | 0, r => ⟨Nat.le_refl _, Int.le_refl _, Int.le_refl _⟩
 | left + 1, ⟨rest, l, g, bad⟩ => by
  unfold nodeP;split
  · exact ⟨Nat.le_refl _, Int.le_refl _, Int.le_refl _⟩
  cases rest with
  | nil => exact ⟨Nat.le_refl _, Int.le_refl _, Int.le_refl _⟩
  | cons c t =>
   dsimp only;split
   · exact le_push (Le.refl _) _
   split
   · exact le_push (le_set _) _
   split
   · exact le_push (Le.refl _) _
   split
   · exact le_push (Le.refl _) _
   split
   · exact le_push ((le_node left _).trans (le_node left _)) _
   split
   · exact le_push ((le_num 44 _).trans ((le_num 59 _).trans (le_node left _))) _
   split
   · exact le_push1 ((le_node left _).trans (le_close _)) _
   split
   · exact le_push (le_ref _) _
   · exact le_push (bad := true) (Le.refl _) _
open Tr
open St (Wf bytesL)
/-- How long a text may be. -/
theorem text_len (em : Prop) : ∀ t : Tr, t.Fine em → (textT t).length ≤ 514 * t.size := by
 have hx : ∀ l : List UInt8, (l.flatMap hexB).length = 2 * l.length := by
  intro l
  induction l with
  | nil => rfl
  | cons b r ih => rw [List.flatMap_cons, List.length_append, ih]; simp [hexB]; omega
 have hi : ∀ {n : Int}, -1 ≤ n → n ≤ 255 → (Lib.itoa n).length ≤ 10 := by
  intro n h0 h;unfold Lib.itoa;split
  · have := Ad.dec_len n.natAbs (by omega);simp; omega
  · have := Ad.dec_len n.toNat (by omega);omega
 intro t
 induction t with
 | e | beg | fin => intro _; simp [textT, size]
 | set s =>
  intro _;(have h1 : (bytesL s).length ≤ 256 := by rw [St.bytesL_len]; exact St.bytesN_len s);simp only [textT, size, List.length_cons, List.length_append, hx, List.length_nil];omega
 | ref n =>
  intro hf;have := hi (show -1 ≤ n by have := hf.1; omega) (by have := hf.2; omega);simp only [textT, size, List.length_cons];omega
 | cat x y ihx ihy | alt x y ihx ihy =>
  intro hf;have h1 := ihx hf.1;have h2 := ihy hf.2.1;simp only [textT, size, List.length_cons, List.length_append];omega
 | times mn mx x ihx =>
  intro hf;have h1 := ihx hf.1;have h2 := hi (show -1 ≤ mn by have := hf.2.1; omega) hf.2.2.1;have h3 := hi (show -1 ≤ mx by have := hf.2.2.2.1; omega) (by have := hf.2.2.2.1; omega);simp only [textT, size, List.length_cons, List.length_append];omega
 | grp n x ihx =>
  intro hf;have h1 := ihx hf.1;simp only [textT, size, List.length_cons, List.length_append, List.length_nil];omega
/-- What a node is told by, where its parts are told. -/
def nodeS (n : Nd) (b : List UInt8) : List UInt8 :=
 if n.k = 0 then [101] else if n.k = 1 then 91 :: ((bytesL n.s).flatMap hexB ++ [93]) else if n.k = 2 then [94] else if n.k = 3 then [36]
 else if n.k = 4 then 38 :: b else if n.k = 5 then 124 :: b else if n.k = 6 then 42 :: (Lib.itoa n.mn ++ 44 :: (Lib.itoa n.mx ++ 59 :: b))
 else if n.k = 7 then 40 :: (b ++ [41]) else 92 :: Lib.itoa n.n
theorem texts_step {n : Nd} {ts : List Tr} (hok : OneN n) (hp : parts n ≤ ts.length) :
  (build n ts).map textT = (ts.map textT).take (ts.length - parts n) ++ [nodeS n ((ts.map textT).drop (ts.length - parts n)).flatten] := by
 obtain ⟨k, s, a, b, mn, mx, m⟩ := n;have leaf : ∀ (t : Tr), parts ⟨k, s, a, b, mn, mx, m⟩ = 0 → build ⟨k, s, a, b, mn, mx, m⟩ ts = ts ++ [t] → (∀ z, textT t = nodeS ⟨k, s, a, b, mn, mx, m⟩ z) → (build ⟨k, s, a, b, mn, mx, m⟩ ts).map textT = (ts.map textT).take (ts.length - parts ⟨k, s, a, b, mn, mx, m⟩) ++ [nodeS ⟨k, s, a, b, mn, mx, m⟩ ((ts.map textT).drop (ts.length - parts ⟨k, s, a, b, mn, mx, m⟩)).flatten] := by
  intro t h1 h2 h3;rw [h1, h2, Nat.sub_zero, List.take_of_length_le (by simp), ← h3, List.map_append];rfl
 have one : parts ⟨k, s, a, b, mn, mx, m⟩ = 1 → ∃ us x, ts = us ++ [x] := by
  intro h;rw [h] at hp;obtain ⟨us, x, rfl, _⟩ := split_one (show ts.length = (ts.length - 1) + 1 by omega);exact ⟨us, x, rfl⟩
 have two : parts ⟨k, s, a, b, mn, mx, m⟩ = 2 → ∃ us x y, ts = us ++ [x, y] := by
  intro h;rw [h] at hp;obtain ⟨p, y, rfl, hpl⟩ := split_one (show ts.length = (ts.length - 1) + 1 by omega);obtain ⟨us, x, rfl, _⟩ := split_one (show p.length = (p.length - 1) + 1 by simp at hp; omega);exact ⟨us, x, y, by simp⟩
 have fin : ∀ (us vs : List Tr) (t : Tr), ts = us ++ vs → parts ⟨k, s, a, b, mn, mx, m⟩ = vs.length → build ⟨k, s, a, b, mn, mx, m⟩ ts = us ++ [t] → textT t = nodeS ⟨k, s, a, b, mn, mx, m⟩ (vs.map textT).flatten →
   (build ⟨k, s, a, b, mn, mx, m⟩ ts).map textT = (ts.map textT).take (ts.length - parts ⟨k, s, a, b, mn, mx, m⟩) ++ [nodeS ⟨k, s, a, b, mn, mx, m⟩ ((ts.map textT).drop (ts.length - parts ⟨k, s, a, b, mn, mx, m⟩)).flatten] := by
  rintro us vs t rfl h1 h2 h3;(have e : (us ++ vs).length - vs.length = (us.map textT).length := by simp);rw [h2, h1, e, List.map_append, List.map_append, List.take_left, List.drop_left, ← h3];rfl
 simp only [OneN] at hok;rcases hok with ⟨hk, rfl, rfl, rfl, rfl, rfl, rfl⟩ | ⟨rfl, hs, rfl, rfl, rfl, rfl, rfl⟩ | ⟨hk, rfl, rfl, rfl, rfl⟩ | ⟨rfl, rfl, rfl, rfl, h6, h7, h8⟩ | ⟨rfl, rfl, rfl, rfl, rfl, h6, h7⟩ | ⟨rfl, rfl, rfl, rfl, rfl, rfl, h6, h7⟩
 ·
  rcases hk with rfl | rfl | rfl
  · exact leaf .e rfl rfl (fun _ => rfl)
  · exact leaf .beg rfl rfl (fun _ => rfl)
  · exact leaf .fin rfl rfl (fun _ => rfl)
 · exact leaf (.set s) rfl rfl (fun _ => rfl)
 ·
  rcases hk with rfl | rfl
  · obtain ⟨us, x, y, rfl⟩ := two rfl;exact fin us [x, y] (.cat x y) rfl rfl (by simp [build]) (by simp [textT, nodeS])
  · obtain ⟨us, x, y, rfl⟩ := two rfl;exact fin us [x, y] (.alt x y) rfl rfl (by simp [build]) (by simp [textT, nodeS])
 · obtain ⟨us, x, rfl⟩ := one rfl;exact fin us [x] (.times mn mx x) rfl rfl (by simp [build]) (by simp [textT, nodeS])
 · obtain ⟨us, x, rfl⟩ := one rfl;exact fin us [x] (.grp m x) rfl rfl (by simp [build]) (by simp [textT, nodeS])
 · exact leaf (.ref m) rfl rfl (fun _ => rfl)
/-- The texts on the stack. -/
def tx (l : List Nd) (k : Nat) : List (List UInt8) := (treesRun l k).map textT
theorem ord_at {l : List Nd} {st : List Nat} (h : ordRun l l.length = some st) : ∀ k, k ≤ l.length → ∃ st', ordRun l k = some st' := by
 intro k hk;cases e : ordRun l k with
 | some s => exact ⟨s, rfl⟩
 | none =>
  exfalso;have : ∀ j, ordRun l (k + j) = none := by
   intro j
   induction j with
   | zero => exact e
   | succ j ih =>
    show (ordRun l (k + j)).bind _ = none;rw [ih]; rfl
  have h2 := this (l.length - k);rw [show k + (l.length - k) = l.length by omega, h] at h2;cases h2
theorem rootsL_len' (ts : List Tr) : (rootsL ts 0).length = ts.length := rootsL_len ts 0
theorem texts_len (em : Prop) : ∀ ts : List Tr, (∀ t ∈ ts, t.Fine em) → (ts.map textT).flatten.length ≤ 514 * sizeL ts
 | [], _ => by simp [sizeL]
 | t :: ts, h => by
  have h1 := text_len em t (h t (by simp));have h2 := texts_len em ts (fun u hu => h u (by simp [hu]));simp only [List.map_cons, List.flatten_cons, List.length_append, sizeL];omega
/-- One step of the stack of texts. -/
theorem tx_step {l : List Nd} {st : List Nat} (h : ordRun l l.length = some st) {k : Nat} (hk : k < l.length) :
  OneN l[k] ∧ parts l[k] ≤ (tx l k).length ∧ tx l (k + 1) = (tx l k).take ((tx l k).length - parts l[k]) ++ [nodeS l[k] ((tx l k).drop ((tx l k).length - parts l[k])).flatten] ∧ (tx l k).flatten.length ≤ 514 * k ∧ (tx l k).length ≤ k := by
 obtain ⟨s1, h1⟩ := ord_at h k (by omega);obtain ⟨s2, h2⟩ := ord_at h (k + 1) (by omega);obtain ⟨hf, hn, hr⟩ := run_trees l k s1 h1;have hl : l[k]? = some l[k] := List.getElem?_eq_getElem hk;have hok : StepOk l l[k] s1 := by
  have h2' : (ordRun l k).bind _ = some s2 := h2;rw [h1] at h2';rw [show (some s1).bind _ = (match l[k]? with | none => none | some n => if StepOk l n s1 then some (push n k s1) else none) from rfl, hl] at h2';dsimp only at h2';split at h2'
  · assumption
  · cases h2'
 (have hlen : (treesRun l k).length = s1.length := by rw [hr, rootsL_len']);(have e : treesRun l (k + 1) = build l[k] (treesRun l k) := by simp only [treesRun, hl]);have hsz : sizeL (treesRun l k) = k := by
  have := congrArg List.length hn;rw [List.length_take, nodesL_len] at this;omega
 have hb : ∀ ts : List Tr, ts.length ≤ sizeL ts := by
  intro ts
  induction ts with
  | nil => simp [sizeL]
  | cons t ts ih => have := size_pos t; simp only [List.length_cons, sizeL]; omega
 refine ⟨hok.1, by unfold tx; rw [List.length_map, hlen]; exact hok.2.1, ?_, ?_, ?_⟩
 · unfold tx;rw [e, texts_step hok.1 (by rw [hlen]; exact hok.2.1), List.length_map]
 · have := texts_len _ _ hf;rw [hsz] at this;exact this
 · unfold tx;rw [List.length_map];have := hb (treesRun l k);omega
theorem tx_end {t : Tr} (h : Good t) : tx (t.nodes 0) t.size = [textT t] := by
 obtain ⟨i, hi⟩ := (ordered_iff (t.nodes 0)).2 ⟨t, h.1, rfl⟩;obtain ⟨hf, hn, hr⟩ := run_trees _ _ _ hi;rw [List.take_length] at hn;rw [nodes_len] at hr hn hi;unfold tx;generalize treesRun (t.nodes 0) t.size = ts at *
 match ts, hr with
 | [u], hr =>
  (have e : t.nodes 0 = u.nodes 0 := by rw [hn]; simp [nodesL]);obtain rfl := nodes_inj t u 0 e;rfl
 | [], hr => simp [rootsL] at hr
 | _ :: _ :: _, hr => simp [rootsL] at hr
theorem flat_drop (X : List (List UInt8)) (m : Nat) : (X.drop m).flatten.length ≤ X.flatten.length := by
 have := congrArg List.length (congrArg List.flatten (List.take_append_drop m X));rw [List.flatten_append, List.length_append] at this;omega
end Go.Proofs.YthpiapemjadgdaaGreatDoor.Rx
