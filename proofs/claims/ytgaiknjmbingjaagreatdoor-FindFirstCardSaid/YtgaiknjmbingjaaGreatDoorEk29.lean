/- The texts M6G M6N M6O FnN M6H. -/
import Derived.Test.YtgaiknjmbingjaaGreatDoorEk28
set_option linter.unusedVariables false
set_option linter.unusedSimpArgs false
set_option maxHeartbeats 6400000
set_option maxRecDepth 100000
namespace Go.Proofs.YtgaiknjmbingjaaGreatDoor.Mt
open Go.RowKit Go.Shelf
open Rx
open Rx.Tr
open Go.Proofs.YtgaiknjmbingjaaGreatDoor.Fn
open St (Wf word mem SV SV_eq)
def LongT (w : World) (tv : Value) (N : Nat) (F : Nat -> Option Caps) : Prop := ∀ (W : World) (i : Nat), Below w.heap.size w W -> i <= N ->
 Calls Tryz.prog 34 #[tv, E (i : Nat)] W fun e w' => e = .returned (ansC (F i)) /\ Below W.heap.size W w'
theorem LongT.below {w w1 : World} {tv : Value} {N : Nat} {F : Nat -> Option Caps} (h : LongT w tv N F) (hb : Below w.heap.size w w1) : LongT w1 tv N F := fun W i hW hi => h W i (hb.trans (hW.mono hb.size)) hi
def TForm (tv : Value) : Prop := ∃ ao n c y go gn gc, tv = .agg #[.slice ao n c, S y, .slice go gn gc]
theorem rmake_any (l : List Nd) (hw : ∀ n ∈ l, Wf n.s) (hTo : ToldOk) (T : List UInt8) (hT : T.length <= 100) (ao : Option Addr) (c : Nat) (w : World) (h : Ns w (.slice ao l.length c) l) :
  Calls Tryz.prog 21 #[.slice ao l.length c, S T] w fun e w' => ∃ tv, e = .returned tv /\ TForm tv /\ LongT w' tv T.length (FL l T) /\ Below w.heap.size w w' := by
 refine (rmakeW_any l hw hTo T hT ao c w h).mono ?_;rintro e w' ⟨a2, n2, c2, y, go, gn, gc, rfl, hy, hW, hb⟩;refine ⟨_, rfl, ⟨_, _, _, _, _, _, _, rfl⟩, fun W i hb2 hi => ?_, hb⟩;rw [show FL l T i = longL l T (i : Nat) from ?_]
 · exact rlongT l T hT a2 n2 c2 y go gn gc hy W (hW.below hb2) (i : Nat)
 ·
  unfold FL;cases hp : patOf l with
  | none => rw [longL_none hp]
  | some t =>
   obtain ⟨rfl, hg⟩ := patOf_some hp;rw [longL_some hg T hi]
theorem rfirst_from (ao : Option Addr) (n c : Nat) (y : List UInt8) (go : Option Addr) (gn gc : Nat) (T : List UInt8) (hT : T.length <= 100000) (F : Nat -> Option Caps) (w : World) (hlo : LongT w (.agg #[.slice ao n c, S y, .slice go gn gc]) T.length F) (at0 : Int) (s : Nat) (hs : (s = 0 /\ at0 < 0) \/ at0 = (s : Nat)) (hs2 : at0 <= 9223372036854775807) (R : Option Caps) (hR : R = firstF F T.length s) :
  Calls Tryz.prog 20 #[(.agg #[.slice ao n c, S y, .slice go gn gc]), S T, E at0] w fun e w' => e = .returned (ansC R) /\ Below w.heap.size w w' := by
 have HT0 := Hd (tb_start w (.slice ao n c) (.slice go gn gc) y);have HLO := Hd hlo;have HNA := Hd (fun W => rnone_any W);have HRR := Hd hR;have HT := Hd hT;(have hsz : (ByteArray.mk T.toArray).size = T.length := by simp [ByteArray.size]);have hmx : (if (0 : Int) <= at0 then at0 else 0) = (s : Int) := by
  rcases hs with ⟨h1, h2⟩ | h
  · rw [if_neg (by omega)]; omega
  · rw [if_pos (by omega), h]
 (have hmx2 : max at0 0 = (s : Int) := by omega);have HS := Hd (show (s : Int) <= 9223372036854775807 from by omega);clear hlo hR hT hs hs2;go_enter Tryz.func20, Tryz.ntmps20;rw [show Code.region 1 = Fz 1 from rfl];go_wp2;refine at_world (p := fun V => TB w V (.slice ao n c) (.slice go gn gc) y) HT0.out (fun V hV => ?_);have HV := Hd hV;clear hV HT0;rw [show Fz 1 = Code.region 1 from rfl];go_wp2;go_loopg [8] (T.length + 1 - s) (fun m kv wr => ∃ k : Nat, m = T.length + 1 - k /\ (k : Int) <= 9223372036854775807 /\ kv = .int .i64 (k : Nat) /\ Hid (R = firstF F T.length k) /\ Hid (TB w wr (.slice ao n c) (.slice go gn gc) y));(case atStart => exact ⟨s, rfl, HS.out, rfl, HRR, HV⟩);case round =>
  clear HV HRR;obtain ⟨k, hm, hk, rfl, HR, HB⟩ := hrel;subst hm;by_cases hlt : k <= T.length
  ·
   (have hle : (k : Int) <= (T.length : Int) := by omega);(have hwk : IntKind.i64.wrap ((k : Int) + 1) = (k : Int) + 1 := by rw [IntKind.wrap_i64]; have := HT.out; omega);have HK := Hd hlt;have hst := first_step F hlt;(have hloq := fun (W : World) (hb : Below w.heap.size w W) => HLO.out W k hb hlt);obtain ⟨x0, x1, x2⟩ := tw_cells (show TW w (.slice ao n c) (.slice go gn gc) y wr from HB.out.bx);clear hlt hk;cases hF : F k with
   | none =>
    rw [hF] at hst hloq;have HST := Hd hst;have HLQ := Hd hloq;clear hst hloq;go_wp2_with (first
     | (go_at_call 34; refine (HLQ.out _ HB.out.bel).mono ?_; rintro e w3 ⟨he, hb⟩; rw [show ansC none = .tuple #[CV nones, .bool false] from rfl] at he; subst he; have HB3 := Hd (HB.out.below hb); clear hb HB)
     | (refine st6 9 23 nones (heap_alloc_new _ _) ?_; rw [box_laid6]; have HB4 := Hd (HB3.out.box nones).1; clear HB3; generalize World.alloc _ _ = W4 at HB4 ⊢))
    go_roundg (T.length - k);(case measure => have := HK.out; omega);case rel => exact ⟨k + 1, by omega, by have := HK.out; have := HT.out; omega, by go_num, Hd (by rw [HR.out, HST.out]), HB4⟩
   | some a1 =>
    rw [hF] at hst hloq;have HST := Hd hst;have HLQ := Hd hloq;have HR0 := HR;clear hst hloq HR;go_wp2_with (first
     | (go_at_call 34; refine (HLQ.out _ HB.out.bel).mono ?_; rintro e w3 ⟨he, hb⟩; rw [show ansC (some a1) = .tuple #[CV a1, .bool true] from rfl] at he; subst he; have HB3 := Hd (HB.out.below hb); clear hb HB)
     | (refine st6 9 23 a1 (heap_alloc_new _ _) ?_; rw [box_laid6]; have HB4 := Hd (HB3.out.box a1).1; have HX4 := Hd (HB3.out.box a1).2; clear HB3; generalize World.alloc _ _ = W4 at HB4 HX4 ⊢)
     | (refine ld6 9 HX4.out ?_)
     | (refine st6 6 26 a1 HB4.out.rs ?_; obtain ⟨r1, r2⟩ := HB4.out.ret a1; have HR := Hd (An r1 r2); clear r1 r2 HB4; generalize World.setRow _ _ _ = W9 at HR ⊢))
    refine bodyPost_ret (res_caps6 rfl rfl HR.out.1 rfl) rfl ?_;refine ⟨?_, HR.out.2⟩;rw [HR0.out, HST.out]; rfl
  ·
   (have hle : ¬ (k : Int) <= (T.length : Int) := by omega);have HEND := Hd (first_end F (show T.length < k from by omega));have HR0 := HR;clear hlt hk HR;go_wp2_with (first
    | (go_at_call 35; refine (HNA.out _).mono ?_; rintro e w8 ⟨rfl, hb⟩; have HE := Hd (HB.out.below hb); clear hb)
    | (refine st6 6 27 nones HE.out.rs ?_; obtain ⟨r1, r2⟩ := HE.out.ret nones; have HR := Hd (An r1 r2); clear r1 r2 HE; generalize World.setRow _ _ _ = W9 at HR ⊢))
   refine bodyPost_ret (res_caps6 rfl rfl HR.out.1 rfl) rfl ?_;refine ⟨?_, HR.out.2⟩;rw [HR0.out, HEND.out]; rfl
theorem rFirst_any (l : List Nd) (hw : ∀ n ∈ l, Wf n.s) (hTo : ToldOk) (T : List UInt8) (hT : T.length <= 100) (ao : Option Addr) (c : Nat) (w : World) (h : Ns w (.slice ao l.length c) l) (at0 : Int) (h2 : at0 <= 9223372036854775807) (R : Option Caps) (hR : R = firstF (FL l T) T.length at0.toNat) :
  Calls Tryz.prog 8 #[.slice ao l.length c, S T, E at0] w fun e w' => e = .returned (ansC R) /\ Below w.heap.size w w' := by
 have HZ := Hd (An (heap_alloc_new w (.cells CZ 30)) ((Below.refl w.heap.size w).alloc (Nat.le_refl _) (.cells CZ 30)));have HMK := Hd (fun (W : World) (hb : Below w.heap.size w W) => rmake_any l hw hTo T hT ao c W (h.below hb));have HRR := Hd hR;have H2 := Hd (An h2 hT);obtain ⟨FQ, hFQ⟩ : ∃ FQ, FQ = FL l T := ⟨_, rfl⟩;rw [<- hFQ] at HMK HRR;clear hw hTo hT h h2 hR hFQ;generalize l.length = n at *;go_enter Tryz.func8, Tryz.ntmps8;rw [show Code.region 1 = Fz 1 from rfl];go_wp2;refine at_world (p := fun V => V.heap[w.heap.size]? = some (.cells CZ 30 (0, 0)) /\ Below w.heap.size w V) HZ.out (fun V hV => ?_);have HV := Hd hV;clear hV HZ;rw [show Fz 1 = Code.region 1 from rfl];go_wp2_with (first
  | (go_at_call 21; refine (HMK.out _ HV.out.2).mono ?_; rintro e w1 ⟨tv, rfl, ⟨ao2, n2, c2, y, go, gn, gc, rfl⟩, hlo, hb⟩; have HLO := Hd hlo; have HV1 := Hd (An ((hb.block _ (lt_heap' HV.out.1)).trans HV.out.1) (HV.out.2.trans (hb.mono HV.out.2.size))); clear hb hlo HV)
  | (go_at_call 20; refine (rfirst_from ao2 n2 c2 y go gn gc T (by have := H2.out.2; omega) FQ w1 HLO.out at0 at0.toNat (by omega) H2.out.1 R HRR.out).mono ?_; rintro e w2 ⟨he, hb⟩; obtain rfl : e = .returned (.tuple #[CV (R.getD nones), .bool R.isSome]) := he; have HV2 := Hd (An ((hb.block _ (lt_heap' HV1.out.1)).trans HV1.out.1) (HV1.out.2.trans (hb.mono HV1.out.2.size))); clear hb HV1)
  | (refine st6 6 14 (R.getD nones) HV2.out.1 ?_; have HR := Hd (An (setRow_heap _ _ _ (CC (R.getD nones)) _ _ HV2.out.1) (below_setRow (B := w.heap.size) HV2.out.2 (g := w.heap.size) (Nat.le_refl _) (CC (R.getD nones)))); generalize World.setRow _ _ _ = W9 at HR ⊢))
 refine bodyPost_ret (res_caps6 rfl rfl HR.out.1 rfl) rfl ?_;exact ⟨rfl, HR.out.2⟩
theorem rHas_any (l : List Nd) (hw : ∀ n ∈ l, Wf n.s) (hTo : ToldOk) (T : List UInt8) (hT : T.length <= 100) (ao : Option Addr) (c : Nat) (w : World) (h : Ns w (.slice ao l.length c) l) (R : Bool) (hR : R = (firstF (FL l T) T.length 0).isSome) :
  Calls Tryz.prog 11 #[.slice ao l.length c, S T] w fun e w' => e = .returned (.bool R) /\ Below w.heap.size w w' := by
 have HF := Hd (rFirst_any l hw hTo T hT ao c w h 0 (by decide) _ rfl);have HRR := Hd (show R = (firstF (FL l T) T.length (0 : Int).toNat).isSome from hR);clear hw hTo hT h hR;generalize firstF (FL l T) T.length (0 : Int).toNat = q at *;go_enter Tryz.func11, Tryz.ntmps11;go_wp2_with (first
  | (go_at_call 8; refine HF.out.mono ?_; rintro e w3 ⟨he, hb⟩; obtain rfl : e = .returned (.tuple #[CV (q.getD nones), .bool q.isSome]) := he; have HB3 := Hd hb; clear hb)
  | (refine st6 5 11 (q.getD nones) (heap_alloc_new _ _) ?_; rw [box_laid6]; have HB4 := Hd (HB3.out.alloc HB3.out.size (.cells (CC (q.getD nones)) 30)); generalize World.alloc _ _ = W4 at HB4 ⊢))
 go_ret;refine ⟨?_, HB4.out⟩;rw [HRR.out]
 first | rfl | simp
theorem infoRq : (Tryz.prog.info? 60).map (fun i => (i.zero, i.size, i.bytes)) = some (some (NV ⟨0, z4, 0, 0, 0, 0, 0⟩), 10, 80) := by kernel_rfl
theorem news_atQ (w : World) (n : Nd) (B : Nat) (hB : B = w.heap.size) : ∀ j u, (NC n).toList[j]? = some u -> (w.alloc (.cells (NC n) 60)).cell? ((⟨B, 0, none⟩ : Addr).add j) = some u := by
 intro j u hj;subst hB;rw [Addr.add_lit, Lib.cell_of_heap (heap_alloc_new _ _), Nat.zero_add];simpa using hj
theorem its7_any (ao : Option Addr) (c : Nat) (l : List Nd) (w : World) (h : Ns w (.slice ao l.length c) l) (hl : l.length <= 100000) :
  Calls Tryz.prog 9 #[.slice ao l.length c] w fun e w' => ∃ v, e = .returned v /\ w'.ownsRow w.heap.size 60 10 v l.length (flat l) /\ Below w.heap.size w w' := by
 obtain ⟨i0, hi, hz0, hz1, hz2⟩ := info_parts infoRq;have HNS := Hd h;clear h;have HO0 : Hid (∀ W : World, W.heap.size = w.heap.size -> (W.alloc (.cells #[] 60)).ownsRow w.heap.size 60 10 (.slice (some ⟨w.heap.size, 0, none⟩) 0 0) 0 []) := Hd (fun W hW => by
  have := World.ownsRow_made (base := w.heap.size) (e := 60) (size := 10) W #[] 0 (by omega) (by decide) rfl;rw [hW] at this;exact this)
 go_enter Tryz.func9, Tryz.ntmps9;go_wp2;go_loopw [3, 4] (fun v i wr => ∃ (k : Nat), k <= l.length /\ i = .int .i64 (k : Nat) /\ Hid (wr.ownsRow w.heap.size 60 10 v k (flat (l.take k))) /\ Hid (Below w.heap.size w wr)) (fun _ i _ => l.length - (intOf i).toNat);(case atStart => exact ⟨0, Nat.zero_le _, rfl, Hd (HO0.out _ rfl), Hd ((Below.refl _ _).alloc (Nat.le_refl _) _)⟩);case round =>
  clear HO0;obtain ⟨k, hk, rfl, HO, HB⟩ := hrel;by_cases hlt : k < l.length
  ·
   obtain ⟨B0, o0, rfl, q0, q1, q2, q3, q4, q5, q6, q7, q8, q9⟩ := (HNS.out.below HB.out).at hlt;(have hlt' : ((k : Nat) : Int) < ((l.length : Nat) : Int) := by omega);have HTK := Hd (show flat (l.take (k + 1)) = flat (l.take k) ++ (NC l[k]).toList from by rw [List.take_succ_eq_append_getElem hlt, flat_append, flat_one]);have hone : ∀ u ∈ (NC l[k]).toList, u.oneCell' = true := by
    intro u hu;refine flat_cells [l[k]] u ?_;rw [flat_one]; exact hu
   generalize l[k] = n at *;have HOA := Hd ((HO.out.alloc (.cells (NC n) 46)).alloc (.cells (NC n) 60));have hsz := HB.out.size;go_wp2_with (at_builtin; go_loud (refine wpList_append_own _ rfl _ _ 33 rfl w.heap.size 60 i0 _ 10 80 Tryz.underlying33 hi hz0 hz1 hz2 rfl (by decide) _ _ _ rfl HOA.out ⟨_, 0, none⟩ 1 1 (NC n).toList rfl rfl (news_atQ (wr.alloc (.cells (NC n) 46)) n _ (by simp)) hone (by unfold maxLen; omega) (by omega) (by simp; omega) ?_));rintro v' w4 hown hgrow -;have HB4 := Hd (((HB.out.alloc hsz (.cells (NC n) 46)).alloc (by simp; omega) (.cells (NC n) 60)).grown hgrow (by simp; omega) (own_ge HOA.out));have HO4 := Hd (show w4.ownsRow w.heap.size 60 10 v' (k + 1) (flat (l.take (k + 1))) from by rw [HTK.out]; exact hown);clear hown hgrow;go_wp2;go_roundw;(case rel => exact ⟨k + 1, by omega, by go_num, HO4, HB4⟩);case measure => simp [intOf]; omega
  · (obtain rfl : k = l.length := by omega);have HO2 := HO.out;rw [List.take_length] at HO2;have HO3 := Hd HO2;clear HO HO2;go_wp2;go_ret;exact ⟨_, rfl, HO3.out, HB.out⟩
theorem bounded_len7 {a b c : Nat} {l : List Nd} {m : Nat} (h : boundedL a b c l m = true) : l.length <= a /\ m <= b := by
 unfold boundedL at h;simp only [Bool.and_eq_true, decide_eq_true_eq] at h;exact ⟨h.1, h.2.1⟩
theorem caps_same2 {ty : TypeId} (hu : Tryz.prog.underlying ty = some (.array 10 25)) {N : Nat} (hN : N <= 999999999) {c : Caps} (hc : CapsOk N c) (W : World) : (Op.equalIn 10000 ty (CV c) (CV c)).run Tryz.prog W = .ok true W := by
 rw [show (10000 : Nat) = 9998 + 2 from rfl, run_eq_caps hu hN hc hc];simp
end Go.Proofs.YtgaiknjmbingjaaGreatDoor.Mt
namespace Go.Proofs.YtgaiknjmbingjaaGreatDoor.St
open Go.RowKit
def bc (f : Nat -> Bool) : Array Value := (Array.range 256).map fun j => Value.bool (f j)
abbrev BV (f : Nat -> Bool) : Value := .agg (bc f)
abbrev BB (w : World) (b : Nat) (f : Nat -> Bool) : Prop := w.heap[b]? = some (.cells (bc f) 141 (0, 0))
theorem bc_size (f : Nat -> Bool) : (bc f).size = 256 := by simp [bc]
theorem bc_at (f : Nat -> Bool) {i : Nat} (hi : i < 256) : (bc f)[i]? = some (.bool (f i)) := by
 simp [bc, hi]
theorem bc_congr {f g : Nat -> Bool} (h : ∀ i, i < 256 -> f i = g i) : bc f = bc g := by
 apply Array.ext
 · simp [bc_size]
 · intro i h1 h2;(have hi : i < 256 := by rw [bc_size] at h1; exact h1);have e1 := bc_at f hi;have e2 := bc_at g hi;rw [Array.getElem?_eq_getElem h1] at e1;rw [Array.getElem?_eq_getElem h2] at e2;rw [Option.some.inj e1, Option.some.inj e2, h i hi]
theorem bc_zero : Array.replicate 256 (Value.bool false) = bc (fun _ => false) := by
 apply Array.ext
 · simp [bc_size]
 · intro i h1 h2; simp [bc]
theorem bc_one (f : Nat -> Bool) : (bc f).all (·.oneCell') = true := by
 rw [Array.all_eq_true_iff_forall_mem];intro v hv;obtain ⟨j, _, rfl⟩ := Array.mem_map.1 hv;rfl
theorem bc_set (f : Nat -> Bool) (k : Nat) (v : Bool) : (bc f).setIfInBounds k (.bool v) = bc (fun i => if i = k then v else f i) := by
 apply Array.ext_getElem?;intro i;by_cases hi : i < 256
 ·
  rw [bc_at _ hi];by_cases hk : k = i
  · subst hk;rw [Array.getElem?_setIfInBounds_self_of_lt (by rw [bc_size]; exact hi)]; simp
  · rw [Array.getElem?_setIfInBounds_ne hk, bc_at f hi, if_neg (fun e => hk e.symm)]
 · rw [Array.getElem?_eq_none (by rw [Array.size_setIfInBounds, bc_size]; omega), Array.getElem?_eq_none (by rw [bc_size]; omega)]
theorem bc_put {f g : Nat -> Bool} {k : Nat} {v : Bool} (h : ∀ i, i < 256 -> g i = if i = k then v else f i) : (bc f).setIfInBounds k (.bool v) = bc g := by
 rw [bc_set]; exact bc_congr fun i hi => (h i hi).symm
theorem BB.cell {w : World} {b : Nat} {f : Nat -> Bool} (h : BB w b f) {i : Nat} (hi : i < 256) : w.cell? ⟨b, i, none⟩ = some (.bool (f i)) := by
 rw [Lib.cell_of_heap h]; exact bc_at f hi
theorem BB.put {w : World} {b : Nat} {f g : Nat -> Bool} (h : BB w b f) {k : Nat} {v : Bool} (hg : ∀ i, i < 256 -> g i = if i = k then v else f i) : BB (w.setCell ⟨b, k, none⟩ (.bool v)) b g := by
 unfold BB; rw [heap_set_at h, bc_put hg]
theorem BB.drew {w : World} {b : Nat} {f : Nat -> Bool} (h : BB w b f) : BB w.drew b f := h
theorem bb_new (W : World) (f : Nat -> Bool) : BB (W.alloc (.cells (bc f) 141)) W.heap.size f := heap_alloc_new _ _
theorem zero_at : ∀ w, (zeroValue 141).run Tryz.prog w = .ok (.agg (bc fun _ => false)) w := by
 have := (zero_of_info (P := Tryz.prog) (t := 141) (v := .agg (Array.replicate 256 (.bool false))) (n := 256) (by kernel_rfl)).1
 rwa [bc_zero] at this
theorem heap_row_at {w : World} {b : Nat} {c : Array Value} {t : TypeId} {f : Nat × Nat} (h : w.heap[b]? = some (.cells c t f)) (c' : Array Value) : (w.setRow b c').heap[b]? = some (.cells c' t f) := by
 simp only [World.setRow, Array.getElem?_modify, if_true, h]; rfl
theorem BB.row {w : World} {b : Nat} {f : Nat -> Bool} (h : BB w b f) (g : Nat -> Bool) : BB (w.setRow b (bc g)) b g := heap_row_at h _
theorem answer {fn : Func} {p : Tmp} (h : fn.results = #[.cell p 141]) {tmps : Array Value} {w : World} {g : Nat} {f : Nat -> Bool} (hp : tmps.getD p undef = .pointer (some ⟨g, 0, none⟩)) (hg : BB w g f) : (results fn tmps).run Tryz.prog w = .ok (BV f) w :=
 results_cell_row h tmps w g _ (bc f) (0, 0) (.array 256 4) hp hg Tryz.underlying141 rfl (by rw [bc_size]; kernel_rfl)
theorem size_at : (Tryz.prog.info? 141).map (·.size) = some 256 := by kernel_rfl
theorem tail_row {id : Nat} {o1 o2 : Oper} {s d k : Nat} {Q : Exit -> Act -> World -> Prop} {a : Act} {w : World} {src dst : Nat} {f g : Nat -> Bool} (g1 : o1.guard = none) (g2 : o2.guard = none)
  (h1 : o1.op = .load 141 (.tmp s)) (h2 : o2.op = .store 141 (.tmp d) (.tmp k)) (hk : o1.dst = some k) (hk2 : o2.dst = none)
  (hs : a.eval (.tmp s) = .pointer (some ⟨src, 0, none⟩)) (hd : (a.put (some k) (BV f)).eval (.tmp d) = .pointer (some ⟨dst, 0, none⟩)) (hv : (a.put (some k) (BV f)).eval (.tmp k) = BV f)
  (hS : BB w src f) (hD : BB w dst g) (h : Q .normal (a.put (some k) (BV f)) (w.setRow dst (bc f))) : (Code.region id #[o1, o2] false).wp Tryz.prog Q a w := by
 refine wp_region_list ?_;refine wpList_load_row g1 141 (.tmp s) h1 src hs _ (bc f) (0, 0) (.array 256 4) hS Tryz.underlying141 rfl (by rw [bc_size]; exact size_at) ?_;rw [hk];refine wpList_store_row g2 141 (.tmp d) (.tmp k) h2 dst (bc f) hd hv _ (bc g) hD (by rw [bc_size]; exact size_at) (by rw [bc_size, bc_size]) (bc_one f) ?_;rw [hk2];exact wpList_nil h
def toldK (ws : List Nat) : Nat -> List Nat
 | 0 => ws
 | k + 1 => (toldK ws k).set (k / 64) (word (toldK ws k) (k / 64) / 2)
theorem toldK_spec {ws : List Nat} (h : Wf ws) : ∀ k, k <= 256 -> Wf (toldK ws k) /\ ∀ j, j < 4 -> word (toldK ws k) j = word ws j / 2 ^ (min (k - 64 * j) 64)
 | 0, _ => ⟨h, fun j _ => by rw [toldK]; simp⟩
 | k + 1, hk => by
  obtain ⟨h1, h2⟩ := toldK_spec h k (by omega);have hlt := word_lt h1 (k / 64);refine ⟨wf_set h1 _ _ (by omega), fun j hj => ?_⟩;rw [toldK, word_set h1 _ _ _ (by omega)];by_cases he : j = k / 64
  ·
   rw [if_pos he, <- he, h2 j hj, Nat.div_div_eq_div_mul, <- Nat.pow_succ]
   congr 2; omega
  ·
   rw [if_neg he, h2 j hj]
   congr 2; omega
theorem told_bit {ws : List Nat} (h : Wf ws) {k : Nat} (hk : k < 256) : (word (toldK ws k) (k / 64) % 2 == 1) = mem ws k := by
 rw [(toldK_spec h k (by omega)).2 (k / 64) (by omega), show min (k - 64 * (k / 64)) 64 = k % 64 from by omega];unfold mem;rw [Nat.testBit_eq_decide_div_mod_eq];rfl
def toldB (ws : List Nat) (k : Nat) : Nat -> Bool := fun i => decide (i < k) && mem ws i
abbrev S4 (w : World) (b : Nat) (ws : List Nat) : Prop := w.heap[b]? = some (.cells (wc ws) 43 (0, 0))
theorem S4.cell {w : World} {b : Nat} {ws : List Nat} (h : S4 w b ws) (hw : Wf ws) {i : Nat} (hi : i < 4) : w.cell? ⟨b, i, none⟩ = some (.int .u64 (word ws i : Int)) := by
 rw [Lib.cell_of_heap h]; simp [word_get hw hi]
theorem S4.set {w : World} {b : Nat} {ws : List Nat} (h : S4 w b ws) (i v : Nat) : S4 (w.setCell ⟨b, i, none⟩ (.int .u64 (v : Int))) b (ws.set i v) := by
 unfold S4;rw [heap_set_at h];simp [wc, List.map_set]
abbrev FF : Nat -> Bool := fun _ => false
theorem alloc_raw {W : World} {b : Nat} {o : Obj} (h : W.heap[b]? = some o) (o' : Obj) : (W.alloc o').heap[b]? = some o := (@heap_alloc_old _ _ _ (Array.getElem?_eq_some_iff.1 h).1).trans h
theorem told_any (ws : List Nat) (w : World) (h : Wf ws) :
  Calls Tryz.prog 86 #[SV ws] w fun e w' => e = .returned (BV (mem ws)) /\ Below w.heap.size w w' := by
 have hz := zero_at;go_enter Tryz.func86, Tryz.ntmps86;(refine wp_seq_k fun K0 hK => ?_);have HK := Hd hK; clear hK;go_wp2;refine HK.out _ _ ?_;clear HK K0;have HW := Hd (show S4 ((w.alloc (Obj.cells (wc ws) 43)).alloc (Obj.cells (bc fun x => false) 141)) w.heap.size ws from (two_new w _ _).1);have HA := Hd (show BB ((w.alloc (Obj.cells (wc ws) 43)).alloc (Obj.cells (bc fun x => false) 141)) (w.heap.size + 1) FF from (two_new w _ _).2);have HB := Hd (((Below.refl w.heap.size w).alloc (Nat.le_refl _) (Obj.cells (wc ws) 43)).alloc (by simp) (Obj.cells (bc fun x => false) 141));generalize (w.alloc (Obj.cells (wc ws) 43)).alloc (Obj.cells (bc fun x => false) 141) = W0 at *;(refine wp_seq_k fun K1 hK => ?_);have HK := Hd hK; clear hK;have hsc := run_storeCells_new (P := Tryz.prog) W0 141 (bc FF) (bc FF) (by rw [bc_size]; kernel_rfl) rfl (bc_one _);have hn := bc_size FF;go_wp2;refine HK.out _ _ ?_;clear HK K1 hsc hn;have HO := Hd (show BB (W0.alloc (Obj.cells (bc FF) 141)) W0.heap.size (toldB ws 0) from by
  (have : bc FF = bc (toldB ws 0) := bc_congr fun i _ => by simp [FF, toldB]);rw [this]; exact bb_new _ _)
 have HA2 := Hd (alloc_raw HA.out (Obj.cells (bc FF) 141));have HW2 := Hd (alloc_raw HW.out (Obj.cells (bc FF) 141));have HB2 := Hd (HB.out.alloc HB.out.size (Obj.cells (bc FF) 141));have hlt : w.heap.size + 1 < W0.heap.size := (Array.getElem?_eq_some_iff.1 HA.out).1;clear HA HW HB;generalize W0.alloc (Obj.cells (bc FF) 141) = W1 at *;generalize W0.heap.size = bo at *;(refine wp_seq_k fun K2 hK => ?_);have HK := Hd hK; clear hK;go_wp2;go_loopw [4] (fun i wr => ∃ k : Nat, k <= 256 /\ i = .int .i64 k /\ S4 wr w.heap.size (toldK ws k) /\ BB wr (w.heap.size + 1) FF /\ BB wr bo (toldB ws k) /\ Below w.heap.size w wr) (fun i _ => 256 - (intOf i).toNat);(case atStart => exact ⟨0, Nat.zero_le _, rfl, HW2.out, HA2.out, HO.out, HB2.out⟩);case round =>
  obtain ⟨k, hk, rfl, hS, hA, hO, hB⟩ := hrel;by_cases hlt : k < 256
  ·
   have hw := (toldK_spec h k (by omega)).1;have HBIT := Hd (told_bit h hlt);have c1 := hS.cell hw (i := k / 64) (by omega);have f1 := Lib.frozen_of_heap hS (k / 64);have c2 := hO.cell hlt;have f2 := Lib.frozen_of_heap hO k;have HS := Hd hS;have HA3 := Hd hA;have HO3 := Hd hO;have HB3 := Hd hB;clear hS hA hO hB hz;go_wp2;go_roundw;case rel =>
    have ew : IntKind.u64.wrap ((word (toldK ws k) (k / 64) : Int) / 2) = ((word (toldK ws k) (k / 64) / 2 : Nat) : Int) := by
     have := word_lt hw (k / 64);rw [IntKind.wrap_u64]; omega
    have eb : ((word (toldK ws k) (k / 64) : Int) % 2 == 1) = mem ws k := by
     rw [<- HBIT.out, Bool.eq_iff_iff, beq_iff_eq, beq_iff_eq]; omega
    rw [ew, eb];refine ⟨k + 1, by omega, by go_num, ?_, ?_, ?_, ?_⟩
    · exact S4.set (heap_set_other HS.out (by omega) _ _) _ _
    · exact heap_set_other (heap_set_other HA3.out (by omega) _ _) (by omega) _ _
    ·
     exact heap_set_other (BB.put HO3.out (fun i hi => by
      unfold toldB;by_cases he : i = k
      · subst he; simp
      ·
       rw [if_neg he]
       congr 1
       rw [Bool.eq_iff_iff, decide_eq_true_eq, decide_eq_true_eq]; omega)) (by omega) _ _
    · exact (HB3.out.setCell (p := ⟨bo, k, none⟩) (by show w.heap.size <= bo; omega) _).setCell (p := ⟨w.heap.size, k / 64, none⟩) (Nat.le_refl _) _
   case measure => simp [intOf]; omega
  ·
   (obtain rfl : k = 256 := by omega);(have hE : toldB ws 256 = fun i => decide (i < 256) && mem ws i := rfl);have hO' : BB wr bo (mem ws) := by
    (have : bc (toldB ws 256) = bc (mem ws) := bc_congr fun i hi => by simp [toldB, hi]);rw [BB, <- this]; exact hO
   have HO4 := Hd hO';have HA4 := Hd hA;have HR := Hd (BB.row hA (mem ws));have HB3 := Hd (below_setRow hB (Nat.le_succ _) (bc (mem ws)));clear hS hA hO hB hz hE hO';go_wp2;refine HK.out _ _ ?_;clear HK;(refine wp_seq_k fun K3 hK => ?_);refine tail_row rfl rfl rfl rfl rfl rfl rfl rfl rfl HO4.out HA4.out ?_;refine hK _ _ ?_;go_wp2;refine bodyPost_ret (v := BV (mem ws)) ?_ ?_ ?_
   · exact answer rfl rfl HR.out
   · rfl
   · exact ⟨rfl, HB3.out⟩
end Go.Proofs.YtgaiknjmbingjaaGreatDoor.St
namespace Go.Proofs.YtgaiknjmbingjaaGreatDoor.Mt
open Go.RowKit
open St (Wf mem bc bc_size told_any)
theorem told_ok : ToldOk := fun ws h => ⟨bc (mem ws), bc_size _, fun b hb => by simp [bc, hb], fun w => told_any ws w h⟩
open Rx
open Rx.Tr
open Go.Proofs.YtgaiknjmbingjaaGreatDoor.Fn
def headF (F : Nat -> Option Caps) (N la i : Nat) : Option Caps := match firstF F N i with
 | none => none
 | some c => if to0 c = from0 c /\ from0 c + 1 = la then firstF F N la else some c
theorem head_fin {F : Nat -> Option Caps} {N : Nat} (hF : FOk N F) : ∀ (f la i : Nat), muF N la i <= f -> (finF F N f la i)[0]? = headF F N la i
 | 0, la, i, hm => by
  unfold finF headF;rw [first_end F (show N < i from by unfold muF at hm; omega)];rfl
 | f + 1, la, i, hm => by
  unfold finF headF;cases h : firstF F N i with
  | none => rfl
  | some c =>
   dsimp only;split
   ·
    rename_i hs;have h1 := mu_skip hF h hm hs;cases f with
    | zero =>
     rw [first_end F (show N < la from by unfold muF at h1; omega)];rfl
    | succ f =>
     unfold finF;cases h2 : firstF F N la with
     | none => rfl
     | some d =>
      have h3 := (first_at hF h2).1;dsimp only;rw [if_neg (by omega)];rfl
   · rfl
theorem next_fin {F : Nat -> Option Caps} {N : Nat} (hF : FOk N F) : ∀ (f la i : Nat), muF N la i <= f -> ∀ (k : Nat) (c : Caps), (finF F N f la i)[k]? = some c -> (finF F N f la i)[k + 1]? = headF F N (to0 c + 1) (to0 c)
 | 0, la, i, hm, k, c, hk => by unfold finF at hk; cases hk
 | f + 1, la, i, hm, k, c, hk => by
  unfold finF at hk ⊢;cases h : firstF F N i with
  | none => rw [h] at hk; cases hk
  | some d =>
   rw [h] at hk;dsimp only at hk ⊢;split at hk
   · rename_i hs;rw [if_pos hs];exact next_fin hF f la la (mu_skip hF h hm hs) k c hk
   ·
    rename_i hs;rw [if_neg hs, List.getElem?_cons_succ];cases k with
    | zero =>
     rw [List.getElem?_cons_zero] at hk;obtain rfl := Option.some.inj hk;exact head_fin hF f _ _ (mu_next hF h hm hs)
    | succ k =>
     rw [List.getElem?_cons_succ] at hk;exact next_fin hF f _ _ (mu_next hF h hm hs) k c hk
theorem all_mu (N : Nat) : muF N 0 0 <= 2 * (N + 1) + 1 := by unfold muF; split <;> omega
theorem all_head {F : Nat -> Option Caps} {N : Nat} (hF : FOk N F) : (allF F N)[0]? = firstF F N 0 := by
 unfold allF;rw [head_fin hF _ _ _ (all_mu N)];unfold headF;cases firstF F N 0 with
 | none => rfl
 | some c => dsimp only; rw [if_neg (by omega)]
theorem all_next {F : Nat -> Option Caps} {N : Nat} (hF : FOk N F) {k : Nat} {c : Caps} (h : (allF F N)[k]? = some c) : (allF F N)[k + 1]? = headF F N (to0 c + 1) (to0 c) := next_fin hF _ _ _ (all_mu N) k c h
theorem all_at {F : Nat -> Option Caps} {N : Nat} (hF : FOk N F) {k : Nat} {c : Caps} (h : (allF F N)[k]? = some c) : CapsOk N c /\ gr c 0 = some (from0 c, to0 c) /\ from0 c <= to0 c /\ to0 c <= N := by
 have hq : ∃ i, firstF F N i = some c := by
  cases k with
  | zero => rw [all_head hF] at h; exact ⟨0, h⟩
  | succ k =>
   (have hk : k < (allF F N).length := by have := (List.getElem?_eq_some_iff.1 h).1; omega);have := all_next hF (List.getElem?_eq_getElem hk);rw [this] at h;unfold headF at h;split at h
   · cases h
   ·
    rename_i d hd;split at h
    · exact ⟨_, h⟩
    · obtain rfl := Option.some.inj h;exact ⟨_, hd⟩
 obtain ⟨i, hi⟩ := hq;have := first_at hF hi;exact ⟨this.2.2.2.1, this.2.2.2.2.1, this.2.2.2.2.2.1, this.2.2.2.2.2.2⟩
open Go.RowKit Go.Shelf
open St (Wf word mem SV SV_eq)
open Sp Fl in
theorem rfrom_cap {N : Nat} (hN : N <= 999999999) {i j : Nat} (h : CapOk N (some (i, j))) (w : World) : Calls Tryz.prog 25 #[capV (some (i, j))] w fun e w' => e = .returned (E (i : Nat)) /\ w = w' := by
 have := Sp.rfrom_any (fi i) (fi j) w;rw [(fi_in (inB_of (by omega) (by have := h.1; omega) (by have := h.2; omega))).2.1] at this;exact this
open Sp Fl in
theorem rto_cap {N : Nat} (hN : N <= 999999999) {i j : Nat} (h : CapOk N (some (i, j))) (w : World) : Calls Tryz.prog 23 #[capV (some (i, j))] w fun e w' => e = .returned (E (j : Nat)) /\ w = w' := by
 have := Sp.rto_any (fi i) (fi j) w;rw [(fi_in (inB_of (by omega) (by have := h.1; omega) (by have := h.2; omega))).2.2.1] at this;exact this
open Sp Fl in
theorem rlen_cap {N : Nat} (hN : N <= 999999999) {i j : Nat} (h : CapOk N (some (i, j))) (w : World) : Calls Tryz.prog 24 #[capV (some (i, j))] w fun e w' => e = .returned (E ((j - i : Nat) : Int)) /\ w = w' := by
 have := Sp.rlen_any (fi i) (fi j) w;obtain ⟨_, e1, e2, _⟩ := fi_in (inB_of (a := (i : Int)) (b := (j : Int)) (by omega) (by have := h.1; omega) (by have := h.2; omega));rw [e1, e2, show (j : Int) - (i : Int) = ((j - i : Nat) : Int) from by have := h.1; omega] at this;exact this
theorem cap_at {N : Nat} {c : Caps} (h : CapsOk N c) {a b : Nat} (hg : gr c 0 = some (a, b)) : CapOk N (some (a, b)) := by rw [<- hg]; exact h.at 0
theorem infoC6 : (Tryz.prog.info? 30).map (fun i => (i.zero, i.size, i.bytes)) = some (some (.agg CZ), 10, 160) := by kernel_rfl
theorem news_caps6 (W : World) (x : Caps) (B : Nat) (hB : B = W.heap.size) : ∀ j u, (CC x).toList[j]? = some u -> (W.alloc (.cells (CC x) 30)).cell? ((⟨B, 0, none⟩ : Addr).add j) = some u := by
 subst hB;intro j u hj;rw [Addr.add_lit, Lib.cell_of_heap (heap_alloc_new _ _), Nat.zero_add];simpa using hj
theorem own_other {w w' : World} {B e n z : Nat} {v : Value} {xs : List Value} (ho : w.ownsRow B e z v n xs) (hk : ∀ g, v.ownBlock = some g -> w'.heap[g]? = w.heap[g]?) : w'.ownsRow B e z v n xs := by
 refine ⟨ho.1, ?_⟩;rcases ho.2 with hv | ⟨g, cap, cur, hv, h1, h2, h3⟩
 · exact Or.inl hv
 · exact Or.inr ⟨g, cap, cur, hv, h1, (hk g (by rw [hv]; rfl)).trans h2, h3⟩
structure AR (w1 : World) (tv : Array Value) (b5 b7 : Nat) (xs : List Caps) (v : Value) (k : Nat) (c : Caps) (wr : World) : Prop where
 t5 : wr.heap[b5]? = some (.cells tv 57 (0, 0))
 t7 : wr.heap[b7]? = some (.cells (CC c) 30 (0, 0))
 own : wr.ownsRow w1.heap.size 30 10 v k (flC xs)
 ne : ∀ g, v.ownBlock = some g -> g ≠ b5 /\ g ≠ b7
 bel : Below w1.heap.size w1 wr
 n5 : w1.heap.size <= b5
 n7 : w1.heap.size <= b7
 n57 : b5 ≠ b7
section
variable {w1 wr w' : World} {tv : Array Value} {b5 b7 k : Nat} {xs : List Caps} {v v' : Value} {c : Caps}
theorem isSome_at {L : List Caps} {k : Nat} {R : Option Caps} (h : L[k + 1]? = R) : R.isSome = decide (k + 1 < L.length) := by
 cases R with
 | none => rw [decide_eq_false (by have := List.getElem?_eq_none_iff.1 h; omega)]; rfl
 | some c => rw [decide_eq_true (List.getElem?_eq_some_iff.1 h).1]; rfl
theorem some_at {L : List Caps} {k : Nat} {R : Option Caps} (h : L[k + 1]? = R) : k + 1 < L.length -> L[k + 1]? = some (R.getD nones) := fun q => by
 cases R with
 | none => have := List.getElem?_eq_none_iff.1 h; omega
 | some c => exact h
theorem AR.below (h : AR w1 tv b5 b7 xs v k c wr) (hb : Below wr.heap.size wr w') : AR w1 tv b5 b7 xs v k c w' :=
 ⟨(hb.block _ (lt_heap' h.t5)).trans h.t5, (hb.block _ (lt_heap' h.t7)).trans h.t7, own_below h.own hb, h.ne, h.bel.trans (hb.mono h.bel.size), h.n5, h.n7, h.n57⟩
theorem AR.put (h : AR w1 tv b5 b7 xs v k c wr) (a : Caps) : AR w1 tv b5 b7 xs v k a (wr.setRow b7 (CC a)) :=
 ⟨(setRow_other _ _ _ _ h.n57).trans h.t5, setRow_heap _ _ _ _ _ _ h.t7, own_other h.own (fun g hg => setRow_other _ _ _ _ (h.ne g hg).2), h.ne, below_setRow h.bel h.n7 _, h.n5, h.n7, h.n57⟩
theorem AR.grow (h : AR w1 tv b5 b7 xs v k c wr) {tmp : Obj} {ys : List Caps} {n : Nat} (hown : w'.ownsRow w1.heap.size 30 10 v' n (flC ys)) (hgrow : (wr.alloc tmp).grownBy w' v.ownBlock) (hat : v'.ownBlock = v.ownBlock \/ v'.ownBlock = some (wr.alloc tmp).heap.size) : AR w1 tv b5 b7 ys v' n c w' := by
 have l5 := lt_heap' h.t5;have l7 := lt_heap' h.t7;refine ⟨((hgrow.block b5 (by simp; omega) (fun e => (h.ne b5 e.symm).1 rfl)).trans (Below.heap_alloc _ _ _ l5)).trans h.t5, ((hgrow.block b7 (by simp; omega) (fun e => (h.ne b7 e.symm).2 rfl)).trans (Below.heap_alloc _ _ _ l7)).trans h.t7, hown, fun g hg => ?_, (h.bel.alloc h.bel.size _).grown hgrow (by have := h.bel.size; simp; omega) (fun j hj => own_ge h.own j hj), h.n5, h.n7, h.n57⟩;rcases hat with q | q
 · exact h.ne g (by rw [<- q]; exact hg)
 · rw [hg] at q;have e := Option.some.inj q;rw [World.size_alloc] at e;exact ⟨by omega, by omega⟩
theorem AR.cap (h : AR w1 tv b5 b7 xs v k c wr) {a b : Nat} (hg : gr c 0 = some (a, b)) : wr.cell? ⟨b7, 0, none⟩ = some (capV (some (a, b))) := by
 rw [cap_cell6 h.t7 (by decide), hg]
theorem AR.tb {lv gv : Value} {y : List UInt8} (h : AR w1 #[lv, S y, gv] b5 b7 xs v k c wr) : wr.cell? ⟨b5, 0, none⟩ = some lv /\ wr.cell? ⟨b5, 1, none⟩ = some (S y) /\ wr.cell? ⟨b5, 2, none⟩ = some gv :=
 ⟨(Lib.cell_of_heap h.t5 0).trans rfl, (Lib.cell_of_heap h.t5 1).trans rfl, (Lib.cell_of_heap h.t5 2).trans rfl⟩
end
theorem rAll_any (l : List Nd) (hw : ∀ n ∈ l, Wf n.s) (hTo : ToldOk) (T : List UInt8) (hT : T.length <= 100) (ao : Option Addr) (c : Nat) (w : World) (h : Ns w (.slice ao l.length c) l) (L : List Caps) (hL : L = allF (FL l T) T.length) :
  Calls Tryz.prog 13 #[.slice ao l.length c, S T] w fun e w' => ∃ v B, e = .returned v /\ w'.ownsRow B 30 10 v L.length (flC L) /\ Below w.heap.size w w' := by
 obtain ⟨i0, hi, hz0, hz1, hz2⟩ := info_parts infoC6;have HMK := Hd (rmake_any l hw hTo T hT ao c w h);have HT := Hd hT;obtain ⟨F, hF⟩ : ∃ F, F = FL l T := ⟨_, rfl⟩;(have hFO : FOk T.length F := by rw [hF]; exact fl_ok l T);rw [<- hF] at HMK hL;have HL0 := Hd (show L[0]? = firstF F T.length 0 from by rw [hL]; exact all_head hFO);have HLN := Hd (fun (k : Nat) (c : Caps) (hk : L[k]? = some c) => show L[k + 1]? = headF F T.length (to0 c + 1) (to0 c) from by rw [hL] at hk ⊢; exact all_next hFO hk);have HAT := Hd (fun (k : Nat) (c : Caps) (hk : L[k]? = some c) => show CapsOk T.length c /\ gr c 0 = some (from0 c, to0 c) /\ from0 c <= to0 c /\ to0 c <= T.length from all_at hFO (by rw [<- hL]; exact hk));have HFO := Hd hFO;have HLL := Hd (show L.length <= 2 * (T.length + 1) + 1 from by rw [hL]; exact fin_len F T.length _ _ _);clear hw hTo hT h hF hFO hL;generalize l.length = n at *;go_enter Tryz.func13, Tryz.ntmps13;rw [show Code.region 3 = Fz 3 from rfl];go_wp2_with (go_at_call 21; refine HMK.out.mono ?_; rintro e w1 ⟨tv, rfl, ⟨ao2, n2, c2, y, go, gn, gc, rfl⟩, hlo, hb⟩; have HLO := Hd hlo; have HB := Hd hb; clear hlo hb HMK);have HS0 := Hd (show ((w1.alloc (.cells #[.slice ao2 n2 c2, S y, .slice go gn gc] 57)).alloc (.cells #[] 30)).heap[w1.heap.size]? = some (.cells #[.slice ao2 n2 c2, S y, .slice go gn gc] 57 (0, 0)) /\ ((w1.alloc (.cells #[.slice ao2 n2 c2, S y, .slice go gn gc] 57)).alloc (.cells #[] 30)).ownsRow w1.heap.size 30 10 (.slice (some ⟨w1.heap.size + 1, 0, none⟩) 0 0) 0 [] /\ Below w1.heap.size w1 ((w1.alloc (.cells #[.slice ao2 n2 c2, S y, .slice go gn gc] 57)).alloc (.cells #[] 30)) /\ ((w1.alloc (.cells #[.slice ao2 n2 c2, S y, .slice go gn gc] 57)).alloc (.cells #[] 30)).heap.size = w1.heap.size + 2 from by
  refine ⟨heap_alloc2_old _ _ _, ?_, ((Below.refl _ _).alloc (Nat.le_refl _) _).alloc (by simp) _, by simp⟩;have := World.ownsRow_made (base := w1.heap.size) (e := 30) (size := 10) (w1.alloc (.cells #[.slice ao2 n2 c2, S y, .slice go gn gc] 57)) #[] 0 (by simp) (by decide) rfl;simpa using this)
 refine at_world (p := fun V => V.heap[w1.heap.size]? = some (.cells #[.slice ao2 n2 c2, S y, .slice go gn gc] 57 (0, 0)) /\ V.ownsRow w1.heap.size 30 10 (.slice (some ⟨w1.heap.size + 1, 0, none⟩) 0 0) 0 [] /\ Below w1.heap.size w1 V /\ V.heap.size = w1.heap.size + 2) HS0.out (fun V hV => ?_);have HV := Hd hV;clear hV HS0;rw [show Fz 3 = Code.region 3 from rfl];obtain ⟨R0, hR0⟩ : ∃ R0, R0 = firstF F T.length 0 := ⟨_, rfl⟩;have HR0 := Hd hR0;have x0 := (Lib.cell_of_heap HV.out.1 0).trans rfl;have x1 := (Lib.cell_of_heap HV.out.1 1).trans rfl;have x2 := (Lib.cell_of_heap HV.out.1 2).trans rfl;clear hR0;go_wp2_with (first
  | (go_at_call 20; refine (rfirst_from ao2 n2 c2 y go gn gc T (by have := HT.out; omega) F _ (HLO.out.below HV.out.2.2.1) 0 0 (Or.inr rfl) (by decide) R0 HR0.out).mono ?_; rintro e w2 ⟨he, hb⟩; obtain rfl : e = .returned (.tuple #[CV (R0.getD nones), .bool R0.isSome]) := he; have HB2 := Hd hb; clear hb)
  | (refine st6 7 18 (R0.getD nones) (heap_alloc_new _ _) ?_; rw [box_laid6]))
 have HA0 := Hd (show AR w1 #[.slice ao2 n2 c2, S y, .slice go gn gc] w1.heap.size w2.heap.size [] (.slice (some ⟨w1.heap.size + 1, 0, none⟩) 0 0) 0 (R0.getD nones) (w2.alloc (.cells (CC (R0.getD nones)) 30)) from by
  have h2 := HB2.out.alloc HB2.out.size (.cells (CC (R0.getD nones)) 30);have hs := HB2.out.size;rw [HV.out.2.2.2] at hs;refine ⟨(h2.block _ (by rw [HV.out.2.2.2]; omega)).trans HV.out.1, heap_alloc_new _ _, own_below HV.out.2.1 h2, fun g hg => ?_, HV.out.2.2.1.trans (h2.mono HV.out.2.2.1.size), Nat.le_refl _, by omega, by omega⟩;simp only [Value.ownBlock, Option.some.injEq] at hg;omega)
 have HS := Hd (show R0.isSome = decide (0 < L.length) /\ (0 < L.length -> L[0]? = some (R0.getD nones)) from by
  have h1 := HL0.out;rw [<- HR0.out] at h1;cases R0 with
  | none => rw [List.getElem?_eq_none_iff] at h1; exact ⟨by rw [decide_eq_false (by omega)]; rfl, fun h => by omega⟩
  | some c => exact ⟨by rw [decide_eq_true (List.getElem?_eq_some_iff.1 h1).1]; rfl, fun _ => h1⟩)
 clear HB2 HV HR0 x0 x1 x2;generalize hb7 : w2.heap.size = b7 at HA0 ⊢;generalize hb5 : w1.heap.size = b5 at HA0 ⊢;have HB5 := Hd hb5;clear hb7 hb5;generalize World.alloc _ _ = W3 at HA0 ⊢;rw [HS.out.1];go_loopg [6, 8] (L.length) (fun m v is wr => ∃ (k : Nat) (c : Caps), m = L.length - k /\ is = .bool (decide (k < L.length)) /\ k <= L.length /\ Hid (k < L.length -> L[k]? = some c) /\ Hid (AR w1 #[.slice ao2 n2 c2, S y, .slice go gn gc] b5 b7 (L.take k) v k c wr));(case atStart => exact ⟨0, R0.getD nones, rfl, rfl, Nat.zero_le _, Hd HS.out.2, by rw [List.take_zero]; exact HA0⟩);case round =>
  clear HA0 HS;obtain ⟨k, c, hm, rfl, hk, HC, HA⟩ := hrel;subst hm;by_cases hlt : k < L.length
  ·
   have hd : decide (k < L.length) = true := decide_eq_true hlt;rw [hd];obtain ⟨t1, t2, t3, t4⟩ := HAT.out k c (HC.out hlt);have HCT := Hd (An t1 (An t2 (An t3 t4)));have HNX := Hd (HLN.out k c (HC.out hlt));have HTO := Hd (fun W => rto_cap (by have := HT.out; omega) (cap_at t1 t2) W);have HTK := Hd (show flC (L.take (k + 1)) = flC (L.take k) ++ (CC c).toList from by
    obtain ⟨h1, h2⟩ := List.getElem?_eq_some_iff.1 (HC.out hlt);rw [List.take_succ_eq_append_getElem h1, flC_append, h2, flC_one])
   have HK := Hd (show k < L.length /\ k <= 1000 from ⟨hlt, by have := HLL.out; have := HT.out; omega⟩);have HOA := Hd (HA.out.own.alloc (.cells (CC c) 30));obtain ⟨R1, hR1⟩ : ∃ R1, R1 = firstF F T.length (to0 c) := ⟨_, rfl⟩;have HR1 := Hd hR1;clear hd hlt hk t1 t2 t3 t4 HC hR1;cases hc1 : R1 with
   | none =>
    rw [hc1] at HR1;have HEND := Hd (show k + 1 = L.length from by
     have h1 := HNX.out;unfold headF at h1;rw [<- HR1.out] at h1;have := List.getElem?_eq_none_iff.1 h1;have := HK.out;omega)
    have x7 := HA.out.cap HCT.out.2.1;go_wp2_with (first
     | (refine ld6 7 HA.out.t7 ?_)
     | (at_builtin; go_loud (refine wpList_append_own_at _ rfl _ _ 39 rfl w1.heap.size 30 i0 _ 10 160 Tryz.underlying39 hi hz0 hz1 hz2 rfl (by decide) _ k _ rfl HOA.out ⟨_, 0, none⟩ 1 1 (CC c).toList rfl rfl (news_caps6 wr c _ rfl) (ones_caps c) (by unfold maxLen; have := HK.out; omega) (by have := HK.out; omega) (by have := HA.out.bel.size; simp; omega) ?_); intro v2 w4 hown hgrow _ hat; rw [<- HTK.out] at hown; have HA2 := Hd (HA.out.grow hown hgrow hat); clear hown hgrow hat HA HOA x7; have x7 := HA2.out.cap HCT.out.2.1; obtain ⟨x0, x1, x2⟩ := HA2.out.tb)
     | (go_at_call 23; refine (HTO.out _).mono ?_; rintro e w5 ⟨rfl, rfl⟩)
     | (go_at_call 20; refine (rfirst_from ao2 n2 c2 y go gn gc T (by have := HT.out; omega) F _ (HLO.out.below HA2.out.bel) ((to0 c : Nat) : Int) (to0 c) (Or.inr rfl) (by have := HT.out; have := HCT.out; omega) (none) HR1.out).mono ?_; rintro e w6 ⟨he, hb⟩; obtain rfl : e = .returned (.tuple #[CV nones, .bool false]) := he; have HA3 := Hd (HA2.out.below hb); clear hb HA2 x7 x0 x1 x2)
     | (refine st6 7 33 nones HA3.out.t7 ?_; have HA4 := Hd (HA3.out.put nones); clear HA3; generalize World.setRow _ _ _ = W6 at HA4 ⊢))
    go_roundg (L.length - (k + 1));(case measure => have := HK.out; omega);case rel => exact ⟨k + 1, nones, rfl, by rw [decide_eq_false (by have := HEND.out; omega)], by have := HEND.out; omega, Hd (fun h => by have := HEND.out; omega), HA4⟩
   | some d =>
    rw [hc1] at HR1;obtain ⟨_, _, _, u1, u2, u3, u4⟩ := first_at HFO.out HR1.out.symm;have HFR := Hd (fun W => rfrom_cap (by have := HT.out; omega) (cap_at u1 u2) W);have HLE := Hd (fun W => rlen_cap (by have := HT.out; omega) (cap_at u1 u2) W);have HDT := Hd (An u1 (An u2 (An u3 u4)));clear u1 u2 u3 u4;by_cases hs : to0 d = from0 d /\ from0 d + 1 = to0 c + 1
    ·
     (have hz : ((to0 d - from0 d : Nat) : Int) = 0 := by omega);(have hq : (((from0 d : Nat) : Int) == ((to0 c : Nat) : Int)) = true := by rw [beq_iff_eq]; omega);(have hwt : IntKind.i64.wrap (((to0 c : Nat) : Int) + 1) = ((to0 c + 1 : Nat) : Int) := by rw [IntKind.wrap_i64]; have := HCT.out; have := HT.out; omega);obtain ⟨R2, hR2⟩ : ∃ R2, R2 = firstF F T.length (to0 c + 1) := ⟨_, rfl⟩;have HR2 := Hd hR2;have HN2 := Hd (show L[k + 1]? = R2 from by rw [HNX.out, hR2]; unfold headF; rw [<- HR1.out]; dsimp only; rw [if_pos hs]);clear hs hR2;rw [hz] at HLE;have x7 := HA.out.cap HCT.out.2.1;go_wp2_with (first
      | (refine ld6 7 HA.out.t7 ?_)
      | (at_builtin; go_loud (refine wpList_append_own_at _ rfl _ _ 39 rfl w1.heap.size 30 i0 _ 10 160 Tryz.underlying39 hi hz0 hz1 hz2 rfl (by decide) _ k _ rfl HOA.out ⟨_, 0, none⟩ 1 1 (CC c).toList rfl rfl (news_caps6 wr c _ rfl) (ones_caps c) (by unfold maxLen; have := HK.out; omega) (by have := HK.out; omega) (by have := HA.out.bel.size; simp; omega) ?_); intro v2 w4 hown hgrow _ hat; rw [<- HTK.out] at hown; have HA2 := Hd (HA.out.grow hown hgrow hat); clear hown hgrow hat HA HOA x7; have x7 := HA2.out.cap HCT.out.2.1; obtain ⟨x0, x1, x2⟩ := HA2.out.tb)
      | (go_at_call 23; refine (HTO.out _).mono ?_; rintro e w5 ⟨rfl, rfl⟩)
      | (go_at_call 20; refine (rfirst_from ao2 n2 c2 y go gn gc T (by have := HT.out; omega) F _ (HLO.out.below HA2.out.bel) ((to0 c : Nat) : Int) (to0 c) (Or.inr rfl) (by have := HT.out; have := HCT.out; omega) (some d) HR1.out).mono ?_; rintro e w6 ⟨he, hb⟩; obtain rfl : e = .returned (.tuple #[CV d, .bool true]) := he; have HA3 := Hd (HA2.out.below hb); clear hb HA2 x7 x0 x1 x2)
      | (refine st6 7 33 d HA3.out.t7 ?_; have HA4 := Hd (HA3.out.put d); clear HA3; generalize World.setRow _ _ _ = W6 at HA4 ⊢; have x7 := HA4.out.cap HDT.out.2.1; obtain ⟨x0, x1, x2⟩ := HA4.out.tb))
     go_wp2_with (first
      | (go_at_call 24; refine (HLE.out _).mono ?_; rintro e w8 ⟨rfl, rfl⟩)
      | (go_at_call 25; refine (HFR.out _).mono ?_; rintro e w8 ⟨rfl, rfl⟩)
      | (go_at_call 20; refine (rfirst_from ao2 n2 c2 y go gn gc T (by have := HT.out; omega) F _ (HLO.out.below HA4.out.bel) ((to0 c + 1 : Nat) : Int) (to0 c + 1) (Or.inr rfl) (by have := HT.out; have := HCT.out; omega) R2 HR2.out).mono ?_; rintro e w7 ⟨he, hb⟩; obtain rfl : e = .returned (.tuple #[CV (R2.getD nones), .bool R2.isSome]) := he; have HA5 := Hd (HA4.out.below hb); clear hb HA4 x7 x0 x1 x2)
      | (refine st6 7 55 (R2.getD nones) HA5.out.t7 ?_; have HA6 := Hd (HA5.out.put (R2.getD nones)); clear HA5; generalize World.setRow _ _ _ = W7 at HA6 ⊢))
     go_roundg (L.length - (k + 1));(case measure => have := HK.out; omega);case rel => exact ⟨k + 1, R2.getD nones, rfl, by congr 1; exact isSome_at HN2.out, by have := HK.out; omega, Hd (some_at HN2.out), HA6⟩
    ·
     have HN2 := Hd (show L[k + 1]? = some d from by rw [HNX.out]; unfold headF; rw [<- HR1.out]; dsimp only; rw [if_neg hs]);by_cases hz : to0 d = from0 d
     ·
      (have hd0 : ((to0 d - from0 d : Nat) : Int) = 0 := by omega);(have hq : (((from0 d : Nat) : Int) == ((to0 c : Nat) : Int)) = false := by rw [beq_eq_false_iff_ne]; omega);clear hs hz;rw [hd0] at HLE;have x7 := HA.out.cap HCT.out.2.1;go_wp2_with (first
       | (refine ld6 7 HA.out.t7 ?_)
       | (at_builtin; go_loud (refine wpList_append_own_at _ rfl _ _ 39 rfl w1.heap.size 30 i0 _ 10 160 Tryz.underlying39 hi hz0 hz1 hz2 rfl (by decide) _ k _ rfl HOA.out ⟨_, 0, none⟩ 1 1 (CC c).toList rfl rfl (news_caps6 wr c _ rfl) (ones_caps c) (by unfold maxLen; have := HK.out; omega) (by have := HK.out; omega) (by have := HA.out.bel.size; simp; omega) ?_); intro v2 w4 hown hgrow _ hat; rw [<- HTK.out] at hown; have HA2 := Hd (HA.out.grow hown hgrow hat); clear hown hgrow hat HA HOA x7; have x7 := HA2.out.cap HCT.out.2.1; obtain ⟨x0, x1, x2⟩ := HA2.out.tb)
       | (go_at_call 23; refine (HTO.out _).mono ?_; rintro e w5 ⟨rfl, rfl⟩)
       | (go_at_call 20; refine (rfirst_from ao2 n2 c2 y go gn gc T (by have := HT.out; omega) F _ (HLO.out.below HA2.out.bel) ((to0 c : Nat) : Int) (to0 c) (Or.inr rfl) (by have := HT.out; have := HCT.out; omega) (some d) HR1.out).mono ?_; rintro e w6 ⟨he, hb⟩; obtain rfl : e = .returned (.tuple #[CV d, .bool true]) := he; have HA3 := Hd (HA2.out.below hb); clear hb HA2 x7 x0 x1 x2)
       | (refine st6 7 33 d HA3.out.t7 ?_; have HA4 := Hd (HA3.out.put d); clear HA3; generalize World.setRow _ _ _ = W6 at HA4 ⊢; have x7 := HA4.out.cap HDT.out.2.1; obtain ⟨x0, x1, x2⟩ := HA4.out.tb))
      go_wp2_with (first
       | (go_at_call 24; refine (HLE.out _).mono ?_; rintro e w8 ⟨rfl, rfl⟩)
       | (go_at_call 25; refine (HFR.out _).mono ?_; rintro e w8 ⟨rfl, rfl⟩))
      go_roundg (L.length - (k + 1));(case measure => have := HK.out; omega);case rel => exact ⟨k + 1, d, rfl, by congr 1; exact isSome_at (R := some d) HN2.out, by have := HK.out; omega, Hd (fun _ => HN2.out), HA4⟩
     ·
      (have hd0 : (((to0 d - from0 d : Nat) : Int) == 0) = false := by rw [beq_eq_false_iff_ne]; have := HDT.out; omega);clear hs hz;have x7 := HA.out.cap HCT.out.2.1;go_wp2_with (first
       | (refine ld6 7 HA.out.t7 ?_)
       | (at_builtin; go_loud (refine wpList_append_own_at _ rfl _ _ 39 rfl w1.heap.size 30 i0 _ 10 160 Tryz.underlying39 hi hz0 hz1 hz2 rfl (by decide) _ k _ rfl HOA.out ⟨_, 0, none⟩ 1 1 (CC c).toList rfl rfl (news_caps6 wr c _ rfl) (ones_caps c) (by unfold maxLen; have := HK.out; omega) (by have := HK.out; omega) (by have := HA.out.bel.size; simp; omega) ?_); intro v2 w4 hown hgrow _ hat; rw [<- HTK.out] at hown; have HA2 := Hd (HA.out.grow hown hgrow hat); clear hown hgrow hat HA HOA x7; have x7 := HA2.out.cap HCT.out.2.1; obtain ⟨x0, x1, x2⟩ := HA2.out.tb)
       | (go_at_call 23; refine (HTO.out _).mono ?_; rintro e w5 ⟨rfl, rfl⟩)
       | (go_at_call 20; refine (rfirst_from ao2 n2 c2 y go gn gc T (by have := HT.out; omega) F _ (HLO.out.below HA2.out.bel) ((to0 c : Nat) : Int) (to0 c) (Or.inr rfl) (by have := HT.out; have := HCT.out; omega) (some d) HR1.out).mono ?_; rintro e w6 ⟨he, hb⟩; obtain rfl : e = .returned (.tuple #[CV d, .bool true]) := he; have HA3 := Hd (HA2.out.below hb); clear hb HA2 x7 x0 x1 x2)
       | (refine st6 7 33 d HA3.out.t7 ?_; have HA4 := Hd (HA3.out.put d); clear HA3; generalize World.setRow _ _ _ = W6 at HA4 ⊢; have x7 := HA4.out.cap HDT.out.2.1; obtain ⟨x0, x1, x2⟩ := HA4.out.tb))
      go_wp2_with (go_at_call 24; refine (HLE.out _).mono ?_; rintro e w8 ⟨rfl, rfl⟩);go_roundg (L.length - (k + 1));(case measure => have := HK.out; omega);case rel => exact ⟨k + 1, d, rfl, by congr 1; exact isSome_at (R := some d) HN2.out, by have := HK.out; omega, Hd (fun _ => HN2.out), HA4⟩
  · (obtain rfl : k = L.length := by omega);have hd : decide (L.length < L.length) = false := decide_eq_false (by omega);rw [hd];have hfl := HA.out.own;rw [List.take_length] at hfl;have HO := Hd hfl;clear hfl hd hlt hk;go_wp2;go_ret;exact ⟨_, _, rfl, HO.out, HB.out.trans (HA.out.bel.mono HB.out.size)⟩
end Go.Proofs.YtgaiknjmbingjaaGreatDoor.Mt
