/- FindAll: of any nodes and any text. -/
import Derived.Test.YtinallojhkaogaaGreatDoorGk06
import Derived.Test.YtinallojhkaogaaGreatDoorGk22
import Derived.Test.YtinallojhkaogaaGreatDoorGk23
import Derived.Test.YtinallojhkaogaaGreatDoorGk33
import Derived.Test.YtinallojhkaogaaGreatDoorGk34
import Derived.Test.YtinallojhkaogaaGreatDoorGk36
set_option maxHeartbeats 6400000
set_option maxRecDepth 100000
namespace Go.Proofs.YtinallojhkaogaaGreatDoor.Mt
open Go.RowKit Go.Shelf
open Go.Proofs.YtinallojhkaogaaGreatDoor.Rx
open Go.Proofs.YtinallojhkaogaaGreatDoor.Rx.Tr
open Go.Proofs.YtinallojhkaogaaGreatDoor.Fn
open Go.Proofs.YtinallojhkaogaaGreatDoor.St (Wf word mem SV SV_eq ofL wf_ofL bytesL)
set_option linter.unusedVariables false
set_option linter.unusedSimpArgs false
theorem caps_form2 {w : World} {B e : Nat} {v : Value} {l : List Caps} (h : w.ownsRow B e 10 v l.length (flC l)) : ∃ ae cap, v = .slice ae l.length cap ∧ l.length ≤ cap ∧ CsIn w ae l := by
 rcases own_forms h with ⟨rfl, h0⟩ | ⟨g, cap, rfl, hc⟩
 · exact ⟨none, 0, by rw [h0], by omega, fun i hi => by omega⟩
 ·
  have hcell : ∀ i (hi : i < l.length) r, r < 10 → w.cell? ⟨g, i * 10 + r, none⟩ = (CC l[i])[r]? := fun i hi r hr => by
   rw [h.cellAt (i * 10 + r) (by omega), flC_get l i hi r hr]
  refine ⟨_, cap, rfl, hc, fun i hi => ⟨g, rfl, ?_, fun j u hj => ?_⟩⟩
  · have := hcell i hi 0 (by omega);rw [Nat.add_zero] at this;rw [this];simp
  ·
   have hl : j < 10 := by
    have := (List.getElem?_eq_some_iff.1 hj).1;simpa using this
   rw [hcell i hi j hl];simpa using hj
theorem rSame_yes (ae be : Option Addr) (ca cb : Nat) (L : List Caps) (hL : L.length ≤ 1000) {N : Nat} (hN : N ≤ 999999999) (hok : ∀ (i : Nat) (h : i < L.length), CapsOk N L[i]) (w : World) (ha : CsIn w ae L) (hb : CsIn w be L) :
  Calls Tryz.prog 13 #[.slice ae L.length ca, .slice be L.length cb] w fun e w' => e = .returned (.bool true) ∧ Below w.heap.size w w' := by
 have HL := Lib.hid hL;have HA := Lib.hid ha;have HB := Lib.hid hb;have HOK := Lib.hid hok;have HB0 := Lib.hid (Below.refl w.heap.size w);clear hL ha hb hok;go_enter Tryz.func13, Tryz.ntmps13;rw [show Code.region 6 = Fz 6 from rfl];go_wp2;go_loopw [5] (fun iv wr => ∃ k : Nat, k ≤ L.length ∧ iv = .int .i64 (k : Nat) ∧ Hid (Below w.heap.size w wr)) (fun iv _ => L.length - (intOf iv).toNat);(case atStart => exact ⟨0, Nat.zero_le _, rfl, HB0⟩);case round =>
  clear HB0;obtain ⟨k, hk, rfl, HBL⟩ := hrel;by_cases hlt : k < L.length
  ·
   (have hlt' : (k : Int) < (L.length : Int) := by omega);(have hk0 : (0 : Int) ≤ (k : Int) := by omega);(have hwk : IntKind.i64.wrap ((k : Int) + 1) = (k : Int) + 1 := by rw [IntKind.wrap_i64]; have := HL.out; omega);obtain ⟨ga, rfl, _, ra⟩ := (HA.out.below HBL.out) k hlt;obtain ⟨gb, rfl, _, rb⟩ := (HB.out.below HBL.out) k hlt;have HNE := Lib.hid (fun W => caps_same2 Tryz.underlying33 hN (HOK.out k hlt) W);generalize L[k] = c at *;have HK := Lib.hid hlt;have HRR := Lib.hid (And.intro ra rb);clear hlt hk ra rb;go_wp2;rw [show Fz 6 = Code.region 6 from rfl];refine wp_region_noPanic ?_;refine wp_region_held_drew (S := fun w' => w'.rangeAt ga (k * 10) (CC c).toList ∧ w'.rangeAt gb (k * 10) (CC c).toList) (by kernel_rfl) ?_ (fun hHeld => ?_)
   · exact HRR.out
   have HB9 := Lib.hid (show Below w.heap.size w wr.drew from HBL.out.drew);clear HRR HBL;generalize World.drew _ = W9 at HB9 hHeld ⊢;refine Tk.t 0 ?_;refine Tk.t 1 ?_;refine Tk.t 2 ?_;refine Tk.t 3 (hy := fun wv hSw => exec_load_mid 33 (.tmp 19) rfl ga (k * 10) rfl (CC c).toList _ hSw.1 Tryz.underlying33 rfl (by kernel_rfl)) ?_;refine Tk.t 4 ?_;refine Tk.t 5 ?_;refine Tk.t 6 ?_;refine Tk.t 7 (hy := fun wv hSw => exec_load_mid 33 (.tmp 23) rfl gb (k * 10) rfl (CC c).toList _ hSw.2 Tryz.underlying33 rfl (by kernel_rfl)) ?_;refine Tk.t 8 (hy := by (intro w hSw; have hq := HNE.out w; go_simp) <;> with_reducible rfl) ?_;refine Tk.d ?_;clear hHeld;go_wp2;go_roundw;(case rel => exact ⟨k + 1, by have := HK.out; omega, by go_num, HB9⟩);case measure => have := HK.out; simp [intOf]; omega
  · (have hnl : ¬ (k : Int) < (L.length : Int) := by omega);clear hk hlt;go_wp2;go_ret;exact ⟨rfl, HBL.out⟩
theorem FindAll_skip (W : World) (hL : Lay W) (ao : Option Addr) (c n : Nat) (T : List UInt8)
  (hbd : ∀ W' : World, Calls Tryz.prog 8 #[.slice ao n c, S T] W fun e w' => e = .returned (.bool false) ∧ W = w') :
  Calls Tryz.prog 3 #[.slice ao n c, S T] W fun e W' => e = .returned (.bool true) ∧ Below W.heap.size W W' := by
 have HB0 := Lib.hid (Below.refl W.heap.size W);have HBD := Lib.hid hbd;have HSH := Lib.hid (fun (W' : World) (hb : Below W.heap.size W W') => fshown_any W' (hL.below hb));clear hbd hL;go_enter Tryz.func3, Tryz.ntmps3;go_wp2_with (first
  | (go_at_call 8; refine (HBD.out W).mono ?_; rintro e w1 ⟨rfl, rfl⟩)
  | (go_at_call 9; refine (HSH.out _ HB0.out).mono ?_; rintro e w2 ⟨rfl, hb⟩; have HB1 := Lib.hid (HB0.out.trans (hb.mono HB0.out.size)); clear hb))
 go_ret;exact ⟨rfl, HB1.out⟩
theorem all_core (W : World) (hL : Lay W) (hTo : ToldOk) (ao : Option Addr) (c : Nat) (l : List Nd) (hl : l.length ≤ 1000) (B : Ns W (.slice ao l.length c) l) (F : ∀ n ∈ l, Wf n.s) (T : List UInt8) (hT : T.length ≤ 100)
  (hbd : ∀ W' : World, Calls Tryz.prog 8 #[.slice ao l.length c, S T] W fun e w' => e = .returned (.bool true) ∧ W = w') :
  Calls Tryz.prog 3 #[.slice ao l.length c, S T] W fun e W' => e = .returned (.bool true) ∧ Below W.heap.size W W' := by
 obtain ⟨i0, hi, hz0, hz1, hz2⟩ := info_parts infoC6;obtain ⟨L, hLL⟩ : ∃ L, L = allF (FL l T) T.length := ⟨_, rfl⟩;(have hok : ∀ (i : Nat) (h : i < L.length), CapsOk T.length L[i] := fun i h => (all_at (fl_ok l T) (k := i) (by rw [← hLL, List.getElem?_eq_getElem h])).1);(have hlen : L.length ≤ 1000 := by have := fin_len (FL l T) T.length (2 * (T.length + 1) + 1) 0 0; rw [hLL]; unfold allF; omega);have HB0 := Lib.hid (Below.refl W.heap.size W);have HBD := Lib.hid hbd;have HSH := Lib.hid (fun (W' : World) (hb : Below W.heap.size W W') => fshown_any W' (hL.below hb));have HAL := Lib.hid (fun (W' : World) (hb : Below W.heap.size W W') => (all_any none_ok ao l.length c T (by omega) (FL l T) (fl_ok l T) W' ((fl_long B F (by omega)).below hb)).mono (R' := fun e w' => ∃ ae cap, e = .returned (.slice ae L.length cap) ∧ CsIn w' ae L ∧ Below W'.heap.size W' w') (by
  rintro e w' ⟨v, rfl, ho, hb'⟩;rw [← hLL] at ho;obtain ⟨ae, cap, rfl, _, hc⟩ := caps_form2 ho;exact ⟨ae, cap, rfl, hc, hb'⟩))
 have HIT := Lib.hid (fun (W' : World) (hb : Below W.heap.size W W') => (its7_any ao c l W' (B.below hb) (by omega)).mono (R' := fun e w' => ∃ a2 c2, e = .returned (.slice a2 l.length c2) ∧ Ns w' (.slice a2 l.length c2) l ∧ Below W'.heap.size W' w') (by
  rintro e w' ⟨v, rfl, ho, hb'⟩;have hn := own_nsR ho;obtain ⟨a2, c2, rfl, _⟩ := id hn;exact ⟨a2, c2, rfl, hn, hb'⟩))
 have HRA := Lib.hid (fun (a2 : Option Addr) (c2 : Nat) (W' : World) (hN : Ns W' (.slice a2 l.length c2) l) => (rAll_any l F hTo T hT a2 c2 W' hN L hLL).mono (R' := fun e w' => ∃ be cap, e = .returned (.slice be L.length cap) ∧ CsIn w' be L ∧ Below W'.heap.size W' w') (by
  rintro e w' ⟨v, B2, rfl, ho, hb'⟩;obtain ⟨ae, cap, rfl, _, hc⟩ := caps_form2 ho;exact ⟨ae, cap, rfl, hc, hb'⟩))
 have HTL := Lib.hid hT;have HOK := Lib.hid hok;have HLEN := Lib.hid hlen;clear hbd hL hTo hl B F hT hLL hok hlen;generalize l.length = n at *;go_enter Tryz.func3, Tryz.ntmps3;go_wp2_with (first
  | (go_at_call 8; refine (HBD.out W).mono ?_; rintro e w1 ⟨rfl, rfl⟩; clear HBD)
  | (go_at_call 9; refine (HSH.out _ HB0.out).mono ?_; rintro e w2 ⟨rfl, hb⟩; have HB1 := Lib.hid (HB0.out.trans (hb.mono HB0.out.size)); clear hb HB0)
  | (go_at_call 10; refine (HAL.out _ HB1.out).mono ?_; rintro e w3 ⟨ae, ca, rfl, hc, hb⟩; have HC3 := Lib.hid hc; have HB3 := Lib.hid (HB1.out.trans (hb.mono HB1.out.size)); clear hb hc HB1)
  | (go_at_call 12; refine (HIT.out _ HB3.out).mono ?_; rintro e w5 ⟨a2, c2, rfl, hn, hb⟩; have HN := Lib.hid hn; have HC5 := Lib.hid (HC3.out.below hb); have HB5 := Lib.hid (HB3.out.trans (hb.mono HB3.out.size)); clear hb hn HC3 HB3)
  | (go_at_call 11; refine (HRA.out a2 c2 _ HN.out).mono ?_; rintro e w6 ⟨be, cb, rfl, hc, hb⟩; have HC6 := Lib.hid (HC5.out.below hb); have HD6 := Lib.hid hc; have HB6 := Lib.hid (HB5.out.trans (hb.mono HB5.out.size)); clear hb hc HC5 HB5 HN))
 have HO0 := Lib.hid (World.ownsRow_made (base := w6.heap.size) (e := 33) (size := 10) w6 #[] 0 (Nat.le_refl _) (by decide) rfl);have HG0 := Lib.hid ((Below.refl w6.heap.size w6).alloc (Nat.le_refl _) (.cells #[] 33));go_loopw [7, 8] (fun v iv wr => ∃ k : Nat, k ≤ L.length ∧ iv = .int .i64 (k : Nat) ∧ Hid (wr.ownsRow w6.heap.size 33 10 v k (flC (L.take k))) ∧ Hid (Below w6.heap.size w6 wr)) (fun _ iv _ => L.length - (intOf iv).toNat);(case atStart => exact ⟨0, Nat.zero_le _, rfl, HO0, HG0⟩);case round =>
  clear HO0 HG0;obtain ⟨k, hk, rfl, HO, HG⟩ := hrel;by_cases hlt : k < L.length
  ·
   (have hlt' : (k : Int) < (L.length : Int) := by omega);(have hk0 : (0 : Int) ≤ (k : Int) := by omega);(have hwk : IntKind.i64.wrap ((k : Int) + 1) = (k : Int) + 1 := by rw [IntKind.wrap_i64]; have := HLEN.out; omega);obtain ⟨ga, rfl, _, ra⟩ := (HC6.out.below HG.out) k hlt;have HTK := Lib.hid (show flC (L.take (k + 1)) = flC (L.take k) ++ (CC L[k]).toList from by rw [List.take_succ_eq_append_getElem hlt, flC_append, flC_one]);generalize L[k] = x at *;have HK := Lib.hid hlt;have HRR := Lib.hid ra;have HOA := Lib.hid (HO.out.alloc (.cells (CC x) 33));clear hlt hk ra;go_wp2_with (first
    | (refine wpList_load_mid rfl 34 (.tmp 35) rfl ga (k * 10) rfl (CC x).toList _ HRR.out Tryz.underlying34 rfl (by kernel_rfl) ?_; simp only [Act.put, List.setIfInBounds_toArray, List.set_cons_zero, List.set_cons_succ])
    | (at_builtin; go_loud (refine wpList_append_own _ rfl _ _ 27 rfl w6.heap.size 33 i0 _ 10 160 Tryz.underlying27 hi hz0 hz1 hz2 rfl (by decide) _ _ _ rfl HOA.out ⟨_, 0, none⟩ 1 1 (CC x).toList rfl rfl (news_caps6 wr x _ rfl) (ones_caps x) (by unfold maxLen; have := HK.out; have := HLEN.out; omega) (by have := HK.out; have := HLEN.out; omega) (by have := HG.out.size; simp; omega) ?_)))
   rintro v' w8 hown hgrow -;rw [← HTK.out] at hown;have HG8 := Lib.hid ((HG.out.alloc HG.out.size (.cells (CC x) 33)).grown hgrow (by have := HG.out.size; simp; omega) (own_ge HOA.out));have HO8 := Lib.hid hown;clear hown hgrow;go_wp2;go_roundw;(case rel => exact ⟨k + 1, by have := HK.out; omega, by go_num, HO8, HG8⟩);case measure => have := HK.out; simp [intOf]; omega
  · (obtain rfl : k = L.length := by omega);(have hnl : ¬ (L.length : Int) < (L.length : Int) := by omega);have ho := HO.out;rw [List.take_length] at ho;obtain ⟨ce, cc, rfl, _, hcs⟩ := caps_form2 ho;have HSA := Lib.hid (rSame_yes ce be cc cb L HLEN.out (show T.length ≤ 999999999 from by have := HTL.out; omega) HOK.out wr hcs (HD6.out.below HG.out));clear ho hcs hlt hk HO;go_wp2_with (go_at_call 13; refine HSA.out.mono ?_; rintro e w9 ⟨rfl, hb⟩; have HB9 := Lib.hid (HB6.out.trans ((HG.out.trans (hb.mono HG.out.size)).mono HB6.out.size)); clear hb);go_ret;exact ⟨rfl, HB9.out⟩
theorem findAll_walk (W : World) (hL : Lay W) (ao : Option Addr) (c : Nat) (l : List Nd) (m : l.length ≤ maxLen) (B : Ns W (.slice ao l.length c) l) (F : ∀ n ∈ l, Wf n.s) (a1 : ByteArray) (w1 : a1.size ≤ maxLen) :
  Calls Tryz.prog 3 #[.slice ao l.length c, .string a1] W fun e W' => e = .returned (.bool true) ∧ Below W.heap.size W W' := by
 obtain ⟨T, rfl⟩ : ∃ T : List UInt8, a1 = ⟨T.toArray⟩ := ⟨a1.data.toList, (Lib.mk_data a1).symm⟩;cases hb : boundedL 16 8 5 l T.length with
 | false => exact FindAll_skip W hL ao c l.length T fun W' => fbounded_any ao c l W B m T false hb.symm
 | true =>
  obtain ⟨hl, hT⟩ := bounded_len7 hb;exact all_core W hL told_ok ao c l (by omega) B F T (by omega) (fun W' => fbounded_any ao c l W B m T true hb.symm)
end Go.Proofs.YtinallojhkaogaaGreatDoor.Mt