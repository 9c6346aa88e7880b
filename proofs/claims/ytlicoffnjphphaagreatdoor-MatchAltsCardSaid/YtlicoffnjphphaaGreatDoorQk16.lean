/- The texts RxTxt. -/
import Derived.Laws.Concat
import Derived.Test.YtlicoffnjphphaaGreatDoorQk06
import Derived.Test.YtlicoffnjphphaaGreatDoorQk08
import Derived.Test.YtlicoffnjphphaaGreatDoorQk09
import Derived.Test.YtlicoffnjphphaaGreatDoorQk15
set_option linter.unusedVariables false
set_option linter.unusedSimpArgs false
set_option maxHeartbeats 12800000
set_option maxRecDepth 100000
namespace Go.Proofs.YtlicoffnjphphaaGreatDoor.Rx
open Go.RowKit Go.Shelf
open Go.Proofs.YtlicoffnjphphaaGreatDoor.St (Wf word zeroW Tab SV SV_eq bytesL bytes_any)
open Go.Proofs.YtlicoffnjphphaaGreatDoor.Ad (dec_len)
open Tr
theorem infoStr : (Tryz.prog.info? 9).map (fun i => (i.zero, i.size, i.bytes)) = some (some (.string ⟨#[]⟩), 1, 16) := by kernel_rfl
theorem one_str (l : List UInt8) : ∀ u ∈ [S l], u.oneCell' = true := by simp [Value.oneCell']
theorem own_cell' {w : World} {B e n g cap m : Nat} {xs : List Value} (h : w.ownsRow B e 1 (.slice (some ⟨g, 0, none⟩) n cap) n xs) (hm : m < xs.length) : w.cell? ⟨g, m, none⟩ = some xs[m] := by
 obtain ⟨hl, h⟩ := h;rcases h with ⟨hv, _⟩ | ⟨g', cap', cur, hv, h1, h2, h3, h4, h5, h6⟩
 · cases hv
 simp only [Value.slice.injEq, true_and, Option.some.injEq, Addr.mk.injEq, and_true] at hv;obtain ⟨rfl, rfl⟩ := hv;rw [Lib.cell_of_heap h2];obtain ⟨u, hu⟩ : ∃ u, u = xs[m] := ⟨_, rfl⟩;rw [← hu];(have e1 : xs[m]? = some u := by rw [hu]; exact List.getElem?_eq_getElem hm);rw [← h6] at e1;(have hmn : m < n * 1 := by rw [← hl]; exact hm);rw [List.getElem?_take_of_lt hmn] at e1;simpa using e1
theorem own_lt {w : World} {B e n g cap z : Nat} {xs : List Value} (h : w.ownsRow B e z (.slice (some ⟨g, 0, none⟩) n cap) n xs) : g < w.heap.size := by
 rcases h.2 with ⟨hv, _⟩ | ⟨g', cap', cur, hv, h1, h2, _⟩
 · cases hv
 · simp only [Value.slice.injEq, true_and, Option.some.injEq, Addr.mk.injEq, and_true] at hv;obtain ⟨rfl, rfl⟩ := hv;exact lt_heap h2
/-- The tail of an own row of texts, joined. -/
theorem join_own (X : List (List UInt8)) (B g cap m p c' : Nat) (w : World) (h : w.ownsRow B 9 1 (.slice (some ⟨g, 0, none⟩) X.length cap) X.length (X.map S)) (hm : X.length = m + p) (hc : p ≤ c') (hp : p ≤ 2) (hl : X.flatten.length ≤ 100000) :
  Calls Tryz.prog 64 #[.slice (some ⟨g, m, none⟩) p c', S []] w fun e w' => e = .returned (S (X.drop m).flatten) ∧ Below w.heap.size w w' := by
 (have hlen : ((X.drop m).map fun x : List UInt8 => (⟨x.toArray⟩ : ByteArray)).length = p := by simp; omega);have hdat : (((X.drop m).map fun x : List UInt8 => (⟨x.toArray⟩ : ByteArray)).map (·.data.toList)) = X.drop m := by
  rw [List.map_map];(have e : ((fun x : ByteArray => x.data.toList) ∘ fun x : List UInt8 => (⟨x.toArray⟩ : ByteArray)) = id := by funext x; simp);rw [e, List.map_id]
 have hj : Lib.join (X.drop m) [] = (X.drop m).flatten := by
  cases e : X.drop m with
  | nil => rfl
  | cons x r =>
   rw [Lib.join_cons];simp [Lib.joinTail]
 have hfl := flat_drop X m;have h2 := Tryz.strings_Join g m c' ((X.drop m).map fun x : List UInt8 => (⟨x.toArray⟩ : ByteArray)) ⟨#[]⟩ w (by
   intro j x hx;rw [List.getElem?_map, List.getElem?_drop, Option.map_eq_some_iff] at hx;obtain ⟨y, hy, rfl⟩ := hx;obtain ⟨hlt, rfl⟩ := List.getElem?_eq_some_iff.1 hy;have := own_cell' h (m := m + j) (by simpa using hlt);rw [this];simp) (own_lt h) (by rw [hlen]; omega) (by rw [hlen]; exact hc) (by rw [hdat]; show (Lib.join _ []).length ≤ _; rw [hj]; omega)
 rw [hlen, hdat] at h2;refine h2.mono ?_;rintro e w' ⟨rfl, hb⟩;refine ⟨?_, hb⟩;show Ending.returned (.string ⟨(Lib.join _ []).toArray⟩) = _;rw [hj]
theorem itoa_len {n : Int} (h0 : -1 ≤ n) (h : n ≤ 255) : (Lib.itoa n).length ≤ 10 := by
 unfold Lib.itoa;split
 · have := dec_len n.natAbs (by omega);simp; omega
 · have := dec_len n.toNat (by omega);omega
theorem text_good (ao : Option Addr) (c : Nat) (t : Tr) (hg : Good t) (w : World) (h : Ns w (.slice ao (t.nodes 0).length c) (t.nodes 0)) (hw : ∀ n ∈ t.nodes 0, Wf n.s) (hL : Lay w) :
  Calls Tryz.prog 45 #[.slice ao (t.nodes 0).length c] w fun e w' => e = .returned (S (textT t)) ∧ Below w.heap.size w w' := by
 obtain ⟨i0, hi, hz0, hz1, hz2⟩ := info_parts infoStr;have HNS := Lib.hid h;have HL := Lib.hid hL;have HM0 := Lib.hid (may_any ao c _ w h hw);(have hmay : mayL (t.nodes 0) = true := by unfold mayL; rw [patOf_good hg]; rfl);rw [hmay] at HM0;have hsz := hg.2.1;have hps := size_pos t;obtain ⟨st0, hst⟩ := (ordered_iff (t.nodes 0)).2 ⟨t, hg.1, rfl⟩;have HEND := Lib.hid (show tx (t.nodes 0) (t.nodes 0).length = [textT t] from by rw [nodes_len]; exact tx_end hg);have HOR := Lib.hid hst;have hlen := nodes_len t 0;clear h hL hmay hst;generalize ht : textT t = tt at *;(have hl : (t.nodes 0).length ≤ 120 := by omega);(have hl0 : 0 < (t.nodes 0).length := by omega);clear hlen hsz hps hg ht;generalize t.nodes 0 = l at *;go_enter Tryz.func45, Tryz.ntmps45;go_wp2_with (go_at_call 24; refine HM0.out.mono ?_; rintro e w0 ⟨rfl, hb⟩; have HB0 := Lib.hid hb; clear hb);go_loopw [3, 16] (fun v i wr => ∃ (k : Nat), k ≤ l.length ∧ i = .int .i64 (k : Nat) ∧ Hid (wr.ownsRow w.heap.size 9 1 v (tx l k).length ((tx l k).map S)) ∧ Hid (Below w.heap.size w wr)) (fun _ i _ => l.length - (intOf i).toNat);(case atStart => exact ⟨0, Nat.zero_le _, rfl, Lib.hid (World.ownsRow_nil _ _ _ _), HB0⟩);case round =>
  clear HB0;obtain ⟨k, hk, rfl, HO, HB⟩ := hrel;by_cases hlt : k < l.length
  ·
   obtain ⟨B0, o0, rfl, q0, q1, q2, q3, q4, q5, q6, q7, q8, q9⟩ := (HNS.out.below HB.out).at hlt;obtain ⟨ho, hpa, htx, hfl, hXk⟩ := tx_step HOR.out hlt;have hwn : Wf l[k].s := hw _ (List.getElem_mem _);have HX1 := Lib.hid htx;clear htx;generalize tx l k = X at *;generalize hn : l[k] = n at *;(have hlt' : ((k : Nat) : Int) < ((l.length : Nat) : Int) := by omega);(have CPa := fun W => parts_any n W);clear hn hw;(have hp2 : parts n ≤ 2 := by unfold parts; split; omega; split <;> omega);obtain ⟨bo, cap, rfl⟩ : ∃ bo cap, u3 = .slice bo X.length cap := by
    rcases own_forms HO.out with ⟨rfl, h0⟩ | ⟨g, cap, rfl, _⟩
    · exact ⟨none, 0, by rw [h0]⟩
    · exact ⟨_, _, rfl⟩
   have HBN := ((Below.refl wr.heap.size wr).alloc (Nat.le_refl _) (Obj.cells (NC n) 55));have HNB : NB (wr.alloc (Obj.cells (NC n) 55)) wr.heap.size n := heap_alloc_new _ _;have HH0 := Lib.hid (NB.held (w0 := wr) HNB HBN);clear HNB HBN;obtain ⟨P, hP⟩ : ∃ P, P = parts n := ⟨_, rfl⟩;obtain ⟨m, hm⟩ : ∃ m, X.length = m + P := ⟨X.length - P, by omega⟩;rw [← hP, show X.length - P = m by omega] at HX1;rw [← hP] at CPa hp2 hpa;(have hsub : IntKind.i64.wrap (((X.length : Nat) : Int) - (P : Int)) = ((m : Nat) : Int) := by rw [IntKind.wrap_i64]; omega);have HM := Lib.hid hm;(have hm0 : (0 : Int) ≤ ((m : Nat) : Int) := by omega);(have hm1 : ((m : Nat) : Int) ≤ ((X.length : Nat) : Int) := by omega);(have hm2 : m ≤ X.length := by omega);(have HLW := fun (W : World) (hb : Below wr.heap.size wr W) => HL.out.below (HB.out.trans (hb.mono HB.out.size)));have HLW := Lib.hid HLW;have hbl := flat_drop X m;have HFL := Lib.hid hfl;obtain ⟨b, hb⟩ : ∃ b, b = (X.drop m).flatten := ⟨_, rfl⟩;rw [← hb] at HX1;(have hbl : b.length ≤ 100000 := by rw [hb]; omega);have HBE := Lib.hid hb;have HP := Lib.hid hP;clear hb hP hfl;(have hml : m ≤ 120 := by omega);have hcase : n.k = 0 ∨ n.k = 1 ∨ n.k = 2 ∨ n.k = 3 ∨ n.k = 4 ∨ n.k = 5 ∨ (n.k = 6 ∧ 0 ≤ n.mn ∧ n.mn ≤ 255 ∧ -1 ≤ n.mx ∧ n.mx ≤ 255) ∨ n.k = 7 ∨ (n.k = 8 ∧ 1 ≤ n.n ∧ n.n ≤ 9) := by
    unfold OneN at ho;omega
   clear ho;rcases hcase with hq | hq | hq | hq | hq | hq | ⟨hq, hq1, hq2, hq3, hq4⟩ | hq | ⟨hq, hq1, hq2⟩
   ·
    skip
    (have hkj : n.k = 0 := by omega);(have t0 : (n.k == 0) = true := by rw [beq_iff_eq]; omega);rw [show nodeS n b = [101] from by unfold nodeS; rw [if_pos hkj]] at HX1;(have hP0 : P = 0 := by rw [HP.out]; unfold parts; rw [if_neg (by omega), if_neg (by omega)]);subst hP0;clear HP hkj hq;have CJ := Lib.hid (fun (W : World) (_ : Below wr.heap.size wr W) (a : Option Addr) (c : Nat) => Tryz.strings_Join_none a c ⟨#[]⟩ W);rcases own_forms HO.out with ⟨hv, h0⟩ | ⟨g, cap', hv, hcap⟩
    ·
     (obtain ⟨rfl, h00, rfl⟩ : bo = none ∧ X.length = 0 ∧ cap = 0 := by simpa using hv);(obtain rfl : m = 0 := by omega);obtain rfl : X = [] := List.length_eq_zero_iff.1 h0;clear hv h0 h00 hm HM;go_wp2_with (first
      | (go_at_call 63; refine (CPa _).mono ?_; rintro e w1 ⟨rfl, hb1⟩; have HH1 := Lib.hid (HH0.out.below hb1); clear hb1; obtain ⟨r0, r1, r2, r3, r4, r5, r6, r7, r8, r9, _⟩ := HH1.out)
      | (go_at_call 64; refine (CJ.out _ HH1.out.bel _ _).mono ?_; rintro e w2 ⟨rfl, rfl⟩; have HH2 := Lib.hid HH1.out; obtain ⟨s0, s1, s2, s3, s4, s5, s6, s7, s8, s9, _⟩ := HH2.out; clear HH1; have HOm := Lib.hid (own_below (HO.out) (HH2.out.bel)))
      | (have hzz := HH2; clear hzz; at_builtin; refine wpList_append_own _ rfl _ _ 105 rfl w.heap.size 9 i0 _ 1 16 Tryz.underlying105 hi hz0 hz1 hz2 rfl (by decide) _ _ _ rfl (HOm.out.alloc _) ⟨_, 0, none⟩ 1 1 [S [101]] rfl rfl (one_cell (heap_alloc_new _ _)) (one_str _) (by unfold maxLen; omega) (by omega) (by have h1 := HB.out.size; have h2 := HH2.out.bel.size; simp; omega) ?_))
     rintro v' w4 hown hgrow -;have HB4 := Lib.hid (((HB.out.trans (HH2.out.bel.mono HB.out.size)).alloc (by have h1 := HB.out.size; have h2 := HH2.out.bel.size; omega) _).grown hgrow (by have h1 := HB.out.size; have h2 := HH2.out.bel.size; simp; omega) (own_ge HOm.out));have HO4 : Hid (w4.ownsRow w.heap.size 9 1 v' (tx l (k + 1)).length ((tx l (k + 1)).map S)) := Lib.hid (by rw [HX1.out]; simpa using hown);obtain ⟨bo', n', cap', rfl⟩ : ∃ bo' n' cap', v' = .slice bo' n' cap' := by
      rcases own_forms hown with ⟨rfl, _⟩ | ⟨g, cap, rfl, _⟩
      · exact ⟨_, _, _, rfl⟩
      · exact ⟨_, _, _, rfl⟩
     clear hown hgrow;go_wp2;go_roundw;(case rel => exact ⟨k + 1, by omega, by go_num, HO4, HB4⟩);case measure => simp [intOf]; omega
    ·
     (obtain ⟨rfl, rfl⟩ : bo = some ⟨g, 0, none⟩ ∧ cap = cap' := by simpa using hv);(have hcap' : ((X.length : Nat) : Int) ≤ (cap : Int) := by omega);clear hv;(obtain rfl : m = X.length := by omega);clear hm HM;by_cases hcs : cap = X.length
     ·
      subst hcs;go_wp2_with (first
       | (go_at_call 63; refine (CPa _).mono ?_; rintro e w1 ⟨rfl, hb1⟩; have HH1 := Lib.hid (HH0.out.below hb1); clear hb1; obtain ⟨r0, r1, r2, r3, r4, r5, r6, r7, r8, r9, _⟩ := HH1.out)
       | (go_at_call 64; refine (CJ.out _ HH1.out.bel _ _).mono ?_; rintro e w2 ⟨rfl, rfl⟩; have HH2 := Lib.hid HH1.out; obtain ⟨s0, s1, s2, s3, s4, s5, s6, s7, s8, s9, _⟩ := HH2.out; clear HH1; have HOm := Lib.hid (own_below (own_take HO.out hm2) (HH2.out.bel)))
       | (have hzz := HH2; clear hzz; at_builtin; refine wpList_append_own _ rfl _ _ 105 rfl w.heap.size 9 i0 _ 1 16 Tryz.underlying105 hi hz0 hz1 hz2 rfl (by decide) _ _ _ rfl (HOm.out.alloc _) ⟨_, 0, none⟩ 1 1 [S [101]] rfl rfl (one_cell (heap_alloc_new _ _)) (one_str _) (by unfold maxLen; omega) (by omega) (by have h1 := HB.out.size; have h2 := HH2.out.bel.size; simp; omega) ?_))
      rintro v' w4 hown hgrow -;have HB4 := Lib.hid (((HB.out.trans (HH2.out.bel.mono HB.out.size)).alloc (by have h1 := HB.out.size; have h2 := HH2.out.bel.size; omega) _).grown hgrow (by have h1 := HB.out.size; have h2 := HH2.out.bel.size; simp; omega) (own_ge HOm.out));have HO4 : Hid (w4.ownsRow w.heap.size 9 1 v' (tx l (k + 1)).length ((tx l (k + 1)).map S)) := Lib.hid (by rw [HX1.out]; have hh := hown; rw [List.take_of_length_le (by simp)] at hh; simpa using hh);obtain ⟨bo', n', cap', rfl⟩ : ∃ bo' n' cap', v' = .slice bo' n' cap' := by
       rcases own_forms hown with ⟨rfl, _⟩ | ⟨g, cap, rfl, _⟩
       · exact ⟨_, _, _, rfl⟩
       · exact ⟨_, _, _, rfl⟩
      clear hown hgrow;go_wp2;go_roundw;(case rel => exact ⟨k + 1, by omega, by go_num, HO4, HB4⟩);case measure => simp [intOf]; omega
     ·
      skip
      go_wp2_with (first
       | (go_at_call 63; refine (CPa _).mono ?_; rintro e w1 ⟨rfl, hb1⟩; have HH1 := Lib.hid (HH0.out.below hb1); clear hb1; obtain ⟨r0, r1, r2, r3, r4, r5, r6, r7, r8, r9, _⟩ := HH1.out)
       | (go_at_call 64; refine (CJ.out _ HH1.out.bel _ _).mono ?_; rintro e w2 ⟨rfl, rfl⟩; have HH2 := Lib.hid HH1.out; obtain ⟨s0, s1, s2, s3, s4, s5, s6, s7, s8, s9, _⟩ := HH2.out; clear HH1; have HOm := Lib.hid (own_below (own_take HO.out hm2) (HH2.out.bel)))
       | (have hzz := HH2; clear hzz; at_builtin; refine wpList_append_own _ rfl _ _ 105 rfl w.heap.size 9 i0 _ 1 16 Tryz.underlying105 hi hz0 hz1 hz2 rfl (by decide) _ _ _ rfl (HOm.out.alloc _) ⟨_, 0, none⟩ 1 1 [S [101]] rfl rfl (one_cell (heap_alloc_new _ _)) (one_str _) (by unfold maxLen; omega) (by omega) (by have h1 := HB.out.size; have h2 := HH2.out.bel.size; simp; omega) ?_))
      rintro v' w4 hown hgrow -;have HB4 := Lib.hid (((HB.out.trans (HH2.out.bel.mono HB.out.size)).alloc (by have h1 := HB.out.size; have h2 := HH2.out.bel.size; omega) _).grown hgrow (by have h1 := HB.out.size; have h2 := HH2.out.bel.size; simp; omega) (own_ge HOm.out));have HO4 : Hid (w4.ownsRow w.heap.size 9 1 v' (tx l (k + 1)).length ((tx l (k + 1)).map S)) := Lib.hid (by rw [HX1.out]; have hh := hown; rw [List.take_of_length_le (by simp)] at hh; simpa using hh);obtain ⟨bo', n', cap', rfl⟩ : ∃ bo' n' cap', v' = .slice bo' n' cap' := by
       rcases own_forms hown with ⟨rfl, _⟩ | ⟨g, cap, rfl, _⟩
       · exact ⟨_, _, _, rfl⟩
       · exact ⟨_, _, _, rfl⟩
      clear hown hgrow;go_wp2;go_roundw;(case rel => exact ⟨k + 1, by omega, by go_num, HO4, HB4⟩);case measure => simp [intOf]; omega
   ·
    skip
    (have hkj : n.k = 1 := by omega);(have t0 : (n.k == 0) = false := by rw [beq_eq_false_iff_ne]; omega);(have t1 : (n.k == 1) = true := by rw [beq_iff_eq]; omega);rw [show nodeS n b = (91 :: ((bytesL n.s).flatMap hexB ++ [93])) from by unfold nodeS; rw [if_neg (by omega)]; rw [if_pos hkj]] at HX1;(have hP0 : P = 0 := by rw [HP.out]; unfold parts; rw [if_neg (by omega), if_neg (by omega)]);subst hP0;clear HP hkj hq;have CJ := Lib.hid (fun (W : World) (_ : Below wr.heap.size wr W) (a : Option Addr) (c : Nat) => Tryz.strings_Join_none a c ⟨#[]⟩ W);rcases own_forms HO.out with ⟨hv, h0⟩ | ⟨g, cap', hv, hcap⟩
    ·
     (obtain ⟨rfl, h00, rfl⟩ : bo = none ∧ X.length = 0 ∧ cap = 0 := by simpa using hv);(obtain rfl : m = 0 := by omega);obtain rfl : X = [] := List.length_eq_zero_iff.1 h0;clear hv h0 h00 hm HM;have CB := Lib.hid (fun (W : World) (hb : Below wr.heap.size wr W) => by
      have h1 := bytes_any n.s W hwn (HLW.out W hb).tl (HLW.out W hb).tab;rw [SV_eq hwn] at h1;exact h1)
     (have hbs : (bytesL n.s).length ≤ 256 := by rw [Go.Proofs.YtlicoffnjphphaaGreatDoor.St.bytesL_len]; exact Go.Proofs.YtlicoffnjphphaaGreatDoor.St.bytesN_len n.s);generalize bytesL n.s = bs at *;(have hszb : (ByteArray.mk bs.toArray).size = bs.length := by simp [ByteArray.size]);go_wp2_with (first
      | (go_at_call 63; refine (CPa _).mono ?_; rintro e w1 ⟨rfl, hb1⟩; have HH1 := Lib.hid (HH0.out.below hb1); clear hb1; obtain ⟨r0, r1, r2, r3, r4, r5, r6, r7, r8, r9, _⟩ := HH1.out)
      | (go_at_call 64; refine (CJ.out _ HH1.out.bel _ _).mono ?_; rintro e w2 ⟨rfl, rfl⟩; have HH2 := Lib.hid HH1.out; obtain ⟨s0, s1, s2, s3, s4, s5, s6, s7, s8, s9, _⟩ := HH2.out; clear HH1; have HOm := Lib.hid (own_below (HO.out) (HH2.out.bel)))
      | (go_at_call 65; refine (CB.out _ HH2.out.bel).mono ?_; rintro e w3 ⟨rfl, hb3⟩; have HH3 := Lib.hid (HH2.out.below hb3); have HOm := Lib.hid (own_below HOm.out hb3); clear hb3))
     have hcv := run_bytes_of_string (P := Tryz.prog) w3 9 107 5 ⟨bs.toArray⟩ Tryz.underlying9 Tryz.underlying107 Tryz.underlying5;rw [hszb] at hcv;generalize grownCap w3 bs.length 0 5 = gc at hcv;have HC := Lib.hid (bytes_cell w3 bs gc ((bytesRow ⟨bs.toArray⟩ gc).size, (bytesRow ⟨bs.toArray⟩ gc).size + 1));have HBa := Lib.hid ((Below.refl w3.heap.size w3).alloc (Nat.le_refl _) (.cells (bytesRow ⟨bs.toArray⟩ gc) 5 ((bytesRow ⟨bs.toArray⟩ gc).size, (bytesRow ⟨bs.toArray⟩ gc).size + 1))).drew;(have hszw : w3.heap.size < (w3.alloc (.cells (bytesRow ⟨bs.toArray⟩ gc) 5 ((bytesRow ⟨bs.toArray⟩ gc).size, (bytesRow ⟨bs.toArray⟩ gc).size + 1))).drew.heap.size := by simp);generalize Obj.cells (bytesRow ⟨bs.toArray⟩ gc) 5 ((bytesRow ⟨bs.toArray⟩ gc).size, (bytesRow ⟨bs.toArray⟩ gc).size + 1) = ob at *;have HSW := Lib.hid hszw;clear hszw;rw [hcv];clear hcv;go_wp2;have HCd : Hid (∀ i (h : i < bs.length), ((w3.alloc ob).drew).cell? ⟨w3.heap.size, i, none⟩ = some (.int .u8 (bs[i].toNat : Int))) := Lib.hid HC.out;clear HC;generalize hw4 : (w3.alloc ob).drew = w4 at *;have HH4 := Lib.hid (HH3.out.below HBa.out);have HOm4 := Lib.hid (own_below HOm.out HBa.out);go_loopw [8, 40] (fun s i wr2 => ∃ (j : Nat), j ≤ bs.length ∧ i = .int .i64 (j : Nat) ∧ s = S (91 :: (bs.take j).flatMap hexB) ∧ Hid (Below w4.heap.size w4 wr2)) (fun _ i _ => bs.length - (intOf i).toNat);(case atStart => exact ⟨0, Nat.zero_le _, rfl, rfl, Lib.hid (Below.refl _ _)⟩);case round =>
      obtain ⟨j, hj, rfl, rfl, HB2⟩ := hrel;by_cases hjl : j < bs.length
      ·
       (have hjl' : ((j : Nat) : Int) < ((bs.length : Nat) : Int) := by omega);have hcl := (HB2.out.cell (p := ⟨w3.heap.size, j, none⟩) HSW.out).trans (HCd.out j hjl);have hst : (91 :: (bs.take j).flatMap hexB).length ≤ 513 := by
        have hx : ∀ l : List UInt8, (l.flatMap hexB).length = 2 * l.length := by
         intro l
         induction l with
         | nil => rfl
         | cons b r ih => rw [List.flatMap_cons, List.length_append, ih]; simp [hexB]; omega
        rw [List.length_cons, hx, List.length_take];omega
       have HNX := Lib.hid (show 91 :: (bs.take (j + 1)).flatMap hexB = (91 :: (bs.take j).flatMap hexB) ++ [hexd (bs[j].toNat / 16), hexd (bs[j].toNat % 16)] from by
        rw [List.take_succ_eq_append_getElem hjl, List.flatMap_append]; simp [hexB])
       have hdl := UInt8.toNat_lt bs[j];have HLZ := Lib.hid (fun (W : World) (hb : Below wr.heap.size wr W) => HLW.out W (HH4.out.bel.trans ((HB2.out.trans (hb.mono HB2.out.size)).mono HH4.out.bel.size)));generalize bs[j] = d at *;generalize 91 :: (bs.take j).flatMap hexB = z at *;have CF1 := Lib.hid (fun (W : World) (hb : Below wr.heap.size wr W) => fmt16 (d.toNat / 16) (by omega) W (HLZ.out W hb).tab (HLZ.out W hb).tl);have CF2 := Lib.hid (fun (W : World) (hb : Below wr.heap.size wr W) => fmt16 (d.toNat % 16) (by omega) W (HLZ.out W hb).tab (HLZ.out W hb).tl);generalize hexd (d.toNat / 16) = x1 at *;generalize hexd (d.toNat % 16) = x2 at *;(have c1 := fun w => run_string_add_lists (P := Tryz.prog) w [x1] [x2] (by simp) (by simp));(have c2 := fun w => run_string_add_lists (P := Tryz.prog) w z [x1, x2] (by omega) (by simp));go_wp2_with (first
        | (go_at_call 66; have hb0 := CF1.out _ (Below.refl _ _); clear CF1; refine hb0.mono ?_; rintro e w5 ⟨rfl, hb5⟩; have HB5 := Lib.hid hb5; clear hb0 hb5)
        | (go_at_call 66; refine (CF2.out _ HB5.out).mono ?_; rintro e w6 ⟨rfl, hb6⟩; have HB6 := Lib.hid (HB5.out.trans (hb6.mono HB5.out.size)); clear hb6))
       go_roundw;(case rel => exact ⟨j + 1, by omega, by go_num, by rw [HNX.out], Lib.hid (HB2.out.trans (HB6.out.mono HB2.out.size))⟩);case measure => simp [intOf]; omega
      ·
       (obtain rfl : j = bs.length := by omega);have HH5 := Lib.hid (HH4.out.below HB2.out);have HOm := Lib.hid (own_below HOm4.out HB2.out);have hst : (91 :: bs.flatMap hexB).length ≤ 513 := by
        have hx : ∀ l : List UInt8, (l.flatMap hexB).length = 2 * l.length := by
         intro l
         induction l with
         | nil => rfl
         | cons b r ih => rw [List.flatMap_cons, List.length_append, ih]; simp [hexB]; omega
        rw [List.length_cons, hx];omega
       rw [List.take_length];rw [show 91 :: (bs.flatMap hexB ++ [93]) = (91 :: bs.flatMap hexB) ++ [93] from by simp] at HX1;generalize 91 :: bs.flatMap hexB = z at *;(have c1 := fun w => run_string_add_lists (P := Tryz.prog) w z [93] (by omega) (by decide));go_wp2_with (have hzz := HH5; clear hzz; at_builtin; refine wpList_append_own _ rfl _ _ 105 rfl w.heap.size 9 i0 _ 1 16 Tryz.underlying105 hi hz0 hz1 hz2 rfl (by decide) _ _ _ rfl (HOm.out.alloc _) ⟨_, 0, none⟩ 1 1 [S (z ++ [93])] rfl rfl (one_cell (heap_alloc_new _ _)) (one_str _) (by unfold maxLen; omega) (by omega) (by have h1 := HB.out.size; have h2 := HH5.out.bel.size; simp; omega) ?_);rintro v' w4 hown hgrow -;have HB4 := Lib.hid (((HB.out.trans (HH5.out.bel.mono HB.out.size)).alloc (by have h1 := HB.out.size; have h2 := HH5.out.bel.size; omega) _).grown hgrow (by have h1 := HB.out.size; have h2 := HH5.out.bel.size; simp; omega) (own_ge HOm.out));have HO4 : Hid (w4.ownsRow w.heap.size 9 1 v' (tx l (k + 1)).length ((tx l (k + 1)).map S)) := Lib.hid (by rw [HX1.out]; simpa using hown);obtain ⟨bo', n', cap', rfl⟩ : ∃ bo' n' cap', v' = .slice bo' n' cap' := by
        rcases own_forms hown with ⟨rfl, _⟩ | ⟨g, cap, rfl, _⟩
        · exact ⟨_, _, _, rfl⟩
        · exact ⟨_, _, _, rfl⟩
       clear hown hgrow;go_wp2;go_roundw;(case rel => exact ⟨k + 1, by omega, by go_num, HO4, HB4⟩);case measure => simp [intOf]; omega
    ·
     (obtain ⟨rfl, rfl⟩ : bo = some ⟨g, 0, none⟩ ∧ cap = cap' := by simpa using hv);(have hcap' : ((X.length : Nat) : Int) ≤ (cap : Int) := by omega);clear hv;(obtain rfl : m = X.length := by omega);clear hm HM;by_cases hcs : cap = X.length
     ·
      subst hcs;have CB := Lib.hid (fun (W : World) (hb : Below wr.heap.size wr W) => by
       have h1 := bytes_any n.s W hwn (HLW.out W hb).tl (HLW.out W hb).tab;rw [SV_eq hwn] at h1;exact h1)
      (have hbs : (bytesL n.s).length ≤ 256 := by rw [Go.Proofs.YtlicoffnjphphaaGreatDoor.St.bytesL_len]; exact Go.Proofs.YtlicoffnjphphaaGreatDoor.St.bytesN_len n.s);generalize bytesL n.s = bs at *;(have hszb : (ByteArray.mk bs.toArray).size = bs.length := by simp [ByteArray.size]);go_wp2_with (first
       | (go_at_call 63; refine (CPa _).mono ?_; rintro e w1 ⟨rfl, hb1⟩; have HH1 := Lib.hid (HH0.out.below hb1); clear hb1; obtain ⟨r0, r1, r2, r3, r4, r5, r6, r7, r8, r9, _⟩ := HH1.out)
       | (go_at_call 64; refine (CJ.out _ HH1.out.bel _ _).mono ?_; rintro e w2 ⟨rfl, rfl⟩; have HH2 := Lib.hid HH1.out; obtain ⟨s0, s1, s2, s3, s4, s5, s6, s7, s8, s9, _⟩ := HH2.out; clear HH1; have HOm := Lib.hid (own_below (own_take HO.out hm2) (HH2.out.bel)))
       | (go_at_call 65; refine (CB.out _ HH2.out.bel).mono ?_; rintro e w3 ⟨rfl, hb3⟩; have HH3 := Lib.hid (HH2.out.below hb3); have HOm := Lib.hid (own_below HOm.out hb3); clear hb3))
      have hcv := run_bytes_of_string (P := Tryz.prog) w3 9 107 5 ⟨bs.toArray⟩ Tryz.underlying9 Tryz.underlying107 Tryz.underlying5;rw [hszb] at hcv;generalize grownCap w3 bs.length 0 5 = gc at hcv;have HC := Lib.hid (bytes_cell w3 bs gc ((bytesRow ⟨bs.toArray⟩ gc).size, (bytesRow ⟨bs.toArray⟩ gc).size + 1));have HBa := Lib.hid ((Below.refl w3.heap.size w3).alloc (Nat.le_refl _) (.cells (bytesRow ⟨bs.toArray⟩ gc) 5 ((bytesRow ⟨bs.toArray⟩ gc).size, (bytesRow ⟨bs.toArray⟩ gc).size + 1))).drew;(have hszw : w3.heap.size < (w3.alloc (.cells (bytesRow ⟨bs.toArray⟩ gc) 5 ((bytesRow ⟨bs.toArray⟩ gc).size, (bytesRow ⟨bs.toArray⟩ gc).size + 1))).drew.heap.size := by simp);generalize Obj.cells (bytesRow ⟨bs.toArray⟩ gc) 5 ((bytesRow ⟨bs.toArray⟩ gc).size, (bytesRow ⟨bs.toArray⟩ gc).size + 1) = ob at *;have HSW := Lib.hid hszw;clear hszw;rw [hcv];clear hcv;go_wp2;have HCd : Hid (∀ i (h : i < bs.length), ((w3.alloc ob).drew).cell? ⟨w3.heap.size, i, none⟩ = some (.int .u8 (bs[i].toNat : Int))) := Lib.hid HC.out;clear HC;generalize hw4 : (w3.alloc ob).drew = w4 at *;have HH4 := Lib.hid (HH3.out.below HBa.out);have HOm4 := Lib.hid (own_below HOm.out HBa.out);go_loopw [8, 40] (fun s i wr2 => ∃ (j : Nat), j ≤ bs.length ∧ i = .int .i64 (j : Nat) ∧ s = S (91 :: (bs.take j).flatMap hexB) ∧ Hid (Below w4.heap.size w4 wr2)) (fun _ i _ => bs.length - (intOf i).toNat);(case atStart => exact ⟨0, Nat.zero_le _, rfl, rfl, Lib.hid (Below.refl _ _)⟩);case round =>
       obtain ⟨j, hj, rfl, rfl, HB2⟩ := hrel;by_cases hjl : j < bs.length
       ·
        (have hjl' : ((j : Nat) : Int) < ((bs.length : Nat) : Int) := by omega);have hcl := (HB2.out.cell (p := ⟨w3.heap.size, j, none⟩) HSW.out).trans (HCd.out j hjl);have hst : (91 :: (bs.take j).flatMap hexB).length ≤ 513 := by
         have hx : ∀ l : List UInt8, (l.flatMap hexB).length = 2 * l.length := by
          intro l
          induction l with
          | nil => rfl
          | cons b r ih => rw [List.flatMap_cons, List.length_append, ih]; simp [hexB]; omega
         rw [List.length_cons, hx, List.length_take];omega
        have HNX := Lib.hid (show 91 :: (bs.take (j + 1)).flatMap hexB = (91 :: (bs.take j).flatMap hexB) ++ [hexd (bs[j].toNat / 16), hexd (bs[j].toNat % 16)] from by
         rw [List.take_succ_eq_append_getElem hjl, List.flatMap_append]; simp [hexB])
        have hdl := UInt8.toNat_lt bs[j];have HLZ := Lib.hid (fun (W : World) (hb : Below wr.heap.size wr W) => HLW.out W (HH4.out.bel.trans ((HB2.out.trans (hb.mono HB2.out.size)).mono HH4.out.bel.size)));generalize bs[j] = d at *;generalize 91 :: (bs.take j).flatMap hexB = z at *;have CF1 := Lib.hid (fun (W : World) (hb : Below wr.heap.size wr W) => fmt16 (d.toNat / 16) (by omega) W (HLZ.out W hb).tab (HLZ.out W hb).tl);have CF2 := Lib.hid (fun (W : World) (hb : Below wr.heap.size wr W) => fmt16 (d.toNat % 16) (by omega) W (HLZ.out W hb).tab (HLZ.out W hb).tl);generalize hexd (d.toNat / 16) = x1 at *;generalize hexd (d.toNat % 16) = x2 at *;(have c1 := fun w => run_string_add_lists (P := Tryz.prog) w [x1] [x2] (by simp) (by simp));(have c2 := fun w => run_string_add_lists (P := Tryz.prog) w z [x1, x2] (by omega) (by simp));go_wp2_with (first
         | (go_at_call 66; have hb0 := CF1.out _ (Below.refl _ _); clear CF1; refine hb0.mono ?_; rintro e w5 ⟨rfl, hb5⟩; have HB5 := Lib.hid hb5; clear hb0 hb5)
         | (go_at_call 66; refine (CF2.out _ HB5.out).mono ?_; rintro e w6 ⟨rfl, hb6⟩; have HB6 := Lib.hid (HB5.out.trans (hb6.mono HB5.out.size)); clear hb6))
        go_roundw;(case rel => exact ⟨j + 1, by omega, by go_num, by rw [HNX.out], Lib.hid (HB2.out.trans (HB6.out.mono HB2.out.size))⟩);case measure => simp [intOf]; omega
       ·
        (obtain rfl : j = bs.length := by omega);have HH5 := Lib.hid (HH4.out.below HB2.out);have HOm := Lib.hid (own_below HOm4.out HB2.out);have hst : (91 :: bs.flatMap hexB).length ≤ 513 := by
         have hx : ∀ l : List UInt8, (l.flatMap hexB).length = 2 * l.length := by
          intro l
          induction l with
          | nil => rfl
          | cons b r ih => rw [List.flatMap_cons, List.length_append, ih]; simp [hexB]; omega
         rw [List.length_cons, hx];omega
        rw [List.take_length];rw [show 91 :: (bs.flatMap hexB ++ [93]) = (91 :: bs.flatMap hexB) ++ [93] from by simp] at HX1;generalize 91 :: bs.flatMap hexB = z at *;(have c1 := fun w => run_string_add_lists (P := Tryz.prog) w z [93] (by omega) (by decide));go_wp2_with (have hzz := HH5; clear hzz; at_builtin; refine wpList_append_own _ rfl _ _ 105 rfl w.heap.size 9 i0 _ 1 16 Tryz.underlying105 hi hz0 hz1 hz2 rfl (by decide) _ _ _ rfl (HOm.out.alloc _) ⟨_, 0, none⟩ 1 1 [S (z ++ [93])] rfl rfl (one_cell (heap_alloc_new _ _)) (one_str _) (by unfold maxLen; omega) (by omega) (by have h1 := HB.out.size; have h2 := HH5.out.bel.size; simp; omega) ?_);rintro v' w4 hown hgrow -;have HB4 := Lib.hid (((HB.out.trans (HH5.out.bel.mono HB.out.size)).alloc (by have h1 := HB.out.size; have h2 := HH5.out.bel.size; omega) _).grown hgrow (by have h1 := HB.out.size; have h2 := HH5.out.bel.size; simp; omega) (own_ge HOm.out));have HO4 : Hid (w4.ownsRow w.heap.size 9 1 v' (tx l (k + 1)).length ((tx l (k + 1)).map S)) := Lib.hid (by rw [HX1.out]; have hh := hown; rw [List.take_of_length_le (by simp)] at hh; simpa using hh);obtain ⟨bo', n', cap', rfl⟩ : ∃ bo' n' cap', v' = .slice bo' n' cap' := by
         rcases own_forms hown with ⟨rfl, _⟩ | ⟨g, cap, rfl, _⟩
         · exact ⟨_, _, _, rfl⟩
         · exact ⟨_, _, _, rfl⟩
        clear hown hgrow;go_wp2;go_roundw;(case rel => exact ⟨k + 1, by omega, by go_num, HO4, HB4⟩);case measure => simp [intOf]; omega
     ·
      skip
      have CB := Lib.hid (fun (W : World) (hb : Below wr.heap.size wr W) => by
       have h1 := bytes_any n.s W hwn (HLW.out W hb).tl (HLW.out W hb).tab;rw [SV_eq hwn] at h1;exact h1)
      (have hbs : (bytesL n.s).length ≤ 256 := by rw [Go.Proofs.YtlicoffnjphphaaGreatDoor.St.bytesL_len]; exact Go.Proofs.YtlicoffnjphphaaGreatDoor.St.bytesN_len n.s);generalize bytesL n.s = bs at *;(have hszb : (ByteArray.mk bs.toArray).size = bs.length := by simp [ByteArray.size]);go_wp2_with (first
       | (go_at_call 63; refine (CPa _).mono ?_; rintro e w1 ⟨rfl, hb1⟩; have HH1 := Lib.hid (HH0.out.below hb1); clear hb1; obtain ⟨r0, r1, r2, r3, r4, r5, r6, r7, r8, r9, _⟩ := HH1.out)
       | (go_at_call 64; refine (CJ.out _ HH1.out.bel _ _).mono ?_; rintro e w2 ⟨rfl, rfl⟩; have HH2 := Lib.hid HH1.out; obtain ⟨s0, s1, s2, s3, s4, s5, s6, s7, s8, s9, _⟩ := HH2.out; clear HH1; have HOm := Lib.hid (own_below (own_take HO.out hm2) (HH2.out.bel)))
       | (go_at_call 65; refine (CB.out _ HH2.out.bel).mono ?_; rintro e w3 ⟨rfl, hb3⟩; have HH3 := Lib.hid (HH2.out.below hb3); have HOm := Lib.hid (own_below HOm.out hb3); clear hb3))
      have hcv := run_bytes_of_string (P := Tryz.prog) w3 9 107 5 ⟨bs.toArray⟩ Tryz.underlying9 Tryz.underlying107 Tryz.underlying5;rw [hszb] at hcv;generalize grownCap w3 bs.length 0 5 = gc at hcv;have HC := Lib.hid (bytes_cell w3 bs gc ((bytesRow ⟨bs.toArray⟩ gc).size, (bytesRow ⟨bs.toArray⟩ gc).size + 1));have HBa := Lib.hid ((Below.refl w3.heap.size w3).alloc (Nat.le_refl _) (.cells (bytesRow ⟨bs.toArray⟩ gc) 5 ((bytesRow ⟨bs.toArray⟩ gc).size, (bytesRow ⟨bs.toArray⟩ gc).size + 1))).drew;(have hszw : w3.heap.size < (w3.alloc (.cells (bytesRow ⟨bs.toArray⟩ gc) 5 ((bytesRow ⟨bs.toArray⟩ gc).size, (bytesRow ⟨bs.toArray⟩ gc).size + 1))).drew.heap.size := by simp);generalize Obj.cells (bytesRow ⟨bs.toArray⟩ gc) 5 ((bytesRow ⟨bs.toArray⟩ gc).size, (bytesRow ⟨bs.toArray⟩ gc).size + 1) = ob at *;have HSW := Lib.hid hszw;clear hszw;rw [hcv];clear hcv;go_wp2;have HCd : Hid (∀ i (h : i < bs.length), ((w3.alloc ob).drew).cell? ⟨w3.heap.size, i, none⟩ = some (.int .u8 (bs[i].toNat : Int))) := Lib.hid HC.out;clear HC;generalize hw4 : (w3.alloc ob).drew = w4 at *;have HH4 := Lib.hid (HH3.out.below HBa.out);have HOm4 := Lib.hid (own_below HOm.out HBa.out);go_loopw [8, 40] (fun s i wr2 => ∃ (j : Nat), j ≤ bs.length ∧ i = .int .i64 (j : Nat) ∧ s = S (91 :: (bs.take j).flatMap hexB) ∧ Hid (Below w4.heap.size w4 wr2)) (fun _ i _ => bs.length - (intOf i).toNat);(case atStart => exact ⟨0, Nat.zero_le _, rfl, rfl, Lib.hid (Below.refl _ _)⟩);case round =>
       obtain ⟨j, hj, rfl, rfl, HB2⟩ := hrel;by_cases hjl : j < bs.length
       ·
        (have hjl' : ((j : Nat) : Int) < ((bs.length : Nat) : Int) := by omega);have hcl := (HB2.out.cell (p := ⟨w3.heap.size, j, none⟩) HSW.out).trans (HCd.out j hjl);have hst : (91 :: (bs.take j).flatMap hexB).length ≤ 513 := by
         have hx : ∀ l : List UInt8, (l.flatMap hexB).length = 2 * l.length := by
          intro l
          induction l with
          | nil => rfl
          | cons b r ih => rw [List.flatMap_cons, List.length_append, ih]; simp [hexB]; omega
         rw [List.length_cons, hx, List.length_take];omega
        have HNX := Lib.hid (show 91 :: (bs.take (j + 1)).flatMap hexB = (91 :: (bs.take j).flatMap hexB) ++ [hexd (bs[j].toNat / 16), hexd (bs[j].toNat % 16)] from by
         rw [List.take_succ_eq_append_getElem hjl, List.flatMap_append]; simp [hexB])
        have hdl := UInt8.toNat_lt bs[j];have HLZ := Lib.hid (fun (W : World) (hb : Below wr.heap.size wr W) => HLW.out W (HH4.out.bel.trans ((HB2.out.trans (hb.mono HB2.out.size)).mono HH4.out.bel.size)));generalize bs[j] = d at *;generalize 91 :: (bs.take j).flatMap hexB = z at *;have CF1 := Lib.hid (fun (W : World) (hb : Below wr.heap.size wr W) => fmt16 (d.toNat / 16) (by omega) W (HLZ.out W hb).tab (HLZ.out W hb).tl);have CF2 := Lib.hid (fun (W : World) (hb : Below wr.heap.size wr W) => fmt16 (d.toNat % 16) (by omega) W (HLZ.out W hb).tab (HLZ.out W hb).tl);generalize hexd (d.toNat / 16) = x1 at *;generalize hexd (d.toNat % 16) = x2 at *;(have c1 := fun w => run_string_add_lists (P := Tryz.prog) w [x1] [x2] (by simp) (by simp));(have c2 := fun w => run_string_add_lists (P := Tryz.prog) w z [x1, x2] (by omega) (by simp));go_wp2_with (first
         | (go_at_call 66; have hb0 := CF1.out _ (Below.refl _ _); clear CF1; refine hb0.mono ?_; rintro e w5 ⟨rfl, hb5⟩; have HB5 := Lib.hid hb5; clear hb0 hb5)
         | (go_at_call 66; refine (CF2.out _ HB5.out).mono ?_; rintro e w6 ⟨rfl, hb6⟩; have HB6 := Lib.hid (HB5.out.trans (hb6.mono HB5.out.size)); clear hb6))
        go_roundw;(case rel => exact ⟨j + 1, by omega, by go_num, by rw [HNX.out], Lib.hid (HB2.out.trans (HB6.out.mono HB2.out.size))⟩);case measure => simp [intOf]; omega
       ·
        (obtain rfl : j = bs.length := by omega);have HH5 := Lib.hid (HH4.out.below HB2.out);have HOm := Lib.hid (own_below HOm4.out HB2.out);have hst : (91 :: bs.flatMap hexB).length ≤ 513 := by
         have hx : ∀ l : List UInt8, (l.flatMap hexB).length = 2 * l.length := by
          intro l
          induction l with
          | nil => rfl
          | cons b r ih => rw [List.flatMap_cons, List.length_append, ih]; simp [hexB]; omega
         rw [List.length_cons, hx];omega
        rw [List.take_length];rw [show 91 :: (bs.flatMap hexB ++ [93]) = (91 :: bs.flatMap hexB) ++ [93] from by simp] at HX1;generalize 91 :: bs.flatMap hexB = z at *;(have c1 := fun w => run_string_add_lists (P := Tryz.prog) w z [93] (by omega) (by decide));go_wp2_with (have hzz := HH5; clear hzz; at_builtin; refine wpList_append_own _ rfl _ _ 105 rfl w.heap.size 9 i0 _ 1 16 Tryz.underlying105 hi hz0 hz1 hz2 rfl (by decide) _ _ _ rfl (HOm.out.alloc _) ⟨_, 0, none⟩ 1 1 [S (z ++ [93])] rfl rfl (one_cell (heap_alloc_new _ _)) (one_str _) (by unfold maxLen; omega) (by omega) (by have h1 := HB.out.size; have h2 := HH5.out.bel.size; simp; omega) ?_);rintro v' w4 hown hgrow -;have HB4 := Lib.hid (((HB.out.trans (HH5.out.bel.mono HB.out.size)).alloc (by have h1 := HB.out.size; have h2 := HH5.out.bel.size; omega) _).grown hgrow (by have h1 := HB.out.size; have h2 := HH5.out.bel.size; simp; omega) (own_ge HOm.out));have HO4 : Hid (w4.ownsRow w.heap.size 9 1 v' (tx l (k + 1)).length ((tx l (k + 1)).map S)) := Lib.hid (by rw [HX1.out]; have hh := hown; rw [List.take_of_length_le (by simp)] at hh; simpa using hh);obtain ⟨bo', n', cap', rfl⟩ : ∃ bo' n' cap', v' = .slice bo' n' cap' := by
         rcases own_forms hown with ⟨rfl, _⟩ | ⟨g, cap, rfl, _⟩
         · exact ⟨_, _, _, rfl⟩
         · exact ⟨_, _, _, rfl⟩
        clear hown hgrow;go_wp2;go_roundw;(case rel => exact ⟨k + 1, by omega, by go_num, HO4, HB4⟩);case measure => simp [intOf]; omega
   ·
    skip
    (have hkj : n.k = 2 := by omega);(have t0 : (n.k == 0) = false := by rw [beq_eq_false_iff_ne]; omega);(have t1 : (n.k == 1) = false := by rw [beq_eq_false_iff_ne]; omega);(have t2 : (n.k == 2) = true := by rw [beq_iff_eq]; omega);rw [show nodeS n b = [94] from by unfold nodeS; rw [if_neg (by omega)]; rw [if_neg (by omega)]; rw [if_pos hkj]] at HX1;(have hP0 : P = 0 := by rw [HP.out]; unfold parts; rw [if_neg (by omega), if_neg (by omega)]);subst hP0;clear HP hkj hq;have CJ := Lib.hid (fun (W : World) (_ : Below wr.heap.size wr W) (a : Option Addr) (c : Nat) => Tryz.strings_Join_none a c ⟨#[]⟩ W);rcases own_forms HO.out with ⟨hv, h0⟩ | ⟨g, cap', hv, hcap⟩
    ·
     (obtain ⟨rfl, h00, rfl⟩ : bo = none ∧ X.length = 0 ∧ cap = 0 := by simpa using hv);(obtain rfl : m = 0 := by omega);obtain rfl : X = [] := List.length_eq_zero_iff.1 h0;clear hv h0 h00 hm HM;go_wp2_with (first
      | (go_at_call 63; refine (CPa _).mono ?_; rintro e w1 ⟨rfl, hb1⟩; have HH1 := Lib.hid (HH0.out.below hb1); clear hb1; obtain ⟨r0, r1, r2, r3, r4, r5, r6, r7, r8, r9, _⟩ := HH1.out)
      | (go_at_call 64; refine (CJ.out _ HH1.out.bel _ _).mono ?_; rintro e w2 ⟨rfl, rfl⟩; have HH2 := Lib.hid HH1.out; obtain ⟨s0, s1, s2, s3, s4, s5, s6, s7, s8, s9, _⟩ := HH2.out; clear HH1; have HOm := Lib.hid (own_below (HO.out) (HH2.out.bel)))
      | (have hzz := HH2; clear hzz; at_builtin; refine wpList_append_own _ rfl _ _ 105 rfl w.heap.size 9 i0 _ 1 16 Tryz.underlying105 hi hz0 hz1 hz2 rfl (by decide) _ _ _ rfl (HOm.out.alloc _) ⟨_, 0, none⟩ 1 1 [S [94]] rfl rfl (one_cell (heap_alloc_new _ _)) (one_str _) (by unfold maxLen; omega) (by omega) (by have h1 := HB.out.size; have h2 := HH2.out.bel.size; simp; omega) ?_))
     rintro v' w4 hown hgrow -;have HB4 := Lib.hid (((HB.out.trans (HH2.out.bel.mono HB.out.size)).alloc (by have h1 := HB.out.size; have h2 := HH2.out.bel.size; omega) _).grown hgrow (by have h1 := HB.out.size; have h2 := HH2.out.bel.size; simp; omega) (own_ge HOm.out));have HO4 : Hid (w4.ownsRow w.heap.size 9 1 v' (tx l (k + 1)).length ((tx l (k + 1)).map S)) := Lib.hid (by rw [HX1.out]; simpa using hown);obtain ⟨bo', n', cap', rfl⟩ : ∃ bo' n' cap', v' = .slice bo' n' cap' := by
      rcases own_forms hown with ⟨rfl, _⟩ | ⟨g, cap, rfl, _⟩
      · exact ⟨_, _, _, rfl⟩
      · exact ⟨_, _, _, rfl⟩
     clear hown hgrow;go_wp2;go_roundw;(case rel => exact ⟨k + 1, by omega, by go_num, HO4, HB4⟩);case measure => simp [intOf]; omega
    ·
     (obtain ⟨rfl, rfl⟩ : bo = some ⟨g, 0, none⟩ ∧ cap = cap' := by simpa using hv);(have hcap' : ((X.length : Nat) : Int) ≤ (cap : Int) := by omega);clear hv;(obtain rfl : m = X.length := by omega);clear hm HM;by_cases hcs : cap = X.length
     ·
      subst hcs;go_wp2_with (first
       | (go_at_call 63; refine (CPa _).mono ?_; rintro e w1 ⟨rfl, hb1⟩; have HH1 := Lib.hid (HH0.out.below hb1); clear hb1; obtain ⟨r0, r1, r2, r3, r4, r5, r6, r7, r8, r9, _⟩ := HH1.out)
       | (go_at_call 64; refine (CJ.out _ HH1.out.bel _ _).mono ?_; rintro e w2 ⟨rfl, rfl⟩; have HH2 := Lib.hid HH1.out; obtain ⟨s0, s1, s2, s3, s4, s5, s6, s7, s8, s9, _⟩ := HH2.out; clear HH1; have HOm := Lib.hid (own_below (own_take HO.out hm2) (HH2.out.bel)))
       | (have hzz := HH2; clear hzz; at_builtin; refine wpList_append_own _ rfl _ _ 105 rfl w.heap.size 9 i0 _ 1 16 Tryz.underlying105 hi hz0 hz1 hz2 rfl (by decide) _ _ _ rfl (HOm.out.alloc _) ⟨_, 0, none⟩ 1 1 [S [94]] rfl rfl (one_cell (heap_alloc_new _ _)) (one_str _) (by unfold maxLen; omega) (by omega) (by have h1 := HB.out.size; have h2 := HH2.out.bel.size; simp; omega) ?_))
      rintro v' w4 hown hgrow -;have HB4 := Lib.hid (((HB.out.trans (HH2.out.bel.mono HB.out.size)).alloc (by have h1 := HB.out.size; have h2 := HH2.out.bel.size; omega) _).grown hgrow (by have h1 := HB.out.size; have h2 := HH2.out.bel.size; simp; omega) (own_ge HOm.out));have HO4 : Hid (w4.ownsRow w.heap.size 9 1 v' (tx l (k + 1)).length ((tx l (k + 1)).map S)) := Lib.hid (by rw [HX1.out]; have hh := hown; rw [List.take_of_length_le (by simp)] at hh; simpa using hh);obtain ⟨bo', n', cap', rfl⟩ : ∃ bo' n' cap', v' = .slice bo' n' cap' := by
       rcases own_forms hown with ⟨rfl, _⟩ | ⟨g, cap, rfl, _⟩
       · exact ⟨_, _, _, rfl⟩
       · exact ⟨_, _, _, rfl⟩
      clear hown hgrow;go_wp2;go_roundw;(case rel => exact ⟨k + 1, by omega, by go_num, HO4, HB4⟩);case measure => simp [intOf]; omega
     ·
      skip
      go_wp2_with (first
       | (go_at_call 63; refine (CPa _).mono ?_; rintro e w1 ⟨rfl, hb1⟩; have HH1 := Lib.hid (HH0.out.below hb1); clear hb1; obtain ⟨r0, r1, r2, r3, r4, r5, r6, r7, r8, r9, _⟩ := HH1.out)
       | (go_at_call 64; refine (CJ.out _ HH1.out.bel _ _).mono ?_; rintro e w2 ⟨rfl, rfl⟩; have HH2 := Lib.hid HH1.out; obtain ⟨s0, s1, s2, s3, s4, s5, s6, s7, s8, s9, _⟩ := HH2.out; clear HH1; have HOm := Lib.hid (own_below (own_take HO.out hm2) (HH2.out.bel)))
       | (have hzz := HH2; clear hzz; at_builtin; refine wpList_append_own _ rfl _ _ 105 rfl w.heap.size 9 i0 _ 1 16 Tryz.underlying105 hi hz0 hz1 hz2 rfl (by decide) _ _ _ rfl (HOm.out.alloc _) ⟨_, 0, none⟩ 1 1 [S [94]] rfl rfl (one_cell (heap_alloc_new _ _)) (one_str _) (by unfold maxLen; omega) (by omega) (by have h1 := HB.out.size; have h2 := HH2.out.bel.size; simp; omega) ?_))
      rintro v' w4 hown hgrow -;have HB4 := Lib.hid (((HB.out.trans (HH2.out.bel.mono HB.out.size)).alloc (by have h1 := HB.out.size; have h2 := HH2.out.bel.size; omega) _).grown hgrow (by have h1 := HB.out.size; have h2 := HH2.out.bel.size; simp; omega) (own_ge HOm.out));have HO4 : Hid (w4.ownsRow w.heap.size 9 1 v' (tx l (k + 1)).length ((tx l (k + 1)).map S)) := Lib.hid (by rw [HX1.out]; have hh := hown; rw [List.take_of_length_le (by simp)] at hh; simpa using hh);obtain ⟨bo', n', cap', rfl⟩ : ∃ bo' n' cap', v' = .slice bo' n' cap' := by
       rcases own_forms hown with ⟨rfl, _⟩ | ⟨g, cap, rfl, _⟩
       · exact ⟨_, _, _, rfl⟩
       · exact ⟨_, _, _, rfl⟩
      clear hown hgrow;go_wp2;go_roundw;(case rel => exact ⟨k + 1, by omega, by go_num, HO4, HB4⟩);case measure => simp [intOf]; omega
   ·
    skip
    (have hkj : n.k = 3 := by omega);(have t0 : (n.k == 0) = false := by rw [beq_eq_false_iff_ne]; omega);(have t1 : (n.k == 1) = false := by rw [beq_eq_false_iff_ne]; omega);(have t2 : (n.k == 2) = false := by rw [beq_eq_false_iff_ne]; omega);(have t3 : (n.k == 3) = true := by rw [beq_iff_eq]; omega);rw [show nodeS n b = [36] from by unfold nodeS; rw [if_neg (by omega)]; rw [if_neg (by omega)]; rw [if_neg (by omega)]; rw [if_pos hkj]] at HX1;(have hP0 : P = 0 := by rw [HP.out]; unfold parts; rw [if_neg (by omega), if_neg (by omega)]);subst hP0;clear HP hkj hq;have CJ := Lib.hid (fun (W : World) (_ : Below wr.heap.size wr W) (a : Option Addr) (c : Nat) => Tryz.strings_Join_none a c ⟨#[]⟩ W);rcases own_forms HO.out with ⟨hv, h0⟩ | ⟨g, cap', hv, hcap⟩
    ·
     (obtain ⟨rfl, h00, rfl⟩ : bo = none ∧ X.length = 0 ∧ cap = 0 := by simpa using hv);(obtain rfl : m = 0 := by omega);obtain rfl : X = [] := List.length_eq_zero_iff.1 h0;clear hv h0 h00 hm HM;go_wp2_with (first
      | (go_at_call 63; refine (CPa _).mono ?_; rintro e w1 ⟨rfl, hb1⟩; have HH1 := Lib.hid (HH0.out.below hb1); clear hb1; obtain ⟨r0, r1, r2, r3, r4, r5, r6, r7, r8, r9, _⟩ := HH1.out)
      | (go_at_call 64; refine (CJ.out _ HH1.out.bel _ _).mono ?_; rintro e w2 ⟨rfl, rfl⟩; have HH2 := Lib.hid HH1.out; obtain ⟨s0, s1, s2, s3, s4, s5, s6, s7, s8, s9, _⟩ := HH2.out; clear HH1; have HOm := Lib.hid (own_below (HO.out) (HH2.out.bel)))
      | (have hzz := HH2; clear hzz; at_builtin; refine wpList_append_own _ rfl _ _ 105 rfl w.heap.size 9 i0 _ 1 16 Tryz.underlying105 hi hz0 hz1 hz2 rfl (by decide) _ _ _ rfl (HOm.out.alloc _) ⟨_, 0, none⟩ 1 1 [S [36]] rfl rfl (one_cell (heap_alloc_new _ _)) (one_str _) (by unfold maxLen; omega) (by omega) (by have h1 := HB.out.size; have h2 := HH2.out.bel.size; simp; omega) ?_))
     rintro v' w4 hown hgrow -;have HB4 := Lib.hid (((HB.out.trans (HH2.out.bel.mono HB.out.size)).alloc (by have h1 := HB.out.size; have h2 := HH2.out.bel.size; omega) _).grown hgrow (by have h1 := HB.out.size; have h2 := HH2.out.bel.size; simp; omega) (own_ge HOm.out));have HO4 : Hid (w4.ownsRow w.heap.size 9 1 v' (tx l (k + 1)).length ((tx l (k + 1)).map S)) := Lib.hid (by rw [HX1.out]; simpa using hown);obtain ⟨bo', n', cap', rfl⟩ : ∃ bo' n' cap', v' = .slice bo' n' cap' := by
      rcases own_forms hown with ⟨rfl, _⟩ | ⟨g, cap, rfl, _⟩
      · exact ⟨_, _, _, rfl⟩
      · exact ⟨_, _, _, rfl⟩
     clear hown hgrow;go_wp2;go_roundw;(case rel => exact ⟨k + 1, by omega, by go_num, HO4, HB4⟩);case measure => simp [intOf]; omega
    ·
     (obtain ⟨rfl, rfl⟩ : bo = some ⟨g, 0, none⟩ ∧ cap = cap' := by simpa using hv);(have hcap' : ((X.length : Nat) : Int) ≤ (cap : Int) := by omega);clear hv;(obtain rfl : m = X.length := by omega);clear hm HM;by_cases hcs : cap = X.length
     ·
      subst hcs;go_wp2_with (first
       | (go_at_call 63; refine (CPa _).mono ?_; rintro e w1 ⟨rfl, hb1⟩; have HH1 := Lib.hid (HH0.out.below hb1); clear hb1; obtain ⟨r0, r1, r2, r3, r4, r5, r6, r7, r8, r9, _⟩ := HH1.out)
       | (go_at_call 64; refine (CJ.out _ HH1.out.bel _ _).mono ?_; rintro e w2 ⟨rfl, rfl⟩; have HH2 := Lib.hid HH1.out; obtain ⟨s0, s1, s2, s3, s4, s5, s6, s7, s8, s9, _⟩ := HH2.out; clear HH1; have HOm := Lib.hid (own_below (own_take HO.out hm2) (HH2.out.bel)))
       | (have hzz := HH2; clear hzz; at_builtin; refine wpList_append_own _ rfl _ _ 105 rfl w.heap.size 9 i0 _ 1 16 Tryz.underlying105 hi hz0 hz1 hz2 rfl (by decide) _ _ _ rfl (HOm.out.alloc _) ⟨_, 0, none⟩ 1 1 [S [36]] rfl rfl (one_cell (heap_alloc_new _ _)) (one_str _) (by unfold maxLen; omega) (by omega) (by have h1 := HB.out.size; have h2 := HH2.out.bel.size; simp; omega) ?_))
      rintro v' w4 hown hgrow -;have HB4 := Lib.hid (((HB.out.trans (HH2.out.bel.mono HB.out.size)).alloc (by have h1 := HB.out.size; have h2 := HH2.out.bel.size; omega) _).grown hgrow (by have h1 := HB.out.size; have h2 := HH2.out.bel.size; simp; omega) (own_ge HOm.out));have HO4 : Hid (w4.ownsRow w.heap.size 9 1 v' (tx l (k + 1)).length ((tx l (k + 1)).map S)) := Lib.hid (by rw [HX1.out]; have hh := hown; rw [List.take_of_length_le (by simp)] at hh; simpa using hh);obtain ⟨bo', n', cap', rfl⟩ : ∃ bo' n' cap', v' = .slice bo' n' cap' := by
       rcases own_forms hown with ⟨rfl, _⟩ | ⟨g, cap, rfl, _⟩
       · exact ⟨_, _, _, rfl⟩
       · exact ⟨_, _, _, rfl⟩
      clear hown hgrow;go_wp2;go_roundw;(case rel => exact ⟨k + 1, by omega, by go_num, HO4, HB4⟩);case measure => simp [intOf]; omega
     ·
      skip
      go_wp2_with (first
       | (go_at_call 63; refine (CPa _).mono ?_; rintro e w1 ⟨rfl, hb1⟩; have HH1 := Lib.hid (HH0.out.below hb1); clear hb1; obtain ⟨r0, r1, r2, r3, r4, r5, r6, r7, r8, r9, _⟩ := HH1.out)
       | (go_at_call 64; refine (CJ.out _ HH1.out.bel _ _).mono ?_; rintro e w2 ⟨rfl, rfl⟩; have HH2 := Lib.hid HH1.out; obtain ⟨s0, s1, s2, s3, s4, s5, s6, s7, s8, s9, _⟩ := HH2.out; clear HH1; have HOm := Lib.hid (own_below (own_take HO.out hm2) (HH2.out.bel)))
       | (have hzz := HH2; clear hzz; at_builtin; refine wpList_append_own _ rfl _ _ 105 rfl w.heap.size 9 i0 _ 1 16 Tryz.underlying105 hi hz0 hz1 hz2 rfl (by decide) _ _ _ rfl (HOm.out.alloc _) ⟨_, 0, none⟩ 1 1 [S [36]] rfl rfl (one_cell (heap_alloc_new _ _)) (one_str _) (by unfold maxLen; omega) (by omega) (by have h1 := HB.out.size; have h2 := HH2.out.bel.size; simp; omega) ?_))
      rintro v' w4 hown hgrow -;have HB4 := Lib.hid (((HB.out.trans (HH2.out.bel.mono HB.out.size)).alloc (by have h1 := HB.out.size; have h2 := HH2.out.bel.size; omega) _).grown hgrow (by have h1 := HB.out.size; have h2 := HH2.out.bel.size; simp; omega) (own_ge HOm.out));have HO4 : Hid (w4.ownsRow w.heap.size 9 1 v' (tx l (k + 1)).length ((tx l (k + 1)).map S)) := Lib.hid (by rw [HX1.out]; have hh := hown; rw [List.take_of_length_le (by simp)] at hh; simpa using hh);obtain ⟨bo', n', cap', rfl⟩ : ∃ bo' n' cap', v' = .slice bo' n' cap' := by
       rcases own_forms hown with ⟨rfl, _⟩ | ⟨g, cap, rfl, _⟩
       · exact ⟨_, _, _, rfl⟩
       · exact ⟨_, _, _, rfl⟩
      clear hown hgrow;go_wp2;go_roundw;(case rel => exact ⟨k + 1, by omega, by go_num, HO4, HB4⟩);case measure => simp [intOf]; omega
   ·
    skip
    (have hkj : n.k = 4 := by omega);(have t0 : (n.k == 0) = false := by rw [beq_eq_false_iff_ne]; omega);(have t1 : (n.k == 1) = false := by rw [beq_eq_false_iff_ne]; omega);(have t2 : (n.k == 2) = false := by rw [beq_eq_false_iff_ne]; omega);(have t3 : (n.k == 3) = false := by rw [beq_eq_false_iff_ne]; omega);(have t4 : (n.k == 4) = true := by rw [beq_iff_eq]; omega);rw [show nodeS n b = (38 :: b) from by unfold nodeS; rw [if_neg (by omega)]; rw [if_neg (by omega)]; rw [if_neg (by omega)]; rw [if_neg (by omega)]; rw [if_pos hkj]] at HX1;(have hP0 : P = 2 := by rw [HP.out]; unfold parts; rw [if_pos (by omega)]);subst hP0;clear HP hkj hq;obtain ⟨g, cap', rfl, rfl, hcap⟩ : ∃ g cap', bo = some ⟨g, 0, none⟩ ∧ cap = cap' ∧ X.length ≤ cap' := by
     rcases own_forms HO.out with ⟨hv, h0⟩ | ⟨g, cap', hv, hcap⟩
     · exfalso; omega
     · simp only [Value.slice.injEq, true_and] at hv; exact ⟨g, cap', hv.1, hv.2, hcap⟩
    (have hcap' : ((X.length : Nat) : Int) ≤ (cap : Int) := by omega);have CJ := Lib.hid (fun (W : World) (hb : Below wr.heap.size wr W) => by
     have h1 := join_own X w.heap.size g cap m 2 (cap - m) W (own_below HO.out hb) hm (by omega) (by omega) (by have := HFL.out; omega);rw [← HBE.out] at h1;exact h1)
    (have c1 := fun w => run_string_add_lists (P := Tryz.prog) w [38] b (by decide) (by omega));go_wp2_with (first
     | (go_at_call 63; refine (CPa _).mono ?_; rintro e w1 ⟨rfl, hb1⟩; have HH1 := Lib.hid (HH0.out.below hb1); clear hb1; obtain ⟨r0, r1, r2, r3, r4, r5, r6, r7, r8, r9, _⟩ := HH1.out)
     | (go_at_call 64; refine (CJ.out _ HH1.out.bel).mono ?_; rintro e w2 ⟨rfl, hb2⟩; have HH2 := Lib.hid (HH1.out.below hb2); clear hb2; obtain ⟨s0, s1, s2, s3, s4, s5, s6, s7, s8, s9, _⟩ := HH2.out; clear HH1; have HOm := Lib.hid (own_below (own_take HO.out hm2) (HH2.out.bel)))
     | (have hzz := HH2; clear hzz; at_builtin; refine wpList_append_own _ rfl _ _ 105 rfl w.heap.size 9 i0 _ 1 16 Tryz.underlying105 hi hz0 hz1 hz2 rfl (by decide) _ _ _ rfl (HOm.out.alloc _) ⟨_, 0, none⟩ 1 1 [S (38 :: b)] rfl rfl (one_cell (heap_alloc_new _ _)) (one_str _) (by unfold maxLen; omega) (by omega) (by have h1 := HB.out.size; have h2 := HH2.out.bel.size; simp; omega) ?_))
    rintro v' w4 hown hgrow -;have HB4 := Lib.hid (((HB.out.trans (HH2.out.bel.mono HB.out.size)).alloc (by have h1 := HB.out.size; have h2 := HH2.out.bel.size; omega) _).grown hgrow (by have h1 := HB.out.size; have h2 := HH2.out.bel.size; simp; omega) (own_ge HOm.out));have HO4 : Hid (w4.ownsRow w.heap.size 9 1 v' (tx l (k + 1)).length ((tx l (k + 1)).map S)) := Lib.hid (by rw [HX1.out]; simpa [HM.out, List.map_take] using hown);obtain ⟨bo', n', cap', rfl⟩ : ∃ bo' n' cap', v' = .slice bo' n' cap' := by
     rcases own_forms hown with ⟨rfl, _⟩ | ⟨g, cap, rfl, _⟩
     · exact ⟨_, _, _, rfl⟩
     · exact ⟨_, _, _, rfl⟩
    clear hown hgrow;go_wp2;go_roundw;(case rel => exact ⟨k + 1, by omega, by go_num, HO4, HB4⟩);case measure => simp [intOf]; omega
   ·
    skip
    (have hkj : n.k = 5 := by omega);(have t0 : (n.k == 0) = false := by rw [beq_eq_false_iff_ne]; omega);(have t1 : (n.k == 1) = false := by rw [beq_eq_false_iff_ne]; omega);(have t2 : (n.k == 2) = false := by rw [beq_eq_false_iff_ne]; omega);(have t3 : (n.k == 3) = false := by rw [beq_eq_false_iff_ne]; omega);(have t4 : (n.k == 4) = false := by rw [beq_eq_false_iff_ne]; omega);(have t5 : (n.k == 5) = true := by rw [beq_iff_eq]; omega);rw [show nodeS n b = (124 :: b) from by unfold nodeS; rw [if_neg (by omega)]; rw [if_neg (by omega)]; rw [if_neg (by omega)]; rw [if_neg (by omega)]; rw [if_neg (by omega)]; rw [if_pos hkj]] at HX1;(have hP0 : P = 2 := by rw [HP.out]; unfold parts; rw [if_pos (by omega)]);subst hP0;clear HP hkj hq;obtain ⟨g, cap', rfl, rfl, hcap⟩ : ∃ g cap', bo = some ⟨g, 0, none⟩ ∧ cap = cap' ∧ X.length ≤ cap' := by
     rcases own_forms HO.out with ⟨hv, h0⟩ | ⟨g, cap', hv, hcap⟩
     · exfalso; omega
     · simp only [Value.slice.injEq, true_and] at hv; exact ⟨g, cap', hv.1, hv.2, hcap⟩
    (have hcap' : ((X.length : Nat) : Int) ≤ (cap : Int) := by omega);have CJ := Lib.hid (fun (W : World) (hb : Below wr.heap.size wr W) => by
     have h1 := join_own X w.heap.size g cap m 2 (cap - m) W (own_below HO.out hb) hm (by omega) (by omega) (by have := HFL.out; omega);rw [← HBE.out] at h1;exact h1)
    (have c1 := fun w => run_string_add_lists (P := Tryz.prog) w [124] b (by decide) (by omega));go_wp2_with (first
     | (go_at_call 63; refine (CPa _).mono ?_; rintro e w1 ⟨rfl, hb1⟩; have HH1 := Lib.hid (HH0.out.below hb1); clear hb1; obtain ⟨r0, r1, r2, r3, r4, r5, r6, r7, r8, r9, _⟩ := HH1.out)
     | (go_at_call 64; refine (CJ.out _ HH1.out.bel).mono ?_; rintro e w2 ⟨rfl, hb2⟩; have HH2 := Lib.hid (HH1.out.below hb2); clear hb2; obtain ⟨s0, s1, s2, s3, s4, s5, s6, s7, s8, s9, _⟩ := HH2.out; clear HH1; have HOm := Lib.hid (own_below (own_take HO.out hm2) (HH2.out.bel)))
     | (have hzz := HH2; clear hzz; at_builtin; refine wpList_append_own _ rfl _ _ 105 rfl w.heap.size 9 i0 _ 1 16 Tryz.underlying105 hi hz0 hz1 hz2 rfl (by decide) _ _ _ rfl (HOm.out.alloc _) ⟨_, 0, none⟩ 1 1 [S (124 :: b)] rfl rfl (one_cell (heap_alloc_new _ _)) (one_str _) (by unfold maxLen; omega) (by omega) (by have h1 := HB.out.size; have h2 := HH2.out.bel.size; simp; omega) ?_))
    rintro v' w4 hown hgrow -;have HB4 := Lib.hid (((HB.out.trans (HH2.out.bel.mono HB.out.size)).alloc (by have h1 := HB.out.size; have h2 := HH2.out.bel.size; omega) _).grown hgrow (by have h1 := HB.out.size; have h2 := HH2.out.bel.size; simp; omega) (own_ge HOm.out));have HO4 : Hid (w4.ownsRow w.heap.size 9 1 v' (tx l (k + 1)).length ((tx l (k + 1)).map S)) := Lib.hid (by rw [HX1.out]; simpa [HM.out, List.map_take] using hown);obtain ⟨bo', n', cap', rfl⟩ : ∃ bo' n' cap', v' = .slice bo' n' cap' := by
     rcases own_forms hown with ⟨rfl, _⟩ | ⟨g, cap, rfl, _⟩
     · exact ⟨_, _, _, rfl⟩
     · exact ⟨_, _, _, rfl⟩
    clear hown hgrow;go_wp2;go_roundw;(case rel => exact ⟨k + 1, by omega, by go_num, HO4, HB4⟩);case measure => simp [intOf]; omega
   ·
    skip
    (have hkj : n.k = 6 := by omega);(have t0 : (n.k == 0) = false := by rw [beq_eq_false_iff_ne]; omega);(have t1 : (n.k == 1) = false := by rw [beq_eq_false_iff_ne]; omega);(have t2 : (n.k == 2) = false := by rw [beq_eq_false_iff_ne]; omega);(have t3 : (n.k == 3) = false := by rw [beq_eq_false_iff_ne]; omega);(have t4 : (n.k == 4) = false := by rw [beq_eq_false_iff_ne]; omega);(have t5 : (n.k == 5) = false := by rw [beq_eq_false_iff_ne]; omega);(have t6 : (n.k == 6) = true := by rw [beq_iff_eq]; omega);rw [show nodeS n b = (42 :: (Lib.itoa n.mn ++ 44 :: (Lib.itoa n.mx ++ 59 :: b))) from by unfold nodeS; rw [if_neg (by omega)]; rw [if_neg (by omega)]; rw [if_neg (by omega)]; rw [if_neg (by omega)]; rw [if_neg (by omega)]; rw [if_neg (by omega)]; rw [if_pos hkj]] at HX1;(have hP0 : P = 1 := by rw [HP.out]; unfold parts; rw [if_neg (by omega), if_pos (by omega)]);subst hP0;clear HP hkj hq;obtain ⟨g, cap', rfl, rfl, hcap⟩ : ∃ g cap', bo = some ⟨g, 0, none⟩ ∧ cap = cap' ∧ X.length ≤ cap' := by
     rcases own_forms HO.out with ⟨hv, h0⟩ | ⟨g, cap', hv, hcap⟩
     · exfalso; omega
     · simp only [Value.slice.injEq, true_and] at hv; exact ⟨g, cap', hv.1, hv.2, hcap⟩
    (have hcap' : ((X.length : Nat) : Int) ≤ (cap : Int) := by omega);have CJ := Lib.hid (fun (W : World) (hb : Below wr.heap.size wr W) => by
     have h1 := join_own X w.heap.size g cap m 1 (cap - m) W (own_below HO.out hb) hm (by omega) (by omega) (by have := HFL.out; omega);rw [← HBE.out] at h1;exact h1)
    have hi10 := itoa_len (n := n.mn) (by omega) (by omega);have hi11 := itoa_len (n := n.mx) (by omega) (by omega);generalize hx : Lib.itoa n.mn = x at *;generalize hy : Lib.itoa n.mx = y at *;have HIX := Lib.hid hx;have HIY := Lib.hid hy;clear hx hy;(have c1 := fun w => run_string_add_lists (P := Tryz.prog) w [42] x (by decide) (by omega));(have c2 := fun w => run_string_add_lists (P := Tryz.prog) w (42 :: x) [44] (by simp; omega) (by decide));(have c3 := fun w => run_string_add_lists (P := Tryz.prog) w (42 :: (x ++ [44])) y (by simp; omega) (by omega));(have c4 := fun w => run_string_add_lists (P := Tryz.prog) w (42 :: (x ++ 44 :: y)) [59] (by simp; omega) (by decide));(have c5 := fun w => run_string_add_lists (P := Tryz.prog) w (42 :: (x ++ 44 :: (y ++ [59]))) b (by simp; omega) (by omega));go_wp2_with (first
     | (go_at_call 63; refine (CPa _).mono ?_; rintro e w1 ⟨rfl, hb1⟩; have HH1 := Lib.hid (HH0.out.below hb1); clear hb1; obtain ⟨r0, r1, r2, r3, r4, r5, r6, r7, r8, r9, _⟩ := HH1.out)
     | (go_at_call 64; refine (CJ.out _ HH1.out.bel).mono ?_; rintro e w2 ⟨rfl, hb2⟩; have HH2 := Lib.hid (HH1.out.below hb2); clear hb2; obtain ⟨s0, s1, s2, s3, s4, s5, s6, s7, s8, s9, _⟩ := HH2.out; clear HH1; have HOm := Lib.hid (own_below (own_take HO.out hm2) (HH2.out.bel))))
    have HOm := Lib.hid (own_below HOm.out (Below.refl w2.heap.size w2).drew);refine wp_region_noPanic ?_;refine wp_region_held_drew (S := fun w' => NH wr w' wr.heap.size n) (by kernel_rfl) ?_ (fun hHeld => ?_)
    · (try dsimp only); exact NH.drew HH2.out
    clear HH2;generalize w2.drew = w3 at *;refine Tk.t 0 ?_;refine Tk.t 1 ?_;refine Tk.t 5 ?_;refine Tk.t 6 ?_;refine Tk.t 10 ?_;refine Tk.o 2 (fun K hK => ?_);go_simp
    (go_at_call 67; refine (itoa_any n.mn (by omega) (by omega) _ (HLW.out _ hHeld.bel)).mono ?_; rintro e w5 ⟨rfl, hbl⟩; have HOm := Lib.hid (own_below HOm.out hbl); rw [HIX.out])
    refine hK.out _ _ ?_ (fun hHeld => Tk.w ?_)
    · (try dsimp only); (exact NH.below hHeld hbl)
    clear hK K;refine Tk.t 3 ?_;refine Tk.t 4 ?_;refine Tk.o 7 (fun K hK => ?_);go_simp
    (go_at_call 67; refine (itoa_any n.mx (by omega) (by omega) _ (HLW.out _ hHeld.bel)).mono ?_; rintro e w6 ⟨rfl, hbl⟩; have HOm := Lib.hid (own_below HOm.out hbl); rw [HIY.out])
    refine hK.out _ _ ?_ (fun hHeld => Tk.w ?_)
    · (try dsimp only); (exact NH.below hHeld hbl)
    clear hK K;refine Tk.t 8 ?_;refine Tk.t 9 ?_;refine Tk.t 11 ?_;refine Tk.t 12 ?_;refine Tk.d ?_;have HH3 := Lib.hid hHeld;clear hHeld;go_wp2_with (have hzz := HH3; clear hzz; at_builtin; refine wpList_append_own _ rfl _ _ 105 rfl w.heap.size 9 i0 _ 1 16 Tryz.underlying105 hi hz0 hz1 hz2 rfl (by decide) _ _ _ rfl (HOm.out.alloc _) ⟨_, 0, none⟩ 1 1 [S (42 :: (x ++ 44 :: (y ++ 59 :: b)))] rfl rfl (one_cell (heap_alloc_new _ _)) (one_str _) (by unfold maxLen; omega) (by omega) (by have h1 := HB.out.size; have h2 := HH3.out.bel.size; simp; omega) ?_);rintro v' w4 hown hgrow -;have HB4 := Lib.hid (((HB.out.trans (HH3.out.bel.mono HB.out.size)).alloc (by have h1 := HB.out.size; have h2 := HH3.out.bel.size; omega) _).grown hgrow (by have h1 := HB.out.size; have h2 := HH3.out.bel.size; simp; omega) (own_ge HOm.out));have HO4 : Hid (w4.ownsRow w.heap.size 9 1 v' (tx l (k + 1)).length ((tx l (k + 1)).map S)) := Lib.hid (by rw [HX1.out]; simpa [HM.out, List.map_take] using hown);obtain ⟨bo', n', cap', rfl⟩ : ∃ bo' n' cap', v' = .slice bo' n' cap' := by
     rcases own_forms hown with ⟨rfl, _⟩ | ⟨g, cap, rfl, _⟩
     · exact ⟨_, _, _, rfl⟩
     · exact ⟨_, _, _, rfl⟩
    clear hown hgrow;go_wp2;go_roundw;(case rel => exact ⟨k + 1, by omega, by go_num, HO4, HB4⟩);case measure => simp [intOf]; omega
   ·
    skip
    (have hkj : n.k = 7 := by omega);(have t0 : (n.k == 0) = false := by rw [beq_eq_false_iff_ne]; omega);(have t1 : (n.k == 1) = false := by rw [beq_eq_false_iff_ne]; omega);(have t2 : (n.k == 2) = false := by rw [beq_eq_false_iff_ne]; omega);(have t3 : (n.k == 3) = false := by rw [beq_eq_false_iff_ne]; omega);(have t4 : (n.k == 4) = false := by rw [beq_eq_false_iff_ne]; omega);(have t5 : (n.k == 5) = false := by rw [beq_eq_false_iff_ne]; omega);(have t6 : (n.k == 6) = false := by rw [beq_eq_false_iff_ne]; omega);(have t7 : (n.k == 7) = true := by rw [beq_iff_eq]; omega);rw [show nodeS n b = (40 :: (b ++ [41])) from by unfold nodeS; rw [if_neg (by omega)]; rw [if_neg (by omega)]; rw [if_neg (by omega)]; rw [if_neg (by omega)]; rw [if_neg (by omega)]; rw [if_neg (by omega)]; rw [if_neg (by omega)]; rw [if_pos hkj]] at HX1;(have hP0 : P = 1 := by rw [HP.out]; unfold parts; rw [if_neg (by omega), if_pos (by omega)]);subst hP0;clear HP hkj hq;obtain ⟨g, cap', rfl, rfl, hcap⟩ : ∃ g cap', bo = some ⟨g, 0, none⟩ ∧ cap = cap' ∧ X.length ≤ cap' := by
     rcases own_forms HO.out with ⟨hv, h0⟩ | ⟨g, cap', hv, hcap⟩
     · exfalso; omega
     · simp only [Value.slice.injEq, true_and] at hv; exact ⟨g, cap', hv.1, hv.2, hcap⟩
    (have hcap' : ((X.length : Nat) : Int) ≤ (cap : Int) := by omega);have CJ := Lib.hid (fun (W : World) (hb : Below wr.heap.size wr W) => by
     have h1 := join_own X w.heap.size g cap m 1 (cap - m) W (own_below HO.out hb) hm (by omega) (by omega) (by have := HFL.out; omega);rw [← HBE.out] at h1;exact h1)
    (have c1 := fun w => run_string_add_lists (P := Tryz.prog) w [40] b (by decide) (by omega));(have c2 := fun w => run_string_add_lists (P := Tryz.prog) w (40 :: b) [41] (by simp; omega) (by decide));go_wp2_with (first
     | (go_at_call 63; refine (CPa _).mono ?_; rintro e w1 ⟨rfl, hb1⟩; have HH1 := Lib.hid (HH0.out.below hb1); clear hb1; obtain ⟨r0, r1, r2, r3, r4, r5, r6, r7, r8, r9, _⟩ := HH1.out)
     | (go_at_call 64; refine (CJ.out _ HH1.out.bel).mono ?_; rintro e w2 ⟨rfl, hb2⟩; have HH2 := Lib.hid (HH1.out.below hb2); clear hb2; obtain ⟨s0, s1, s2, s3, s4, s5, s6, s7, s8, s9, _⟩ := HH2.out; clear HH1; have HOm := Lib.hid (own_below (own_take HO.out hm2) (HH2.out.bel)))
     | (have hzz := HH2; clear hzz; at_builtin; refine wpList_append_own _ rfl _ _ 105 rfl w.heap.size 9 i0 _ 1 16 Tryz.underlying105 hi hz0 hz1 hz2 rfl (by decide) _ _ _ rfl (HOm.out.alloc _) ⟨_, 0, none⟩ 1 1 [S (40 :: (b ++ [41]))] rfl rfl (one_cell (heap_alloc_new _ _)) (one_str _) (by unfold maxLen; omega) (by omega) (by have h1 := HB.out.size; have h2 := HH2.out.bel.size; simp; omega) ?_))
    rintro v' w4 hown hgrow -;have HB4 := Lib.hid (((HB.out.trans (HH2.out.bel.mono HB.out.size)).alloc (by have h1 := HB.out.size; have h2 := HH2.out.bel.size; omega) _).grown hgrow (by have h1 := HB.out.size; have h2 := HH2.out.bel.size; simp; omega) (own_ge HOm.out));have HO4 : Hid (w4.ownsRow w.heap.size 9 1 v' (tx l (k + 1)).length ((tx l (k + 1)).map S)) := Lib.hid (by rw [HX1.out]; simpa [HM.out, List.map_take] using hown);obtain ⟨bo', n', cap', rfl⟩ : ∃ bo' n' cap', v' = .slice bo' n' cap' := by
     rcases own_forms hown with ⟨rfl, _⟩ | ⟨g, cap, rfl, _⟩
     · exact ⟨_, _, _, rfl⟩
     · exact ⟨_, _, _, rfl⟩
    clear hown hgrow;go_wp2;go_roundw;(case rel => exact ⟨k + 1, by omega, by go_num, HO4, HB4⟩);case measure => simp [intOf]; omega
   ·
    skip
    (have hkj : n.k = 8 := by omega);(have t0 : (n.k == 0) = false := by rw [beq_eq_false_iff_ne]; omega);(have t1 : (n.k == 1) = false := by rw [beq_eq_false_iff_ne]; omega);(have t2 : (n.k == 2) = false := by rw [beq_eq_false_iff_ne]; omega);(have t3 : (n.k == 3) = false := by rw [beq_eq_false_iff_ne]; omega);(have t4 : (n.k == 4) = false := by rw [beq_eq_false_iff_ne]; omega);(have t5 : (n.k == 5) = false := by rw [beq_eq_false_iff_ne]; omega);(have t6 : (n.k == 6) = false := by rw [beq_eq_false_iff_ne]; omega);(have t7 : (n.k == 7) = false := by rw [beq_eq_false_iff_ne]; omega);(have t8 : (n.k == 8) = true := by rw [beq_iff_eq]; omega);rw [show nodeS n b = (92 :: Lib.itoa n.n) from by unfold nodeS; rw [if_neg (by omega)]; rw [if_neg (by omega)]; rw [if_neg (by omega)]; rw [if_neg (by omega)]; rw [if_neg (by omega)]; rw [if_neg (by omega)]; rw [if_neg (by omega)]; rw [if_neg (by omega)]] at HX1;(have hP0 : P = 0 := by rw [HP.out]; unfold parts; rw [if_neg (by omega), if_neg (by omega)]);subst hP0;clear HP hkj hq;have CJ := Lib.hid (fun (W : World) (_ : Below wr.heap.size wr W) (a : Option Addr) (c : Nat) => Tryz.strings_Join_none a c ⟨#[]⟩ W);rcases own_forms HO.out with ⟨hv, h0⟩ | ⟨g, cap', hv, hcap⟩
    ·
     (obtain ⟨rfl, h00, rfl⟩ : bo = none ∧ X.length = 0 ∧ cap = 0 := by simpa using hv);(obtain rfl : m = 0 := by omega);obtain rfl : X = [] := List.length_eq_zero_iff.1 h0;clear hv h0 h00 hm HM;have hi10 := itoa_len (n := n.n) (by omega) (by omega);(have c1 := fun w => run_string_add_lists (P := Tryz.prog) w [92] (Lib.itoa n.n) (by decide) (by omega));go_wp2_with (first
      | (go_at_call 63; refine (CPa _).mono ?_; rintro e w1 ⟨rfl, hb1⟩; have HH1 := Lib.hid (HH0.out.below hb1); clear hb1; obtain ⟨r0, r1, r2, r3, r4, r5, r6, r7, r8, r9, _⟩ := HH1.out)
      | (go_at_call 64; refine (CJ.out _ HH1.out.bel _ _).mono ?_; rintro e w2 ⟨rfl, rfl⟩; have HH2 := Lib.hid HH1.out; obtain ⟨s0, s1, s2, s3, s4, s5, s6, s7, s8, s9, _⟩ := HH2.out; clear HH1; have HOm := Lib.hid (own_below (HO.out) (HH2.out.bel)))
      | (go_at_call 67; refine (itoa_any n.n (by omega) (by omega) _ (HLW.out _ HH2.out.bel)).mono ?_; rintro e w3 ⟨rfl, hb3⟩; have HH3 := Lib.hid (HH2.out.below hb3); have HOm := Lib.hid (own_below HOm.out hb3); clear hb3)
      | (have hzz := HH3; clear hzz; at_builtin; refine wpList_append_own _ rfl _ _ 105 rfl w.heap.size 9 i0 _ 1 16 Tryz.underlying105 hi hz0 hz1 hz2 rfl (by decide) _ _ _ rfl (HOm.out.alloc _) ⟨_, 0, none⟩ 1 1 [S (92 :: Lib.itoa n.n)] rfl rfl (one_cell (heap_alloc_new _ _)) (one_str _) (by unfold maxLen; omega) (by omega) (by have h1 := HB.out.size; have h2 := HH3.out.bel.size; simp; omega) ?_))
     rintro v' w4 hown hgrow -;have HB4 := Lib.hid (((HB.out.trans (HH3.out.bel.mono HB.out.size)).alloc (by have h1 := HB.out.size; have h2 := HH3.out.bel.size; omega) _).grown hgrow (by have h1 := HB.out.size; have h2 := HH3.out.bel.size; simp; omega) (own_ge HOm.out));have HO4 : Hid (w4.ownsRow w.heap.size 9 1 v' (tx l (k + 1)).length ((tx l (k + 1)).map S)) := Lib.hid (by rw [HX1.out]; simpa using hown);obtain ⟨bo', n', cap', rfl⟩ : ∃ bo' n' cap', v' = .slice bo' n' cap' := by
      rcases own_forms hown with ⟨rfl, _⟩ | ⟨g, cap, rfl, _⟩
      · exact ⟨_, _, _, rfl⟩
      · exact ⟨_, _, _, rfl⟩
     clear hown hgrow;go_wp2;go_roundw;(case rel => exact ⟨k + 1, by omega, by go_num, HO4, HB4⟩);case measure => simp [intOf]; omega
    ·
     (obtain ⟨rfl, rfl⟩ : bo = some ⟨g, 0, none⟩ ∧ cap = cap' := by simpa using hv);(have hcap' : ((X.length : Nat) : Int) ≤ (cap : Int) := by omega);clear hv;(obtain rfl : m = X.length := by omega);clear hm HM;by_cases hcs : cap = X.length
     ·
      subst hcs;have hi10 := itoa_len (n := n.n) (by omega) (by omega);(have c1 := fun w => run_string_add_lists (P := Tryz.prog) w [92] (Lib.itoa n.n) (by decide) (by omega));go_wp2_with (first
       | (go_at_call 63; refine (CPa _).mono ?_; rintro e w1 ⟨rfl, hb1⟩; have HH1 := Lib.hid (HH0.out.below hb1); clear hb1; obtain ⟨r0, r1, r2, r3, r4, r5, r6, r7, r8, r9, _⟩ := HH1.out)
       | (go_at_call 64; refine (CJ.out _ HH1.out.bel _ _).mono ?_; rintro e w2 ⟨rfl, rfl⟩; have HH2 := Lib.hid HH1.out; obtain ⟨s0, s1, s2, s3, s4, s5, s6, s7, s8, s9, _⟩ := HH2.out; clear HH1; have HOm := Lib.hid (own_below (own_take HO.out hm2) (HH2.out.bel)))
       | (go_at_call 67; refine (itoa_any n.n (by omega) (by omega) _ (HLW.out _ HH2.out.bel)).mono ?_; rintro e w3 ⟨rfl, hb3⟩; have HH3 := Lib.hid (HH2.out.below hb3); have HOm := Lib.hid (own_below HOm.out hb3); clear hb3)
       | (have hzz := HH3; clear hzz; at_builtin; refine wpList_append_own _ rfl _ _ 105 rfl w.heap.size 9 i0 _ 1 16 Tryz.underlying105 hi hz0 hz1 hz2 rfl (by decide) _ _ _ rfl (HOm.out.alloc _) ⟨_, 0, none⟩ 1 1 [S (92 :: Lib.itoa n.n)] rfl rfl (one_cell (heap_alloc_new _ _)) (one_str _) (by unfold maxLen; omega) (by omega) (by have h1 := HB.out.size; have h2 := HH3.out.bel.size; simp; omega) ?_))
      rintro v' w4 hown hgrow -;have HB4 := Lib.hid (((HB.out.trans (HH3.out.bel.mono HB.out.size)).alloc (by have h1 := HB.out.size; have h2 := HH3.out.bel.size; omega) _).grown hgrow (by have h1 := HB.out.size; have h2 := HH3.out.bel.size; simp; omega) (own_ge HOm.out));have HO4 : Hid (w4.ownsRow w.heap.size 9 1 v' (tx l (k + 1)).length ((tx l (k + 1)).map S)) := Lib.hid (by rw [HX1.out]; have hh := hown; rw [List.take_of_length_le (by simp)] at hh; simpa using hh);obtain ⟨bo', n', cap', rfl⟩ : ∃ bo' n' cap', v' = .slice bo' n' cap' := by
       rcases own_forms hown with ⟨rfl, _⟩ | ⟨g, cap, rfl, _⟩
       · exact ⟨_, _, _, rfl⟩
       · exact ⟨_, _, _, rfl⟩
      clear hown hgrow;go_wp2;go_roundw;(case rel => exact ⟨k + 1, by omega, by go_num, HO4, HB4⟩);case measure => simp [intOf]; omega
     ·
      skip
      have hi10 := itoa_len (n := n.n) (by omega) (by omega);(have c1 := fun w => run_string_add_lists (P := Tryz.prog) w [92] (Lib.itoa n.n) (by decide) (by omega));go_wp2_with (first
       | (go_at_call 63; refine (CPa _).mono ?_; rintro e w1 ⟨rfl, hb1⟩; have HH1 := Lib.hid (HH0.out.below hb1); clear hb1; obtain ⟨r0, r1, r2, r3, r4, r5, r6, r7, r8, r9, _⟩ := HH1.out)
       | (go_at_call 64; refine (CJ.out _ HH1.out.bel _ _).mono ?_; rintro e w2 ⟨rfl, rfl⟩; have HH2 := Lib.hid HH1.out; obtain ⟨s0, s1, s2, s3, s4, s5, s6, s7, s8, s9, _⟩ := HH2.out; clear HH1; have HOm := Lib.hid (own_below (own_take HO.out hm2) (HH2.out.bel)))
       | (go_at_call 67; refine (itoa_any n.n (by omega) (by omega) _ (HLW.out _ HH2.out.bel)).mono ?_; rintro e w3 ⟨rfl, hb3⟩; have HH3 := Lib.hid (HH2.out.below hb3); have HOm := Lib.hid (own_below HOm.out hb3); clear hb3)
       | (have hzz := HH3; clear hzz; at_builtin; refine wpList_append_own _ rfl _ _ 105 rfl w.heap.size 9 i0 _ 1 16 Tryz.underlying105 hi hz0 hz1 hz2 rfl (by decide) _ _ _ rfl (HOm.out.alloc _) ⟨_, 0, none⟩ 1 1 [S (92 :: Lib.itoa n.n)] rfl rfl (one_cell (heap_alloc_new _ _)) (one_str _) (by unfold maxLen; omega) (by omega) (by have h1 := HB.out.size; have h2 := HH3.out.bel.size; simp; omega) ?_))
      rintro v' w4 hown hgrow -;have HB4 := Lib.hid (((HB.out.trans (HH3.out.bel.mono HB.out.size)).alloc (by have h1 := HB.out.size; have h2 := HH3.out.bel.size; omega) _).grown hgrow (by have h1 := HB.out.size; have h2 := HH3.out.bel.size; simp; omega) (own_ge HOm.out));have HO4 : Hid (w4.ownsRow w.heap.size 9 1 v' (tx l (k + 1)).length ((tx l (k + 1)).map S)) := Lib.hid (by rw [HX1.out]; have hh := hown; rw [List.take_of_length_le (by simp)] at hh; simpa using hh);obtain ⟨bo', n', cap', rfl⟩ : ∃ bo' n' cap', v' = .slice bo' n' cap' := by
       rcases own_forms hown with ⟨rfl, _⟩ | ⟨g, cap, rfl, _⟩
       · exact ⟨_, _, _, rfl⟩
       · exact ⟨_, _, _, rfl⟩
      clear hown hgrow;go_wp2;go_roundw;(case rel => exact ⟨k + 1, by omega, by go_num, HO4, HB4⟩);case measure => simp [intOf]; omega
  ·
   (obtain rfl : k = l.length := by omega);rw [HEND.out] at HO;obtain ⟨g, cap, rfl, hcap⟩ : ∃ g cap, u3 = .slice (some ⟨g, 0, none⟩) 1 cap ∧ 1 ≤ cap := by
    rcases own_forms HO.out with ⟨rfl, h0⟩ | ⟨g, cap, rfl, hc⟩
    · simp at h0
    · exact ⟨g, cap, rfl, by simpa using hc⟩
   have hc0 := own_cell' (m := 0) HO.out (by simp);go_wp2;go_ret;exact ⟨by rfl, HB.out⟩
end Go.Proofs.YtlicoffnjphphaaGreatDoor.Rx
