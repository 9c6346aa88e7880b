/- The texts MtB MtLaw0 RxSh. -/
import Derived.ProofKit
import Derived.OpenShut
import Derived.Carry
import Derived.Lib.SmallJoins
import Derived.Deep.Grids
import Derived.Laws.IdiomArrays
import Derived.Lib.LaidTab
import Derived.Test.YtlicoffnjphphaaGreatDoorQk06
import Derived.Test.YtlicoffnjphphaaGreatDoorQk07
import Derived.Test.YtlicoffnjphphaaGreatDoorQk15
import Derived.Test.YtlicoffnjphphaaGreatDoorQk17
import Derived.Test.YtlicoffnjphphaaGreatDoorQk26
set_option linter.unusedVariables false
set_option linter.unusedSimpArgs false
set_option maxHeartbeats 3200000
set_option maxRecDepth 100000
namespace Go.Proofs.YtlicoffnjphphaaGreatDoor.Mt
open Go.RowKit Go.Shelf
open Go.Proofs.YtlicoffnjphphaaGreatDoor.Rx
open Go.Proofs.YtlicoffnjphphaaGreatDoor.Rx.Tr
open Go.Proofs.YtlicoffnjphphaaGreatDoor.St (Wf word mem SV SV_eq ofL wf_ofL bytesL)
/-- How many of the first k nodes are of a kind. -/
def cntK (l : List Nd) (q : Int) (k : Nat) : Nat := ((l.take k).filter fun n => decide (n.k = q)).length
theorem cnt_next (l : List Nd) (q : Int) {k : Nat} (hk : k < l.length) : cntK l q (k + 1) = cntK l q k + (if l[k].k = q then 1 else 0) := by
 unfold cntK;rw [List.take_succ_eq_append_getElem hk, List.filter_append, List.length_append, List.filter_cons, List.filter_nil];by_cases h : l[k].k = q
 · rw [if_pos h, decide_eq_true h]; rfl
 · rw [if_neg h, decide_eq_false h]; rfl
theorem cnt_le (l : List Nd) (q : Int) (k : Nat) : cntK l q k ≤ k := by
 unfold cntK;exact Nat.le_trans (List.length_filter_le _ _) (by simp; omega)
def boundedL (a b c : Nat) (l : List Nd) (m : Nat) : Bool := decide (l.length ≤ a) && (decide (m ≤ b) && (decide (cntK l 8 l.length = 0) || (decide (cntK l 6 l.length ≤ 2) && decide (m ≤ c))))
theorem bounded_len {a b c : Nat} {l : List Nd} {m : Nat} (h : boundedL a b c l m = true) : l.length ≤ a ∧ m ≤ b := by
 unfold boundedL at h;simp only [Bool.and_eq_true, decide_eq_true_eq] at h;exact ⟨h.1, h.2.1⟩
theorem bounded_any (ao : Option Addr) (c : Nat) (l : List Nd) (w : World) (h : Ns w (.slice ao l.length c) l) (hl : l.length ≤ maxLen) (T : List UInt8) (R : Bool) (hR : R = boundedL 24 9 6 l T.length) :
  Calls Tryz.prog 9 #[.slice ao l.length c, S T] w fun e w' => e = .returned (.bool R) ∧ w = w' := by
 have HRR := Lib.hid hR;clear hR;have HN := Lib.hid h;have HL := Lib.hid hl;clear h hl;go_enter Tryz.func9, Tryz.ntmps9;go_wp2;go_loopw [5, 6, 7] (fun nv rv iv wr => ∃ k : Nat, k ≤ l.length ∧ nv = .int .i64 (cntK l 6 k : Nat) ∧ rv = .int .i64 (cntK l 8 k : Nat) ∧ iv = .int .i64 (k : Nat) ∧ w = wr) (fun _ _ iv _ => l.length - (intOf iv).toNat);(case atStart => exact ⟨0, Nat.zero_le _, rfl, rfl, rfl, rfl⟩);case round =>
  obtain ⟨k, hk, rfl, rfl, rfl, rfl⟩ := hrel;by_cases hlt : k < l.length
  ·
   obtain ⟨b, o, rfl, hc⟩ := HN.out.at hlt;have q0 := hc.1;(have hlt' : (k : Int) < (l.length : Int) := by omega);(have hk0 : (0 : Int) ≤ (k : Int) := by omega);(have hwk : IntKind.i64.wrap ((k : Int) + 1) = (k : Int) + 1 := by rw [IntKind.wrap_i64]; have := HL.out; unfold maxLen at this; omega);have h6 := cnt_next l 6 hlt;have h8 := cnt_next l 8 hlt;have l6 := cnt_le l 6 k;have l8 := cnt_le l 8 k;obtain ⟨c6, hc6⟩ : ∃ c6, cntK l 6 k = c6 := ⟨_, rfl⟩;obtain ⟨c8, hc8⟩ : ∃ c8, cntK l 8 k = c8 := ⟨_, rfl⟩;rw [hc6] at h6 l6;rw [hc8] at h8 l8;rw [hc6, hc8];(have hw6 : IntKind.i64.wrap ((c6 : Int) + 1) = (c6 : Int) + 1 := by rw [IntKind.wrap_i64]; have := HL.out; unfold maxLen at this; omega);(have hw8 : IntKind.i64.wrap ((c8 : Int) + 1) = (c8 : Int) + 1 := by rw [IntKind.wrap_i64]; have := HL.out; unfold maxLen at this; omega);clear hc hc6 hc8;generalize (l[k]'hlt).k = kd at *;have H6 := Lib.hid h6;have H8 := Lib.hid h8;clear h6 h8 l6 l8;by_cases e6 : kd = 6
   · subst e6;go_wp2;go_roundw;(case rel => exact ⟨k + 1, by omega, by rw [H6.out]; simp, by rw [H8.out]; simp, by go_num, trivial⟩);case measure => simp [intOf]; omega
   ·
    (have hq6 : (kd == 6) = false := by rw [beq_eq_false_iff_ne]; exact e6);by_cases e8 : kd = 8
    · subst e8;go_wp2;go_roundw;(case rel => exact ⟨k + 1, by omega, by rw [H6.out]; simp, by rw [H8.out]; simp, by go_num, trivial⟩);case measure => simp [intOf]; omega
    · (have hq8 : (kd == 8) = false := by rw [beq_eq_false_iff_ne]; exact e8);have E6 := Lib.hid e6;have E8 := Lib.hid e8;clear e6 e8;go_wp2;go_roundw;(case rel => exact ⟨k + 1, by omega, by rw [H6.out, if_neg E6.out]; rfl, by rw [H8.out, if_neg E8.out]; rfl, by go_num, trivial⟩);case measure => simp [intOf]; omega
  ·
   (obtain rfl : k = l.length := by omega);have HB := Lib.hid (show R = (decide (l.length ≤ 24) && (decide (T.length ≤ 9) && (decide (cntK l 8 l.length = 0) || (decide (cntK l 6 l.length ≤ 2) && decide (T.length ≤ 6))))) from HRR.out);generalize cntK l 6 l.length = c6 at *;generalize cntK l 8 l.length = c8 at *;(have hn1 : ¬ (l.length : Int) < (l.length : Int) := by omega);by_cases a1 : l.length ≤ 24
   ·
    (have b1 : (l.length : Int) ≤ 24 := by omega);have D1 := Lib.hid (decide_eq_true a1);clear a1;by_cases a2 : T.length ≤ 9
    ·
     (have b2 : (T.length : Int) ≤ 9 := by omega);have D2 := Lib.hid (decide_eq_true a2);clear a2;by_cases a3 : c8 = 0
     · (have b3 : ((c8 : Int) == 0) = true := by rw [a3]; rfl);have D3 := Lib.hid (decide_eq_true a3);clear a3;go_wp2;go_ret;refine ⟨?_, rfl⟩;rw [HB.out, D1.out, D2.out, D3.out];(try rfl)
     ·
      (have b3 : ((c8 : Int) == 0) = false := by rw [beq_eq_false_iff_ne]; omega);have D3 := Lib.hid (decide_eq_false a3);clear a3;by_cases a4 : c6 ≤ 2
      ·
       (have b4 : (c6 : Int) ≤ 2 := by omega);have D4 := Lib.hid (decide_eq_true a4);clear a4;by_cases a5 : T.length ≤ 6
       · (have b5 : (T.length : Int) ≤ 6 := by omega);have D5 := Lib.hid (decide_eq_true a5);clear a5;go_wp2;go_ret;refine ⟨?_, rfl⟩;rw [HB.out, D1.out, D2.out, D3.out, D4.out, D5.out];(try rfl)
       · (have b5 : ¬ (T.length : Int) ≤ 6 := by omega);have D5 := Lib.hid (decide_eq_false a5);clear a5;go_wp2;go_ret;refine ⟨?_, rfl⟩;rw [HB.out, D1.out, D2.out, D3.out, D4.out, D5.out];(try rfl)
      · (have b4 : ¬ (c6 : Int) ≤ 2 := by omega);have D4 := Lib.hid (decide_eq_false a4);clear a4;go_wp2;go_ret;refine ⟨?_, rfl⟩;rw [HB.out, D1.out, D2.out, D3.out, D4.out];(try rfl)
    · (have b2 : ¬ (T.length : Int) ≤ 9 := by omega);have D2 := Lib.hid (decide_eq_false a2);clear a2;go_wp2;go_ret;refine ⟨?_, rfl⟩;rw [HB.out, D1.out, D2.out];(try rfl)
   · (have b1 : ¬ (l.length : Int) ≤ 24 := by omega);have D1 := Lib.hid (decide_eq_false a1);clear a1;go_wp2;go_ret;refine ⟨?_, rfl⟩;rw [HB.out, D1.out];(try rfl)
def T6 : Tr := .cat (.grp 1 (.times 0 (-1) (.set (ofL [97])))) (.times 0 (-1) (.grp 2 (.cat (.set (ofL [97])) (.set (ofL [98])))))
def c6 : Caps := [some (0, 3), some (0, 1), some (1, 3), none, none, none, none, none, none, none]
theorem bytes_97 : bytesL (ofL [97]) = [97] := by decide +kernel
theorem bytes_98 : bytesL (ofL [98]) = [98] := by decide +kernel
theorem t6_text : textT T6 = [38, 40, 42, 48, 44, 45, 49, 59, 91, 54, 49, 93, 41, 42, 48, 44, 45, 49, 59, 40, 38, 91, 54, 49, 93, 91, 54, 50, 93, 41] := by
 (have e0 : Lib.itoa 0 = [48] := by rw [itoa_digit (by decide) (by decide)]; rfl);have e1 : Lib.itoa (-1) = [45, 49] := by
  unfold Lib.itoa;rw [if_pos (by decide), show Int.natAbs (-1) = 1 from rfl, Lib.decDigits, dif_pos (by decide)];rfl
 simp only [T6, textT];rw [e0, e1, bytes_97, bytes_98];rfl
theorem t6_good : Go.Proofs.YtlicoffnjphphaaGreatDoor.Rx.Good T6 := by
 refine ⟨?_, by decide, by decide⟩;unfold Go.Proofs.YtlicoffnjphphaaGreatDoor.Rx.Whole;simp only [T6, Fine, Tr.rk];decide
theorem t6_sets : SetsOk T6 := ⟨wf_ofL _, wf_ofL _, wf_ofL _⟩
theorem t6_long : longP [97, 97, 98] T6 0 = some c6 := by decide +kernel
theorem t6_ends : (endsK [97, 97, 98] T6 0 4).length = 4 := by decide +kernel
theorem t6_one : groupP [97, 97, 98] c6 1 = [97] := by decide +kernel
theorem t6_two : groupP [97, 97, 98] c6 2 = [97, 98] := by decide +kernel
theorem t6_caps : CapsOk 3 c6 := whole_ok (T := [97, 97, 98]) (t := T6) (i := 0) (j := 3) (by decide) (by decide) (by decide +kernel)
theorem t6_len : (T6.nodes 0).length = 9 := rfl
theorem mshown_any (w : World) (hL : Lay w) :
  Calls Tryz.prog 10 #[] w fun e w' => e = .returned (.bool true) ∧ Below w.heap.size w w' := by
 have hp := parse_text t6_good t6_sets;rw [t6_text] at hp;have HP0 := parse_any [38, 40, 42, 48, 44, 45, 49, 59, 91, 54, 49, 93, 41, 42, 48, 44, 45, 49, 59, 40, 38, 91, 54, 49, 93, 91, 54, 50, 93, 41] w hL (by decide);unfold ParseR at HP0;rw [hp] at HP0;have HP := Lib.hid HP0;(have hlo := fun (g cap : Nat) (W : World) (h : Ns W (.slice (some ⟨g, 0, none⟩) (T6.nodes 0).length cap) (T6.nodes 0)) => Longest_yes T6 t6_good t6_sets (some ⟨g, 0, none⟩) cap W h [97, 97, 98] (by decide) 0 (by decide) (some c6) t6_long.symm);(have hen := fun (g cap : Nat) (W : World) (h : Ns W (.slice (some ⟨g, 0, none⟩) (T6.nodes 0).length cap) (T6.nodes 0)) => Ends_yes T6 t6_good t6_sets (some ⟨g, 0, none⟩) cap W h [97, 97, 98] (by decide) 0 (by decide));have hln := t6_len;rw [show ([97, 97, 98] : List UInt8).length + 1 = 4 from rfl] at hen;have HG1 := Lib.hid (fun W => group_any [97, 97, 98] (by decide) c6 t6_caps 1 W [97] t6_one.symm);have HG2 := Lib.hid (fun W => group_any [97, 97, 98] (by decide) c6 t6_caps 2 W [97, 98] t6_two.symm);have HLN := Lib.hid hln;have HEL := Lib.hid t6_ends;generalize T6.nodes 0 = l at *;rw [hln, show ((0 : Nat) : Int) = 0 from rfl] at hlo hen;have HLO := Lib.hid hlo;have HEN := Lib.hid hen;clear hlo hen hln;generalize endsK [97, 97, 98] T6 0 4 = le at *;generalize c6 = c at *;clear HP0 hp hL;go_enter Tryz.func10, Tryz.ntmps10;go_wp2_with (first
  | (go_at_call 31; refine HP.out.mono ?_; rintro e w1 ⟨hb, hr⟩; rcases hr with ⟨q, _⟩ | ⟨l', v, hq, rfl, ho⟩; exact absurd q (by intro q; cases q); obtain rfl := Option.some.inj hq; have HB1 := Lib.hid hb; have HNS0 := Lib.hid (own_ns ho); obtain ⟨g, cap, rfl, hcap⟩ : ∃ g cap, v = .slice (some ⟨g, 0, none⟩) 9 cap ∧ 9 ≤ cap := (by rcases own_forms ho with ⟨_, h0⟩ | ⟨g, cap, hv, hc⟩; (have := HLN.out; omega); (rw [HLN.out] at hv hc; exact ⟨g, cap, hv, hc⟩)); clear hb ho hq hcap)
  | (go_at_call 11; refine (HLO.out g cap w1 HNS0.out).mono ?_; rintro e w2 ⟨he, hb⟩; rw [show ansC (some c) = .tuple #[CV c, .bool true] from rfl] at he; subst he; have HB2 := Lib.hid hb; clear hb)
  | (refine wpList_store_row rfl 27 (.tmp 3) (.tmp 13) rfl _ (CC c) rfl rfl _ CZ (heap_alloc_new _ _) (by kernel_rfl) rfl (cc_one c) ?_; simp only [Act.put, List.setIfInBounds_toArray, List.set_cons_zero, List.set_cons_succ]; rw [box_laid]; have HB3 := Lib.hid (HB2.out.alloc HB2.out.size (.cells (CC c) 27)); have HX3 := Lib.hid (heap_alloc_new w2 (.cells (CC c) 27)); generalize World.alloc _ _ = w3 at HB3 HX3 ⊢; have HNS3 := Lib.hid (HNS0.out.below HB3.out))
  | (go_at_call 15; refine (HEN.out g cap w3 HNS3.out).mono ?_; rintro e w4 ⟨v, B, rfl, hB, ho, hb⟩; obtain ⟨g2, cap2, rfl, hcap⟩ : ∃ g cap, v = .slice (some ⟨g, 0, none⟩) 4 cap ∧ 4 ≤ cap := (by rcases own_forms ho with ⟨_, h0⟩ | ⟨g, cap, hv, hc⟩; (have := HEL.out; omega); (rw [HEL.out] at hv hc; exact ⟨g, cap, hv, hc⟩)); have HB4 := Lib.hid hb; have hx4 := (hb.block _ (lt_heap' HX3.out)).trans HX3.out; obtain ⟨y0, y1, y2, y3, y4, y5, y6, y7, y8, y9⟩ := caps_cells hx4; have HX4 := Lib.hid hx4; clear hx4 hb ho hcap hB)
  | (go_at_call 19; have hq := HG1.out w4; clear HG1; refine hq.mono ?_; clear hq; rintro e w5 ⟨rfl, hb⟩; have HB5 := Lib.hid hb; have hx5 := (hb.block _ (lt_heap' HX4.out)).trans HX4.out; clear y0 y1 y2 y3 y4 y5 y6 y7 y8 y9; obtain ⟨y0, y1, y2, y3, y4, y5, y6, y7, y8, y9⟩ := caps_cells hx5; clear hx5 hb)
  | (go_at_call 19; refine (HG2.out w5).mono ?_; rintro e w6 ⟨rfl, hb⟩; have HB6 := Lib.hid hb; clear hb))
 go_ret;refine ⟨?_, ?_⟩
 · rfl
 · have h3 := HB1.out.trans (HB3.out.mono HB1.out.size);have h4 := h3.trans (HB4.out.mono h3.size);have h5 := h4.trans (HB5.out.mono h4.size);exact h5.trans (HB6.out.mono h5.size)
def qs (q : Nat → Bool) (n : Nat) : List Nat := (List.range n).filter q
theorem qs_next (q : Nat → Bool) (n : Nat) : qs q (n + 1) = qs q n ++ (if q n = true then [n] else []) := by
 unfold qs;rw [List.range_succ, List.filter_append, List.filter_cons, List.filter_nil]
theorem qs_split (q : Nat → Bool) (j : Nat) : ∀ n, j ≤ n → ∃ r, qs q n = qs q j ++ r ∧ ∀ x ∈ r, j ≤ x := by
 intro n h
 induction h with
 | refl => exact ⟨[], by simp, by simp⟩
 | @step m h ih =>
  obtain ⟨r, h1, h2⟩ := ih;refine ⟨r ++ (if q m = true then [m] else []), by rw [qs_next, h1, List.append_assoc], ?_⟩;intro x hx;rcases List.mem_append.1 hx with hx | hx
  · exact h2 x hx
  ·
   split at hx
   · simp only [List.mem_singleton] at hx; subst hx; exact h
   · cases hx
theorem qs_len (q : Nat → Bool) (n : Nat) : (qs q n).length ≤ n := by
 unfold qs;exact Nat.le_trans (List.length_filter_le _ _) (by simp)
/-- Where something holds, the next one in the row is that place. -/
theorem qs_at {q : Nat → Bool} {j n : Nat} (hj : j < n) (h : q j = true) : (qs q n)[(qs q j).length]? = some j := by
 obtain ⟨r, h1, _⟩ := qs_split q (j + 1) n hj;rw [h1, qs_next, if_pos h, List.append_assoc];simp
theorem qs_not {q : Nat → Bool} {j n : Nat} (hj : j < n) (h : q j = false) : (qs q n)[(qs q j).length]? ≠ some j := by
 obtain ⟨r, h1, h2⟩ := qs_split q (j + 1) n hj;rw [h1, qs_next, if_neg (by rw [h]; simp), List.append_nil, List.getElem?_append_right (Nat.le_refl _), Nat.sub_self];intro e;have := h2 j (List.mem_of_getElem? e);omega
/-- The ends of a pattern that begins at a place. -/
def qW (T : List UInt8) (t : Tr) (k j : Nat) : Bool := decide (k ≤ j) && (wholeP T t k j).isSome
theorem ends_qs (T : List UInt8) (t : Tr) (k : Nat) : ∀ n, endsK T t k n = qs (qW T t k) n
 | 0 => by simp [endsK, qs]
 | n + 1 => by
  by_cases h : k ≤ n
  · rw [ends_next T t k n h, qs_next, ends_qs T t k n];unfold qW;rw [decide_eq_true h, Bool.true_and]
  · rw [qs_next, ← ends_qs T t k n];unfold qW;rw [decide_eq_false h, Bool.false_and, if_neg (by simp), List.append_nil];unfold endsK;rw [show n + 1 - k = 0 by omega, show n - k = 0 by omega]
/-- The longest one is to the last one of the ends. -/
theorem long_last {T : List UInt8} {t : Tr} {k : Nat} (hk : k ≤ T.length) :
  match longP T t k with
  | none => qs (qW T t k) (T.length + 1) = []
  | some c => CapsOk T.length c ∧ ∃ j, k ≤ j ∧ j ≤ T.length ∧ gr c 0 = some (k, j) ∧ 0 < (qs (qW T t k) (T.length + 1)).length ∧ (qs (qW T t k) (T.length + 1))[(qs (qW T t k) (T.length + 1)).length - 1]? = some j := by
 cases h : longP T t k with
 | none =>
  have h1 := dn_none h;show (List.range _).filter _ = [];rw [List.filter_eq_nil_iff];intro j hj;unfold qW;by_cases e : k ≤ j
  · have := h1 (j - k) (by have := List.mem_range.1 hj; omega);rw [show k + (j - k) = j by omega] at this;(try dsimp only at this);rw [this]; simp
  · rw [decide_eq_false e]; simp
 | some c =>
  obtain ⟨q, h1, h2, h3⟩ := dn_some h;(try dsimp only at h2);have hc := whole_ok (T := T) (t := t) (by omega : k ≤ k + q) (by omega) h2;refine ⟨hc, k + q, by omega, by omega, ?_, ?_⟩
  ·
   unfold wholeP at h2;cases hf : fitP T t k (k + q) nones with
   | none => rw [hf] at h2; cases h2
   | some a =>
    rw [hf] at h2;cases h2;have ha := (fit_ok t k (k + q) nones a (by omega) (by omega) (caps_none _) hf).len;rw [gr_set ha (by decide), if_pos rfl]
  ·
   (have hq : qW T t k (k + q) = true := by unfold qW; rw [decide_eq_true (by omega), h2]; rfl);have hr : qs (qW T t k) (T.length + 1) = qs (qW T t k) (k + q) ++ [k + q] := by
    have key : ∀ n, k + q < n → n ≤ T.length + 1 → qs (qW T t k) n = qs (qW T t k) (k + q) ++ [k + q] := by
     intro n hn
     induction hn with
     | refl => intro _; rw [qs_next, if_pos hq]
     | @step m hm ih =>
      intro hmn;have hm' : k + q < m := hm;have hn0 : qW T t k m = false := by
       have := h3 (m - k) (by omega) (by omega);rw [show k + (m - k) = m by omega] at this;(try dsimp only at this);unfold qW; rw [this]; simp
      rw [qs_next, if_neg (by rw [hn0]; simp), List.append_nil];exact ih (by omega)
    exact key _ (by omega) (Nat.le_refl _)
   rw [hr];simp
theorem ints_form {w : World} {B : Nat} {v : Value} {l : List Nat} (h : w.ownsRow B 3 1 v l.length (ints l)) : ∃ ae cap, v = .slice ae l.length cap ∧ l.length ≤ cap ∧ ∀ i (hi : i < l.length), ∃ g, ae = some ⟨g, 0, none⟩ ∧ w.cell? ⟨g, i, none⟩ = some (E (l[i] : Nat)) := by
 rcases own_forms h with ⟨rfl, h0⟩ | ⟨g, cap, rfl, hc⟩
 · exact ⟨none, 0, by rw [h0], by omega, fun i hi => by omega⟩
 · refine ⟨_, cap, rfl, hc, fun i hi => ⟨g, rfl, ?_⟩⟩;rw [h.cellAt i (by omega)];simp [ints, hi]
theorem Below.cellB {w w' : World} {g i : Nat} {v : Value} (hb : Below w.heap.size w w') (h : w.cell? ⟨g, i, none⟩ = some v) : w'.cell? ⟨g, i, none⟩ = some v := by
 have hl := lt_cell h;rw [← h];simp only [World.cell?];rw [hb.block g hl]
theorem qs_none (n : Nat) : qs (fun _ => false) n = [] := by simp [qs]
theorem u8_nat {a : Int} (h : (Lit.int .u8 a).wf = true) : ∃ x : Nat, a = (x : Int) ∧ x < 256 := by
 have hb : 0 ≤ a ∧ a < 256 := by
  simp [Lit.wf, IntKind.min, IntKind.max, IntKind.signed, IntKind.bits] at h;omega
 exact ⟨a.toNat, by omega, by omega⟩
/-- Whether a pattern fits from one place to another one, in one row: of a pattern, or of none. -/
theorem whole_row {l : List Nd} {ao : Option Addr} {c : Nat} {W : World} (h : Ns W (.slice ao l.length c) l) (F : ∀ n ∈ l, Wf n.s) {T : List UInt8} (hT : T.length ≤ 100000) (k j : Nat) (hj : j ≤ T.length) :
  Calls Tryz.prog 17 #[.slice ao l.length c, S T, E (k : Nat), E (j : Nat)] W fun e w' => (∃ cj, e = .returned (.tuple #[CV cj, .bool (match patOf l with | some t => qW T t k j | none => false)])) ∧ Below W.heap.size W w' := by
 cases hp : patOf l with
 | none =>
  refine (Whole_no l ao c W h F T k j (Or.inl (by unfold mayL; rw [hp]; rfl))).mono ?_;rintro e w' ⟨rfl, hb⟩;exact ⟨⟨nones, rfl⟩, hb⟩
 | some t =>
  obtain ⟨rfl, hg⟩ := patOf_some hp;by_cases hkj : k ≤ j
  · refine (Whole_yes t hg (sets_nodes t 0 F) ao c W h T hT k j hkj hj _ rfl).mono ?_;rintro e w' ⟨rfl, hb⟩;refine ⟨⟨(wholeP T t k j).getD nones, ?_⟩, hb⟩;show _ = Ending.returned (.tuple #[CV _, .bool (qW T t k j)]);unfold qW;rw [decide_eq_true hkj, Bool.true_and];rfl
  · refine (Whole_no _ ao c W h F T k j (Or.inr (Or.inr (Or.inl (by omega))))).mono ?_;rintro e w' ⟨rfl, hb⟩;refine ⟨⟨nones, ?_⟩, hb⟩;show _ = Ending.returned (.tuple #[CV _, .bool (qW T t k j)]);unfold qW;rw [decide_eq_false hkj, Bool.false_and];rfl
end Go.Proofs.YtlicoffnjphphaaGreatDoor.Mt
namespace Go.Proofs.YtlicoffnjphphaaGreatDoor.Rx
open Go.RowKit Go.Shelf
open Tr
open Go.Proofs.YtlicoffnjphphaaGreatDoor.St (Wf word zeroW SV SV_eq ofL wf_ofL of_any bytesL)
def T1 : Tr := .cat (.set (ofL [97])) (.times 0 (-1) (.set (ofL [98])))
theorem bytes_97 : bytesL (ofL [97]) = [97] := by decide +kernel
theorem bytes_98 : bytesL (ofL [98]) = [98] := by decide +kernel
theorem t1_text : textT T1 = [38, 91, 54, 49, 93, 42, 48, 44, 45, 49, 59, 91, 54, 50, 93] := by
 (have e0 : Lib.itoa 0 = [48] := by rw [itoa_digit (by decide) (by decide)]; rfl);have e1 : Lib.itoa (-1) = [45, 49] := by
  unfold Lib.itoa;rw [if_pos (by decide), show Int.natAbs (-1) = 1 from rfl, Lib.decDigits, dif_pos (by decide)];rfl
 unfold T1 textT textT textT;rw [e0, e1, bytes_97, bytes_98];rfl
theorem t1_good : Good T1 := by
 refine ⟨?_, by decide, by decide⟩;unfold Whole T1 Fine Fine Fine;refine ⟨by decide, ⟨by decide, by decide, by decide, Or.inl rfl, Or.inl rfl⟩, by decide, by decide, by decide⟩
theorem t1_sets : SetsOk T1 := ⟨wf_ofL _, wf_ofL _⟩
theorem t1_nodes : (T1.nodes 0).length = 4 ∧ (T1.nodes 0)[0]? = some ⟨1, ofL [97], 0, 0, 0, 0, 0⟩ := ⟨rfl, rfl⟩
theorem groups_1 : groupsL (T1.nodes 0) = 0 := by
 unfold groupsL;rw [patOf_good t1_good];rfl
theorem eql_set {s : List Nat} (h : Wf s) (W : World) : (binOp .eql 53 (.agg #[U (word s 0), U (word s 1), U (word s 2), U (word s 3)]) (.agg #[U (word s 0), U (word s 1), U (word s 2), U (word s 3)])).run Tryz.prog W = .ok (.bool true) W := by
 rw [run_eql_struct, show (10000 : Nat) = 9998 + 2 from rfl, run_eq4g];simp
/-- What the last region holds. -/
structure SH (w : World) (sa : List Nat) (l : List Nd) (g cap : Nat) (w' : World) : Prop where
 ns : Ns w' (.slice (some ⟨g, 0, none⟩) 4 cap) l
 bel : Below w.heap.size w w'
 n0 : l[0]? = some ⟨1, sa, 0, 0, 0, 0, 0⟩
 l4 : l.length = 4
theorem SH.below {w w1 w2 : World} {sa : List Nat} {l : List Nd} {g cap : Nat} (h : SH w sa l g cap w1) (hb : Below w1.heap.size w1 w2) : SH w sa l g cap w2 :=
 ⟨h.ns.below hb, h.bel.trans (hb.mono h.bel.size), h.n0, h.l4⟩
theorem SH.cells {w w' : World} {sa : List Nat} {l : List Nd} {g cap : Nat} (h : SH w sa l g cap w') :
  w'.cell? ⟨g, 1, none⟩ = some (U (word sa 0)) ∧ w'.cell? ⟨g, 2, none⟩ = some (U (word sa 1)) ∧ w'.cell? ⟨g, 3, none⟩ = some (U (word sa 2)) ∧ w'.cell? ⟨g, 4, none⟩ = some (U (word sa 3)) := by
 have h4 := h.l4;obtain ⟨B, o, hq, q0, q1, q2, q3, q4, _⟩ := h.ns.at (i := 0) (by omega);simp only [Option.some.injEq, Addr.mk.injEq, and_true] at hq;obtain ⟨rfl, rfl⟩ := hq;have e : l[0]'(by omega) = ⟨1, sa, 0, 0, 0, 0, 0⟩ := by
  have := h.n0;rw [List.getElem?_eq_getElem (by omega)] at this;exact Option.some.inj this
 rw [e] at q1 q2 q3 q4;simp only [Nat.zero_mul, Nat.zero_add] at q1 q2 q3 q4;exact ⟨q1, q2, q3, q4⟩
open Go.RowKit Go.ChangeShapes Go.WideShapes Go.Joins Go.Deep
open Go.Proofs.YtlicoffnjphphaaGreatDoor.St (Wf word Tab)
theorem laidOut : laidOutB Tryz.prog = true := by kernel_rfl
/-- What reads as it did, all arguments at once. -/
theorem carryAll {H : Type} {enc : TypeId × Value → H} {W W' : World} (hb : Below W.heap.size W W') : ∀ {ts : List TypeId} {vs : List Value} {ds : List (DataW H)} {ps : List MemPlace},
  (∀ t ∈ ts, Tryz.prog.readableRec t = true ∧ t < Tryz.prog.types.size) → DataW.TrodAll enc Tryz.prog W 0 (fun _ => true) true ts vs ds ps → (∀ x ∈ ps, x.block < W.heap.size) →
  DataW.TrodAll enc Tryz.prog W' 0 (fun b => decide (b < W.heap.size)) true ts vs ds ps
 | [], vs, ds, ps, _, h, _ => by
  obtain ⟨rfl, rfl, rfl⟩ := trodAll_nil h;exact trodAll_mk0
 | t :: ts, vs, ds, ps, hr, h, hl => by
  obtain ⟨v, vs', d, ds', p, q, rfl, rfl, rfl, h0, hs⟩ := trodAll_cons h;exact trodAll_cons_mk (Below.trod laidOut (hr t (by simp)).1 (hr t (by simp)).2 h0 hb (fun x hx => hl x (by simp [hx])))
   (carryAll hb (fun u hu => hr u (by simp [hu])) hs (fun x hx => hl x (by simp [hx])))
theorem cellsNd : Tryz.prog.cellsOf 55 = 10 := by kernel_rfl
theorem cellsIn : Tryz.prog.cellsOf 3 = 1 := by kernel_rfl
theorem cellsU64 : Tryz.prog.cellsOf 51 = 1 := by kernel_rfl
theorem cellsSet : Tryz.prog.cellsOf 53 = 4 := by kernel_rfl
theorem u64_nat {a : Int} (h : (Lit.int .u64 a).wf = true) : ∃ n : Nat, a = (n : Int) ∧ n < 2 ^ 64 := by
 simp [Lit.wf, IntKind.min, IntKind.max, IntKind.signed, IntKind.bits] at h;exact ⟨a.toNat, by omega, by omega⟩
section
variable {H : Type} {enc : TypeId × Value → H} {w : World} {base : Nat} {held : Bool} {r : Reach} {b0 : Nat} {v : Value} {d : DataW H} {ps : List MemPlace}
theorem trod_set {spare : Nat → Bool} {n : Nat} {c0 c1 c2 c3 : Value} {x : DataW H × List MemPlace} (h : DataW.trod enc Tryz.prog w base spare held n 53 [c0, c1, c2, c3] = some x) : ∃ s : List Nat, Wf s ∧ c0 = U (word s 0) ∧ c1 = U (word s 1) ∧ c2 = U (word s 2) ∧ c3 = U (word s 3) := by
 obtain ⟨y0, y1, y2, y3, n, hx, h0, h1, h2, h3⟩ := trod_array4 Tryz.underlying53 cellsU64 h;obtain ⟨n0, e0, rfl, w0⟩ := DataW.trod_int Tryz.underlying51 h0;obtain ⟨n1, e1, rfl, w1⟩ := DataW.trod_int Tryz.underlying51 h1;obtain ⟨n2, e2, rfl, w2⟩ := DataW.trod_int Tryz.underlying51 h2;obtain ⟨n3, e3, rfl, w3⟩ := DataW.trod_int Tryz.underlying51 h3;obtain ⟨n0, rfl, b0⟩ := u64_nat w0;obtain ⟨n1, rfl, b1⟩ := u64_nat w1;obtain ⟨n2, rfl, b2⟩ := u64_nat w2;obtain ⟨n3, rfl, b3⟩ := u64_nat w3;(obtain rfl : c0 = _ := by simpa using e0);(obtain rfl : c1 = _ := by simpa using e1);(obtain rfl : c2 = _ := by simpa using e2);(obtain rfl : c3 = _ := by simpa using e3);exact ⟨[n0, n1, n2, n3], ⟨rfl, by simp [b0, b1, b2, b3]⟩, rfl, rfl, rfl, rfl⟩
instance : Inhabited Nd := ⟨⟨0, z4, 0, 0, 0, 0, 0⟩⟩
/-- Nodes that are handed in. -/
theorem open_nodes (hv : Value.okWide Tryz.prog w r b0 22 v) (hd : DataW.Trod enc Tryz.prog w base (fun _ => true) held 22 v d ps) : ∃ (ao : Option Addr) (c : Nat) (l : List Nd), v = .slice ao l.length c ∧ l.length ≤ maxLen ∧ Ns w (.slice ao l.length c) l ∧ ∀ n ∈ l, Wf n.s := by
 obtain ⟨a0, l0, c0, rfl⟩ := okWide_slice Tryz.underlying22 hv;obtain ⟨fuel, hf⟩ := hd;rcases open_slice Tryz.underlying22 hf with ⟨e, _⟩ | ⟨a, len, cap, m, n, D, Pl, hcs, hb, hl, hm, hmm, hx, hi⟩
 · simp only [Value.cells, List.cons.injEq, and_true] at e;(obtain ⟨rfl, rfl, rfl⟩ : a0 = none ∧ l0 = 0 ∧ c0 = 0 := by simpa using e);exact ⟨none, 0, [], rfl, by simp, ⟨none, 0, rfl, fun i hi => absurd hi (by simp)⟩, by simp⟩
 ·
  (obtain ⟨rfl, rfl, rfl⟩ : a0 = some a ∧ l0 = len ∧ c0 = cap := by simpa [Value.cells] using hcs);have hsp0 : 0 < l0 → a.spot = none := fun h0 => by
   obtain ⟨cs', hc, _⟩ := hi 0 (by simp at hmm; omega);rw [cellsNd] at hc;obtain ⟨_, hcl, hat⟩ := World.cells?_some hc;have g := World.cell?_spot ((hat 0 (by omega)).trans (List.getElem?_eq_getElem (by rw [hcl]; omega)));simpa [Addr.add] using g
  obtain ⟨f, hF⟩ := choose_lt (α := Nd) (n := l0) (p := fun i q => a.spot = none ∧ NCell w a.block (a.off + i * 10) q ∧ Wf q.s) (fun i hlt => by
   obtain ⟨cs', hc, ht'⟩ := hi i (by simp at hmm; omega);rw [cellsNd] at hc;obtain ⟨ys, n', _, _, hlen, hyl, hf⟩ := DataW.trod_struct Tryz.underlying55 ht';(have hz : ∀ i : Nat, i < 7 → ∃ y, ys[i]? = some y := fun i hi => ⟨_, List.getElem?_eq_getElem (by rw [hyl]; exact hi)⟩);obtain ⟨z0, hz0⟩ := hz 0 (by omega);obtain ⟨z1, hz1⟩ := hz 1 (by omega);obtain ⟨z2, hz2⟩ := hz 2 (by omega);obtain ⟨z3, hz3⟩ := hz 3 (by omega);obtain ⟨z4', hz4⟩ := hz 4 (by omega);obtain ⟨z5, hz5⟩ := hz 5 (by omega);obtain ⟨z6, hz6⟩ := hz 6 (by omega);obtain ⟨_, hcl, hat⟩ := World.cells?_some hc;rw [cellsNd] at hlen
   match cs', hlen with
   | [v0, v1, v2, v3, v4, v5, v6, v7, v8, v9], _ =>
    obtain ⟨x0, e0, _, w0⟩ := DataW.trod_int Tryz.underlying3 ((hf 0 _ rfl).trans hz0);have h1 := (hf 1 _ rfl).trans hz1;obtain ⟨x2, e2, _, w2⟩ := DataW.trod_int Tryz.underlying3 ((hf 2 _ rfl).trans hz2);obtain ⟨x3, e3, _, w3⟩ := DataW.trod_int Tryz.underlying3 ((hf 3 _ rfl).trans hz3);obtain ⟨x4, e4, _, w4⟩ := DataW.trod_int Tryz.underlying3 ((hf 4 _ rfl).trans hz4);obtain ⟨x5, e5, _, w5⟩ := DataW.trod_int Tryz.underlying3 ((hf 5 _ rfl).trans hz5);obtain ⟨x6, e6, _, w6⟩ := DataW.trod_int Tryz.underlying3 ((hf 6 _ rfl).trans hz6);simp [cellsIn] at e0 e2 e3 e4 e5 e6;subst e0 e2 e3 e4 e5 e6;simp [cellsSet] at h1;obtain ⟨s, hs, rfl, rfl, rfl, rfl⟩ := trod_set h1;have hsp := hsp0 (by omega);refine ⟨⟨x0, s, x2, x3, x4, x5, x6⟩, hsp, ?_, hs⟩;obtain ⟨ab, ao, asp⟩ := a;dsimp only at hsp;subst hsp;(have hg : ∀ j, j < 10 → (((⟨ab, ao, none⟩ : Addr).add (i * 10)).add j) = ⟨ab, ao + i * 10 + j, none⟩ := fun j _ => by rw [Addr.add_lit, Addr.add_lit]);(have k : ∀ (j : Nat), j < 10 → w.cell? ⟨ab, ao + i * 10 + j, none⟩ = w.cell? (((⟨ab, ao, none⟩ : Addr).add (i * 10)).add j) := fun j hj => by rw [hg j hj]);exact ⟨(k 0 (by decide)).trans (hat 0 (by omega)), (k 1 (by decide)).trans (hat 1 (by omega)), (k 2 (by decide)).trans (hat 2 (by omega)), (k 3 (by decide)).trans (hat 3 (by omega)), (k 4 (by decide)).trans (hat 4 (by omega)), (k 5 (by decide)).trans (hat 5 (by omega)), (k 6 (by decide)).trans (hat 6 (by omega)), (k 7 (by decide)).trans (hat 7 (by omega)), (k 8 (by decide)).trans (hat 8 (by omega)), (k 9 (by decide)).trans (hat 9 (by omega))⟩)
  (have hsz : ((List.range l0).map f).length = l0 := by simp);refine ⟨some a, c0, (List.range l0).map f, by simp, by simp; omega, ?_, ?_⟩
  · refine ⟨some a, c0, rfl, fun i hi' => ?_⟩;(have hil : i < l0 := by simpa using hi');(have e : ((List.range l0).map f)[i] = f i := by simp);rw [e];obtain ⟨hs, hn, _⟩ := hF i hil;obtain ⟨ab, ao, asp⟩ := a;dsimp only at hs;subst hs;exact ⟨ab, ao, rfl, hn⟩
  · intro n hn;obtain ⟨i, hi', rfl⟩ := List.mem_map.1 hn;exact (hF i (by simpa using hi')).2.2
end
theorem lt_of_cell {W : World} {g j : Nat} {v : Value} (h : W.cell? ⟨g, j, none⟩ = some v) : g < W.heap.size := by
 rcases Nat.lt_or_ge g W.heap.size with hl | hl
 · exact hl
 · exfalso;have hn : W.heap[g]? = none := Array.getElem?_eq_none hl;simp [World.cell?, hn] at h
theorem tab_of {W : World} (h : Go.Lib.TabIs Tryz.prog W "math/bits.deBruijn64tab" .u8 (Go.Lib.deBruijn64tab.map fun n : Nat => (n : Int))) (hg : Tryz.prog.globalNamed "math/bits.deBruijn64tab" = some 0) : Tab W ∧ 0 < W.heap.size := by
 have hc : ∀ j, j < Go.Lib.deBruijn64tab.length → W.cell? ⟨0, j, none⟩ = some (.int .u8 (Go.Lib.deBruijn64tab.getD j 0 : Nat)) := by
  intro j hj;rw [h.cell hg j (by simpa using hj)];simp [List.getD, hj]
 exact ⟨hc, lt_of_cell (hc 0 (by decide))⟩
theorem errs_of {W : World} {a b : Value} (h1 : W.cell? ⟨2, 0, none⟩ = some a) (h2 : W.cell? ⟨3, 0, none⟩ = some b)
  (e1 : a = .nilIface ∨ ∃ te pe, a = .iface te pe) (e2 : b = .nilIface ∨ ∃ te pe, b = .iface te pe) : Errs W :=
 ⟨⟨a, h1, e1⟩, ⟨b, h2, e2⟩, lt_of_cell h1, lt_of_cell h2⟩
open Go.Proofs.YtlicoffnjphphaaGreatDoor.St (Wf word zeroW Tab SV SV_eq)
/-- What is told is not too long. -/
theorem textL_len (l : List Nd) : (textL l).length ≤ 100000 := by
 unfold textL;cases hp : patOf l with
 | none => exact Nat.zero_le _
 | some t =>
  obtain ⟨rfl, hg⟩ := patOf_some hp;have := text_len _ t hg.1;have := hg.2.1;show (textT t).length ≤ _;omega
theorem may_some {l : List Nd} (h : mayL l = true) : ∃ t, patOf l = some t ∧ l = t.nodes 0 ∧ Good t ∧ textL l = textT t := by
 unfold mayL at h;obtain ⟨t, ht⟩ := Option.isSome_iff_exists.1 h;obtain ⟨h1, h2⟩ := patOf_some ht;exact ⟨t, ht, h1, h2, by unfold textL; rw [ht]⟩
theorem may_none {l : List Nd} (h : mayL l = false) : textL l = [] := by
 unfold mayL at h;have : patOf l = none := by
  cases hp : patOf l with
  | none => rfl
  | some t => rw [hp] at h; cases h
 unfold textL;rw [this]
theorem parse_back {l : List Nd} (hw : ∀ n ∈ l, Wf n.s) (h : mayL l = true) : parseL (textL l) = some l := by
 obtain ⟨t, _, h1, h2, h3⟩ := may_some h;rw [h3];rw [parse_text h2 (sets_nodes t 0 (by rw [← h1]; exact hw)), h1]
end Go.Proofs.YtlicoffnjphphaaGreatDoor.Rx
