/- The texts RxOwn RxOrd RxS. -/
import Derived.Laws.OwnMore
import Derived.OwnWalk
import Derived.Lib.SmallJoins
import Derived.Deep.AppendLies
import Derived.Test.YtlicoffnjphphaaGreatDoorQk06
set_option linter.unusedVariables false
set_option linter.unusedSimpArgs false
set_option maxHeartbeats 6400000
set_option maxRecDepth 100000
namespace Go.Proofs.YtlicoffnjphphaaGreatDoor.Rx
open Go.RowKit Go.Shelf
open Go.Proofs.YtlicoffnjphphaaGreatDoor.St (Wf word zeroW)
theorem infoNd : (Tryz.prog.info? 55).map (fun i => (i.zero, i.size, i.bytes)) = some (some (NV ⟨0, z4, 0, 0, 0, 0, 0⟩), 10, 80) := by kernel_rfl
/-- The cells of nodes, one behind another. -/
def flat (l : List Nd) : List Value := l.flatMap fun n => (NC n).toList
theorem flat_len : ∀ l : List Nd, (flat l).length = l.length * 10
 | [] => rfl
 | n :: l => by
  have := flat_len l;unfold flat at *;rw [List.flatMap_cons, List.length_append, this];simp;omega
theorem flat_append (l m : List Nd) : flat (l ++ m) = flat l ++ flat m := by unfold flat; rw [List.flatMap_append]
theorem flat_one (n : Nd) : flat [n] = (NC n).toList := by simp [flat]
theorem flat_get : ∀ (l : List Nd) (i : Nat) (h : i < l.length) (r : Nat), r < 10 → (flat l)[i * 10 + r]? = (NC l[i])[r]?
 | n :: l, 0, _, r, hr => by
  unfold flat;rw [List.flatMap_cons, List.getElem?_append_left (by simp; omega)];simp
 | n :: l, i + 1, h, r, hr => by
  have := flat_get l i (by simpa using h) r hr;unfold flat at *;rw [List.flatMap_cons, List.getElem?_append_right (by simp; omega)];rw [show (i + 1) * 10 + r - (NC n).toList.length = i * 10 + r by simp; omega, this];simp
theorem flat_cells : ∀ (l : List Nd), ∀ u ∈ flat l, u.oneCell' = true := by
 intro l u hu;obtain ⟨n, _, h⟩ := List.mem_flatMap.1 hu;simp only [List.mem_cons, List.not_mem_nil, or_false] at h;rcases h with rfl | rfl | rfl | rfl | rfl | rfl | rfl | rfl | rfl | rfl <;> rfl
theorem ncell_flat {w : World} {b o : Nat} {l : List Nd} {i : Nat} (hi : i < l.length) (h : ∀ r, r < 10 → w.cell? ⟨b, o + i * 10 + r, none⟩ = (flat l)[i * 10 + r]?) : NCell w b (o + i * 10) l[i] := by
 (have g : ∀ r, r < 10 → w.cell? ⟨b, o + i * 10 + r, none⟩ = (NC l[i])[r]? := fun r hr => (h r hr).trans (flat_get l i hi r hr));exact ⟨g 0 (by decide), g 1 (by decide), g 2 (by decide), g 3 (by decide), g 4 (by decide), g 5 (by decide), g 6 (by decide), g 7 (by decide), g 8 (by decide), g 9 (by decide)⟩
/-- What an own row holds. -/
theorem own_ns {w : World} {B : Nat} {v : Value} {l : List Nd} (h : w.ownsRow B 55 10 v l.length (flat l)) : Ns w v l := by
 rcases h.2 with ⟨rfl, h0⟩ | ⟨g, cap, cur, rfl, h1, h2, h3, h4, h5, h6⟩
 · refine ⟨none, 0, by rw [h0], fun i hi => ?_⟩;omega
 · refine ⟨some ⟨g, 0, none⟩, cap, rfl, fun i hi => ⟨g, 0, rfl, ncell_flat hi fun r hr => ?_⟩⟩;rw [Lib.cell_of_heap h2, ← h6, Nat.zero_add, List.getElem?_take_of_lt (by omega)];simp
theorem ns_news {w : World} {b o n c : Nat} {l : List Nd} (h : Ns w (.slice (some ⟨b, o, none⟩) n c) l) : ∀ j u, (flat l)[j]? = some u → w.cell? ((⟨b, o, none⟩ : Addr).add j) = some u := by
 intro j u hj;have hlt : j < (flat l).length := (List.getElem?_eq_some_iff.1 hj).1;rw [flat_len] at hlt;obtain ⟨i, r, rfl, hr⟩ : ∃ i r, j = i * 10 + r ∧ r < 10 := ⟨j / 10, j % 10, by omega, by omega⟩;(have hi : i < l.length := by omega);obtain ⟨b', o', e, h0, h1, h2, h3, h4, h5, h6, h7, h8, h9⟩ := h.at hi;simp only [Option.some.injEq, Addr.mk.injEq, and_true] at e;obtain ⟨rfl, rfl⟩ := e;rw [flat_get l i hi r hr] at hj;have ea : ((⟨b, o, none⟩ : Addr).add (i * 10 + r)) = ⟨b, o + i * 10 + r, none⟩ := by
  rw [Addr.add_lit, Nat.add_assoc]
 rw [ea]
 match r, hr with
 | 0, _ => exact h0.trans hj
 | 1, _ => exact h1.trans hj
 | 2, _ => exact h2.trans hj
 | 3, _ => exact h3.trans hj
 | 4, _ => exact h4.trans hj
 | 5, _ => exact h5.trans hj
 | 6, _ => exact h6.trans hj
 | 7, _ => exact h7.trans hj
 | 8, _ => exact h8.trans hj
 | 9, _ => exact h9.trans hj
open Go.Proofs.YtlicoffnjphphaaGreatDoor.St (Wf word zeroW ext_word wf_zero)
theorem infoInt : (Tryz.prog.info? 3).map (fun i => (i.zero, i.size, i.bytes)) = some (some (.int .i64 0), 1, 8) := by kernel_rfl
/-- A stack of places. -/
abbrev ns (st : List Nat) : List Value := st.map fun x : Nat => E (x : Int)
theorem one_one (n : Int) : ∀ u ∈ [E n], u.oneCell' = true := by simp [Value.oneCell']
/-- Two more cells, above a world. -/
abbrev NH2 (w0 w : World) (b : Nat) (n : Nd) (g m : Nat) (x y : Int) : Prop := (w.cell? ⟨g, m, none⟩ = some (E x) ∧ w.cell? ⟨g, m + 1, none⟩ = some (E y)) ∧ NH w0 w b n
abbrev NH1 (w0 w : World) (b : Nat) (n : Nd) (g m : Nat) (x : Int) : Prop := w.cell? ⟨g, m, none⟩ = some (E x) ∧ NH w0 w b n
theorem NH1.below {w0 w w' : World} {b : Nat} {n : Nd} {g m : Nat} {x : Int} (h : NH1 w0 w b n g m x) (hb : Below w.heap.size w w') : NH1 w0 w' b n g m x := ⟨(hb.cell (lt_cell h.1)).trans h.1, NH.below h.2 hb⟩
theorem NH2.below {w0 w w' : World} {b : Nat} {n : Nd} {g m : Nat} {x y : Int} (h : NH2 w0 w b n g m x y) (hb : Below w.heap.size w w') : NH2 w0 w' b n g m x y := ⟨⟨(hb.cell (lt_cell h.1.1)).trans h.1.1, (hb.cell (lt_cell h.1.2)).trans h.1.2⟩, NH.below h.2 hb⟩
theorem NH.bel {w0 w : World} {b : Nat} {n : Nd} (h : NH w0 w b n) : Below w0.heap.size w0 w := h.2.2.2.2.2.2.2.2.2.2
theorem NH1.bel {w0 w : World} {b : Nat} {n : Nd} {g m : Nat} {x : Int} (h : NH1 w0 w b n g m x) : Below w0.heap.size w0 w := NH.bel h.2
theorem NH2.bel {w0 w : World} {b : Nat} {n : Nd} {g m : Nat} {x y : Int} (h : NH2 w0 w b n g m x y) : Below w0.heap.size w0 w := NH.bel h.2
theorem NH1.drew {w0 w : World} {b : Nat} {n : Nd} {g m : Nat} {x : Int} (h : NH1 w0 w b n g m x) : NH1 w0 w.drew b n g m x := ⟨h.1, NH.drew h.2⟩
theorem NH2.drew {w0 w : World} {b : Nat} {n : Nd} {g m : Nat} {x y : Int} (h : NH2 w0 w b n g m x y) : NH2 w0 w.drew b n g m x y := ⟨h.1, NH.drew h.2⟩
/-- The place that stands in an own stack. -/
theorem own_cell {w : World} {B e n g cap m : Nat} {st : List Nat} (h : w.ownsRow B e 1 (.slice (some ⟨g, 0, none⟩) n cap) n (ns st)) (hm : m < st.length) : w.cell? ⟨g, m, none⟩ = some (E ((st[m] : Nat) : Int)) := by
 obtain ⟨hl, h⟩ := h;rcases h with ⟨hv, _⟩ | ⟨g', cap', cur, hv, h1, h2, h3, h4, h5, h6⟩
 · cases hv
 simp only [Value.slice.injEq, true_and, Option.some.injEq, Addr.mk.injEq, and_true] at hv;obtain ⟨rfl, rfl⟩ := hv;rw [Lib.cell_of_heap h2];(have e1 : (ns st)[m]? = some (E ((st[m] : Nat) : Int)) := by simp [ns, hm]);rw [← h6] at e1;(have hmn : m < n * 1 := by rw [← hl]; simpa [ns] using hm);rw [List.getElem?_take_of_lt hmn] at e1;simpa using e1
theorem parts_none {n : Nd} (h : parts n = 0) : n.k ≠ 4 ∧ n.k ≠ 5 ∧ n.k ≠ 6 := by
 refine ⟨?_, ?_, ?_⟩ <;> intro q <;> unfold parts at h <;> simp [q] at h
theorem ok_none {l : List Nd} {n : Nd} {st : List Nat} (h1 : OneN n) (h2 : parts n = 0) (h3 : ¬ (n.k = 0 ∧ 1 < l.length)) (h4 : n.k ≠ 4 ∧ n.k ≠ 5 ∧ n.k ≠ 6) : StepOk l n st := by
 refine ⟨h1, by omega, h3, ?_, ?_⟩
 · rw [h2, Nat.sub_zero, List.drop_length]; trivial
 · unfold Fits; rw [if_neg h4.1, if_neg h4.2.1, if_neg h4.2.2]; trivial
theorem ordRun_succ {l : List Nd} {k : Nat} {st : List Nat} (h : ordRun l k = some st) (hk : k < l.length) : ordRun l (k + 1) = if StepOk l l[k] st then some (push l[k] k st) else none := by
 show (ordRun l k).bind _ = _;rw [h];show (match l[k]? with | none => none | some n => if StepOk l n st then some (push n k st) else none) = _;rw [List.getElem?_eq_getElem hk]
theorem ordRun_none {l : List Nd} {k : Nat} (h : ordRun l k = none) : ∀ j, k ≤ j → ordRun l j = none := by
 intro j hj
 induction j with
 | zero =>
  (obtain rfl : k = 0 := by omega);exact h
 | succ j ih =>
  by_cases e : k = j + 1
  · subst e; exact h
  · show (ordRun l j).bind _ = none;rw [ih (by omega)]; rfl
theorem not_ordered {l : List Nd} {k : Nat} (h : ordRun l (k + 1) = none) (hk : k < l.length) : ¬ Ordered l := by
 rintro ⟨i, hi⟩;rw [ordRun_none h _ (by omega)] at hi;cases hi
theorem bad_step {l : List Nd} {k : Nat} {st : List Nat} (h : ordRun l k = some st) (hk : k < l.length) (hn : ¬ StepOk l l[k] st) : ¬ Ordered l := by
 apply not_ordered _ hk;rw [ordRun_succ h hk, if_neg hn]
theorem ordRun_le {l : List Nd} : ∀ {k : Nat} {st : List Nat}, ordRun l k = some st → st.length ≤ k ∧ ∀ x ∈ st, x < k
 | 0, st, h => by
  obtain rfl : [] = st := Option.some.inj h;simp
 | k + 1, st, h => by
  cases e : ordRun l k with
  | none => rw [ordRun_none e (k + 1) (by omega)] at h; cases h
  | some s0 =>
   have ih := ordRun_le e;have h' : (ordRun l k).bind _ = some st := h;rw [e] at h';cases hl : l[k]? with
   | none => rw [show (some s0).bind _ = (match l[k]? with | none => none | some n => if StepOk l n s0 then some (push n k s0) else none) from rfl, hl] at h'; cases h'
   | some n =>
    rw [show (some s0).bind _ = (match l[k]? with | none => none | some n => if StepOk l n s0 then some (push n k s0) else none) from rfl, hl] at h';dsimp only at h';split at h'
    ·
     obtain rfl := Option.some.inj h';unfold push;refine ⟨?_, ?_⟩
     · simp; omega
     ·
      intro x hx;rw [List.mem_append, List.mem_singleton] at hx;rcases hx with hx | rfl
      · have := ih.2 x (List.mem_of_mem_take hx); omega
      · omega
    · cases h'
instance (l : List Nd) : Decidable (Ordered l) :=
 match h : ordRun l l.length with
 | some [i] => isTrue ⟨i, h⟩
 | none => isFalse (by rintro ⟨i, e⟩; rw [h] at e; cases e)
 | some [] => isFalse (by rintro ⟨i, e⟩; rw [h] at e; cases e)
 | some (_ :: _ :: _) => isFalse (by rintro ⟨i, e⟩; rw [h] at e; cases e)
theorem ordered_any (ao : Option Addr) (c : Nat) (l : List Nd) (w : World) (h : Ns w (.slice ao l.length c) l) (hw : ∀ n ∈ l, Wf n.s) (hl : l.length ≤ 120) :
  Calls Tryz.prog 56 #[.slice ao l.length c] w fun e w' => e = .returned (.bool (decide (Ordered l))) ∧ Below w.heap.size w w' := by
 obtain ⟨i0, hi, hz0, hz1, hz2⟩ := info_parts infoInt;have HNS := Lib.hid h;clear h;go_enter Tryz.func56, Tryz.ntmps56;go_wp2;go_loopw [3, 10] (fun v i wr => ∃ (k : Nat) (st : List Nat), k ≤ l.length ∧ i = .int .i64 (k : Nat) ∧ Hid (ordRun l k = some st) ∧ Hid (wr.ownsRow w.heap.size 3 1 v st.length (ns st)) ∧ Hid (Below w.heap.size w wr)) (fun _ i _ => l.length - (intOf i).toNat);(case atStart => exact ⟨0, [], Nat.zero_le _, rfl, Lib.hid rfl, Lib.hid (World.ownsRow_nil _ _ _ _), Lib.hid (Below.refl _ _)⟩);case round =>
  obtain ⟨k, st, hk, rfl, HR, HO, HB⟩ := hrel;by_cases hlt : k < l.length
  ·
   obtain ⟨B0, o0, rfl, q0, q1, q2, q3, q4, q5, q6, q7, q8, q9⟩ := (HNS.out.below HB.out).at hlt;generalize hn : l[k] = n at *;have HN := Lib.hid hn;(have hlt' : ((k : Nat) : Int) < ((l.length : Nat) : Int) := by omega);(have CPa := fun W => parts_any n W);(have COn := fun W => one_any n W (by rw [← HN.out]; exact hw _ (List.getElem_mem _)));clear hn;(have hbad : ∀ w', (¬ StepOk l n st) → Below w.heap.size w w' → ((Ending.returned (.bool false) = .returned (.bool (decide (Ordered l)))) ∧ Below w.heap.size w w') := fun w' hx hb => ⟨by rw [decide_eq_false (bad_step HR.out hlt (by rw [HN.out]; exact hx))], hb⟩);have HBAD := Lib.hid hbad;have hlen := (ordRun_le HR.out).1;have HLE := Lib.hid (ordRun_le HR.out).2;have HFT := Lib.hid (fun W (hb : Below wr.heap.size wr W) (ha : n.k = 4 ∨ n.k = 5 ∨ n.k = 6 → ∃ j, j < l.length ∧ n.a = (j : Nat)) (hb' : n.k = 4 → ∃ j, j < l.length ∧ n.b = (j : Nat)) => fits_any (some ⟨B0, o0, none⟩) c l n W (HNS.out.below (HB.out.trans (hb.mono HB.out.size))) ha hb');clear hbad;(have hp2 : parts n ≤ 2 := by unfold parts; split; omega; split <;> omega);obtain ⟨bo, cap, rfl⟩ : ∃ bo cap, u3 = .slice bo st.length cap := by
    rcases own_forms HO.out with ⟨rfl, h0⟩ | ⟨g, cap, rfl, _⟩
    · exact ⟨none, 0, by rw [h0]⟩
    · exact ⟨_, _, rfl⟩
   have HBN := ((Below.refl wr.heap.size wr).alloc (Nat.le_refl _) (Obj.cells (NC n) 55));have HNB : NB (wr.alloc (Obj.cells (NC n) 55)) wr.heap.size n := heap_alloc_new _ _;have HH0 := Lib.hid (NB.held (w0 := wr) HNB HBN);clear HNB HBN;obtain ⟨P, hP⟩ : ∃ P, P = parts n := ⟨_, rfl⟩;rw [← hP] at CPa hp2;have HP := Lib.hid hP;clear hP;by_cases ho : OneN n
   ·
    rw [decide_eq_true ho] at COn;by_cases hle : P ≤ st.length
    ·
     obtain ⟨m, hm⟩ : ∃ m, st.length = m + P := ⟨st.length - P, by omega⟩;(have hsub : IntKind.i64.wrap (((st.length : Nat) : Int) - (P : Int)) = ((m : Nat) : Int) := by rw [IntKind.wrap_i64]; omega);have HM := Lib.hid hm;(have hm0 : (0 : Int) ≤ ((m : Nat) : Int) := by omega);(have hm1 : ((m : Nat) : Int) ≤ ((st.length : Nat) : Int) := by omega);(have hm2 : m ≤ st.length := by omega);have HPU := Lib.hid (show push n k st = st.take m ++ [k] from by unfold push; rw [← HP.out]; congr 2; omega);have HDR := Lib.hid (show st.drop (st.length - parts n) = st.drop m from by rw [← HP.out]; congr 1; omega);(have hml : m ≤ 120 := by omega);by_cases hk0 : n.k = 0
     ·
      (have hkB : (n.k == 0) = true := by simpa using hk0);by_cases hL : 1 < l.length
      ·
       (have hLB : (1 : Int) < ((l.length : Nat) : Int) := by omega);have HK0 := Lib.hid (And.intro hk0 hL);clear hk0;go_wp2_with (first
        | (go_at_call 63; refine (CPa _).mono ?_; rintro e w1 ⟨rfl, hb1⟩; have HH1 := Lib.hid (HH0.out.below hb1); clear hb1; obtain ⟨r0, r1, r2, r3, r4, r5, r6, r7, r8, r9, _⟩ := HH1.out)
        | (go_at_call 77; refine (COn _).mono ?_; rintro e w2 ⟨rfl, hb2⟩; have HH2 := Lib.hid (HH1.out.below hb2); clear hb2; obtain ⟨s0, s1, s2, s3, s4, s5, s6, s7, s8, s9, _⟩ := HH2.out; clear HH1))
       go_ret;exact HBAD.out _ (fun q => q.2.2.1 HK0.out) (HB.out.trans (HH2.out.bel.mono HB.out.size))
      ·
       (have hLB : ¬ (1 : Int) < ((l.length : Nat) : Int) := by omega);(have hP0 : P = 0 := by rw [HP.out]; unfold parts; rw [if_neg (by omega), if_neg (by omega)]);subst hP0;have HK := Lib.hid (show n.k ≠ 4 ∧ n.k ≠ 5 ∧ n.k ≠ 6 by omega);have HOK := Lib.hid (show StepOk l n st from ok_none ho (by rw [← HP.out]) (fun q => hL q.2) HK.out);clear hk0;have HFI := Lib.hid (show Fits l n from HOK.out.2.2.2.2);have CF := Lib.hid (show ∀ W, Below wr.heap.size wr W → Calls Tryz.prog 78 #[.slice (some ⟨B0, o0, none⟩) l.length c, NV n] W fun e w' => e = .returned (.bool true) ∧ Below W.heap.size W w' from fun W hb => by
        have := HFT.out W hb (by have := HK.out; omega) (by have := HK.out; omega)
        rwa [decide_eq_true HFI.out] at this)
       (have hmn : m = st.length := by have := HM.out; omega);rcases own_forms HO.out with ⟨hv, h0⟩ | ⟨g, cap', hv, hcap⟩
       ·
        (obtain ⟨rfl, h00, rfl⟩ : bo = none ∧ st.length = 0 ∧ cap = 0 := by simpa using hv);(obtain rfl : m = 0 := by omega);obtain rfl : st = [] := List.length_eq_zero_iff.1 h0;clear hv h0 h00 hmn hm;go_wp2_with (first
         | (go_at_call 63; refine (CPa _).mono ?_; rintro e w1 ⟨rfl, hb1⟩; have HH1 := Lib.hid (HH0.out.below hb1); clear hb1; obtain ⟨r0, r1, r2, r3, r4, r5, r6, r7, r8, r9, _⟩ := HH1.out)
         | (go_at_call 77; refine (COn _).mono ?_; rintro e w2 ⟨rfl, hb2⟩; have HH2 := Lib.hid (HH1.out.below hb2); clear hb2; obtain ⟨s0, s1, s2, s3, s4, s5, s6, s7, s8, s9, _⟩ := HH2.out; clear HH1))
        have HS0 := Lib.hid (HH2.out);refine wp_region_noPanic ?_;refine wp_region_held_drew (S := fun w' => NH wr w' wr.heap.size n) (by kernel_rfl) ?_ (fun hHeld => ?_)
        · (try dsimp only); exact NH.drew HS0.out
        clear HS0;have HBD := Lib.hid (NH.bel hHeld);generalize w2.drew = w3 at *;refine Tk.t 0 ?_;refine Tk.t 1 ?_;refine Tk.t 2 ?_;refine Tk.t 3 ?_;refine Tk.p 4 ?_;refine Tk.p 5 ?_;refine Tk.p 6 ?_;refine Tk.p 7 ?_;refine Tk.p 8 ?_;refine Tk.p 9 ?_;refine Tk.p 10 ?_;refine Tk.p 11 ?_;refine Tk.p 12 ?_;refine Tk.p 13 ?_;refine Tk.p 14 ?_;refine Tk.p 15 ?_;refine Tk.p 16 ?_;refine Tk.p 17 ?_;refine Tk.p 18 ?_;refine Tk.p 19 ?_;refine Tk.p 20 ?_;refine Tk.p 21 ?_;refine Tk.p 22 ?_;refine Tk.t 23 ?_;refine Tk.t 24 ?_;refine Tk.t 25 ?_;refine Tk.t 26 ?_;refine Tk.o 27 (fun K hK => ?_);go_simp
        (go_at_call 78; refine (CF.out _ (NH.bel hHeld)).mono ?_; rintro e w' ⟨rfl, hbl⟩)
        refine hK.out _ _ ?_ (fun hHeld => Tk.w ?_)
        · (try dsimp only); (exact NH.below hHeld hbl)
        clear hK K;refine Tk.t 28 ?_;refine Tk.t 29 ?_;refine Tk.d ?_;have HH3 := Lib.hid hHeld;clear hHeld HBD;have HOm := Lib.hid (own_below HO.out (HH3.out.bel));go_wp2_with (at_builtin; refine wpList_append_own _ rfl _ _ 36 rfl w.heap.size 3 i0 _ 1 8 Tryz.underlying36 hi hz0 hz1 hz2 rfl (by decide) _ _ _ rfl (HOm.out.alloc _) ⟨_, 0, none⟩ 1 1 [E (k : Nat)] rfl rfl (one_cell (heap_alloc_new _ _)) (one_one _) (by unfold maxLen; omega) (by omega) (by have h1 := HB.out.size; have h2 := HH3.out.bel.size; simp; omega) ?_);rintro v' w4 hown hgrow -;have HB4 := Lib.hid (((HB.out.trans (HH3.out.bel.mono HB.out.size)).alloc (by have h1 := HB.out.size; have h2 := HH3.out.bel.size; omega) _).grown hgrow (by have h1 := HB.out.size; have h2 := HH3.out.bel.size; simp; omega) (own_ge HOm.out));have HO4 : Hid (w4.ownsRow w.heap.size 3 1 v' (push n k ([] : List Nat)).length (ns (push n k ([] : List Nat)))) := Lib.hid (by rw [HPU.out]; simpa [HM.out, ns] using hown);obtain ⟨bo', n', cap', rfl⟩ : ∃ bo' n' cap', v' = .slice bo' n' cap' := by
         rcases own_forms hown with ⟨rfl, _⟩ | ⟨g, cap, rfl, _⟩
         · exact ⟨_, _, _, rfl⟩
         · exact ⟨_, _, _, rfl⟩
        clear hown hgrow;go_wp2;go_roundw;(case rel => exact ⟨k + 1, push n k ([] : List Nat), by omega, by go_num, Lib.hid (by rw [ordRun_succ HR.out hlt, HN.out, if_pos HOK.out]), HO4, HB4⟩);case measure => simp [intOf]; omega
       ·
        (obtain ⟨rfl, rfl⟩ : bo = some ⟨g, 0, none⟩ ∧ cap = cap' := by simpa using hv);(have hcap' : ((st.length : Nat) : Int) ≤ (cap : Int) := by omega);clear hv;clear hm;subst hmn;by_cases hcs : cap = st.length
        ·
         subst hcs;go_wp2_with (first
          | (go_at_call 63; refine (CPa _).mono ?_; rintro e w1 ⟨rfl, hb1⟩; have HH1 := Lib.hid (HH0.out.below hb1); clear hb1; obtain ⟨r0, r1, r2, r3, r4, r5, r6, r7, r8, r9, _⟩ := HH1.out)
          | (go_at_call 77; refine (COn _).mono ?_; rintro e w2 ⟨rfl, hb2⟩; have HH2 := Lib.hid (HH1.out.below hb2); clear hb2; obtain ⟨s0, s1, s2, s3, s4, s5, s6, s7, s8, s9, _⟩ := HH2.out; clear HH1))
         have HS0 := Lib.hid (HH2.out);refine wp_region_noPanic ?_;refine wp_region_held_drew (S := fun w' => NH wr w' wr.heap.size n) (by kernel_rfl) ?_ (fun hHeld => ?_)
         · (try dsimp only); exact NH.drew HS0.out
         clear HS0;have HBD := Lib.hid (NH.bel hHeld);generalize w2.drew = w3 at *;refine Tk.t 0 ?_;refine Tk.t 1 ?_;refine Tk.t 2 ?_;refine Tk.t 3 ?_;refine Tk.p 4 ?_;refine Tk.p 5 ?_;refine Tk.p 6 ?_;refine Tk.p 7 ?_;refine Tk.p 8 ?_;refine Tk.p 9 ?_;refine Tk.p 10 ?_;refine Tk.p 11 ?_;refine Tk.p 12 ?_;refine Tk.p 13 ?_;refine Tk.p 14 ?_;refine Tk.p 15 ?_;refine Tk.p 16 ?_;refine Tk.p 17 ?_;refine Tk.p 18 ?_;refine Tk.p 19 ?_;refine Tk.p 20 ?_;refine Tk.p 21 ?_;refine Tk.p 22 ?_;refine Tk.t 23 ?_;refine Tk.t 24 ?_;refine Tk.t 25 ?_;refine Tk.t 26 ?_;refine Tk.o 27 (fun K hK => ?_);go_simp
         (go_at_call 78; refine (CF.out _ (NH.bel hHeld)).mono ?_; rintro e w' ⟨rfl, hbl⟩)
         refine hK.out _ _ ?_ (fun hHeld => Tk.w ?_)
         · (try dsimp only); (exact NH.below hHeld hbl)
         clear hK K;refine Tk.t 28 ?_;refine Tk.t 29 ?_;refine Tk.d ?_;have HH3 := Lib.hid hHeld;clear hHeld HBD;have HOm := Lib.hid (own_below (own_take HO.out hm2) (HH3.out.bel));go_wp2_with (at_builtin; refine wpList_append_own _ rfl _ _ 36 rfl w.heap.size 3 i0 _ 1 8 Tryz.underlying36 hi hz0 hz1 hz2 rfl (by decide) _ _ _ rfl (HOm.out.alloc _) ⟨_, 0, none⟩ 1 1 [E (k : Nat)] rfl rfl (one_cell (heap_alloc_new _ _)) (one_one _) (by unfold maxLen; omega) (by omega) (by have h1 := HB.out.size; have h2 := HH3.out.bel.size; simp; omega) ?_);rintro v' w4 hown hgrow -;have HB4 := Lib.hid (((HB.out.trans (HH3.out.bel.mono HB.out.size)).alloc (by have h1 := HB.out.size; have h2 := HH3.out.bel.size; omega) _).grown hgrow (by have h1 := HB.out.size; have h2 := HH3.out.bel.size; simp; omega) (own_ge HOm.out));have HO4 : Hid (w4.ownsRow w.heap.size 3 1 v' (push n k st).length (ns (push n k st))) := Lib.hid (by rw [HPU.out]; have hh := hown; rw [List.take_of_length_le (by simp [ns])] at hh; simpa [ns] using hh);obtain ⟨bo', n', cap', rfl⟩ : ∃ bo' n' cap', v' = .slice bo' n' cap' := by
          rcases own_forms hown with ⟨rfl, _⟩ | ⟨g, cap, rfl, _⟩
          · exact ⟨_, _, _, rfl⟩
          · exact ⟨_, _, _, rfl⟩
         clear hown hgrow;go_wp2;go_roundw;(case rel => exact ⟨k + 1, push n k st, by omega, by go_num, Lib.hid (by rw [ordRun_succ HR.out hlt, HN.out, if_pos HOK.out]), HO4, HB4⟩);case measure => simp [intOf]; omega
        ·
         skip
         go_wp2_with (first
          | (go_at_call 63; refine (CPa _).mono ?_; rintro e w1 ⟨rfl, hb1⟩; have HH1 := Lib.hid (HH0.out.below hb1); clear hb1; obtain ⟨r0, r1, r2, r3, r4, r5, r6, r7, r8, r9, _⟩ := HH1.out)
          | (go_at_call 77; refine (COn _).mono ?_; rintro e w2 ⟨rfl, hb2⟩; have HH2 := Lib.hid (HH1.out.below hb2); clear hb2; obtain ⟨s0, s1, s2, s3, s4, s5, s6, s7, s8, s9, _⟩ := HH2.out; clear HH1))
         have HS0 := Lib.hid (HH2.out);refine wp_region_noPanic ?_;refine wp_region_held_drew (S := fun w' => NH wr w' wr.heap.size n) (by kernel_rfl) ?_ (fun hHeld => ?_)
         · (try dsimp only); exact NH.drew HS0.out
         clear HS0;have HBD := Lib.hid (NH.bel hHeld);generalize w2.drew = w3 at *;refine Tk.t 0 ?_;refine Tk.t 1 ?_;refine Tk.t 2 ?_;refine Tk.t 3 ?_;refine Tk.p 4 ?_;refine Tk.p 5 ?_;refine Tk.p 6 ?_;refine Tk.p 7 ?_;refine Tk.p 8 ?_;refine Tk.p 9 ?_;refine Tk.p 10 ?_;refine Tk.p 11 ?_;refine Tk.p 12 ?_;refine Tk.p 13 ?_;refine Tk.p 14 ?_;refine Tk.p 15 ?_;refine Tk.p 16 ?_;refine Tk.p 17 ?_;refine Tk.p 18 ?_;refine Tk.p 19 ?_;refine Tk.p 20 ?_;refine Tk.p 21 ?_;refine Tk.p 22 ?_;refine Tk.t 23 ?_;refine Tk.t 24 ?_;refine Tk.t 25 ?_;refine Tk.t 26 ?_;refine Tk.o 27 (fun K hK => ?_);go_simp
         (go_at_call 78; refine (CF.out _ (NH.bel hHeld)).mono ?_; rintro e w' ⟨rfl, hbl⟩)
         refine hK.out _ _ ?_ (fun hHeld => Tk.w ?_)
         · (try dsimp only); (exact NH.below hHeld hbl)
         clear hK K;refine Tk.t 28 ?_;refine Tk.t 29 ?_;refine Tk.d ?_;have HH3 := Lib.hid hHeld;clear hHeld HBD;have HOm := Lib.hid (own_below (own_take HO.out hm2) (HH3.out.bel));go_wp2_with (at_builtin; refine wpList_append_own _ rfl _ _ 36 rfl w.heap.size 3 i0 _ 1 8 Tryz.underlying36 hi hz0 hz1 hz2 rfl (by decide) _ _ _ rfl (HOm.out.alloc _) ⟨_, 0, none⟩ 1 1 [E (k : Nat)] rfl rfl (one_cell (heap_alloc_new _ _)) (one_one _) (by unfold maxLen; omega) (by omega) (by have h1 := HB.out.size; have h2 := HH3.out.bel.size; simp; omega) ?_);rintro v' w4 hown hgrow -;have HB4 := Lib.hid (((HB.out.trans (HH3.out.bel.mono HB.out.size)).alloc (by have h1 := HB.out.size; have h2 := HH3.out.bel.size; omega) _).grown hgrow (by have h1 := HB.out.size; have h2 := HH3.out.bel.size; simp; omega) (own_ge HOm.out));have HO4 : Hid (w4.ownsRow w.heap.size 3 1 v' (push n k st).length (ns (push n k st))) := Lib.hid (by rw [HPU.out]; have hh := hown; rw [List.take_of_length_le (by simp [ns])] at hh; simpa [ns] using hh);obtain ⟨bo', n', cap', rfl⟩ : ∃ bo' n' cap', v' = .slice bo' n' cap' := by
          rcases own_forms hown with ⟨rfl, _⟩ | ⟨g, cap, rfl, _⟩
          · exact ⟨_, _, _, rfl⟩
          · exact ⟨_, _, _, rfl⟩
         clear hown hgrow;go_wp2;go_roundw;(case rel => exact ⟨k + 1, push n k st, by omega, by go_num, Lib.hid (by rw [ordRun_succ HR.out hlt, HN.out, if_pos HOK.out]), HO4, HB4⟩);case measure => simp [intOf]; omega
     ·
      (have hkB : (n.k == 0) = false := by simpa using hk0);have HK0 := Lib.hid hk0;clear hk0;by_cases hP0 : P = 0
      ·
       subst hP0;have HK := Lib.hid (parts_none HP.out.symm);have HOK := Lib.hid (show StepOk l n st from ok_none ho (by rw [← HP.out]) (fun q => HK0.out q.1) HK.out);have HFI := Lib.hid (show Fits l n from HOK.out.2.2.2.2);have CF := Lib.hid (show ∀ W, Below wr.heap.size wr W → Calls Tryz.prog 78 #[.slice (some ⟨B0, o0, none⟩) l.length c, NV n] W fun e w' => e = .returned (.bool true) ∧ Below W.heap.size W w' from fun W hb => by
        have := HFT.out W hb (by have := HK.out; omega) (by have := HK.out; omega)
        rwa [decide_eq_true HFI.out] at this)
       (have hmn : m = st.length := by have := HM.out; omega);rcases own_forms HO.out with ⟨hv, h0⟩ | ⟨g, cap', hv, hcap⟩
       ·
        (obtain ⟨rfl, h00, rfl⟩ : bo = none ∧ st.length = 0 ∧ cap = 0 := by simpa using hv);(obtain rfl : m = 0 := by omega);obtain rfl : st = [] := List.length_eq_zero_iff.1 h0;clear hv h0 h00 hmn hm;go_wp2_with (first
         | (go_at_call 63; refine (CPa _).mono ?_; rintro e w1 ⟨rfl, hb1⟩; have HH1 := Lib.hid (HH0.out.below hb1); clear hb1; obtain ⟨r0, r1, r2, r3, r4, r5, r6, r7, r8, r9, _⟩ := HH1.out)
         | (go_at_call 77; refine (COn _).mono ?_; rintro e w2 ⟨rfl, hb2⟩; have HH2 := Lib.hid (HH1.out.below hb2); clear hb2; obtain ⟨s0, s1, s2, s3, s4, s5, s6, s7, s8, s9, _⟩ := HH2.out; clear HH1))
        have HS0 := Lib.hid (HH2.out);refine wp_region_noPanic ?_;refine wp_region_held_drew (S := fun w' => NH wr w' wr.heap.size n) (by kernel_rfl) ?_ (fun hHeld => ?_)
        · (try dsimp only); exact NH.drew HS0.out
        clear HS0;have HBD := Lib.hid (NH.bel hHeld);generalize w2.drew = w3 at *;refine Tk.t 0 ?_;refine Tk.t 1 ?_;refine Tk.t 2 ?_;refine Tk.t 3 ?_;refine Tk.p 4 ?_;refine Tk.p 5 ?_;refine Tk.p 6 ?_;refine Tk.p 7 ?_;refine Tk.p 8 ?_;refine Tk.p 9 ?_;refine Tk.p 10 ?_;refine Tk.p 11 ?_;refine Tk.p 12 ?_;refine Tk.p 13 ?_;refine Tk.p 14 ?_;refine Tk.p 15 ?_;refine Tk.p 16 ?_;refine Tk.p 17 ?_;refine Tk.p 18 ?_;refine Tk.p 19 ?_;refine Tk.p 20 ?_;refine Tk.p 21 ?_;refine Tk.p 22 ?_;refine Tk.t 23 ?_;refine Tk.t 24 ?_;refine Tk.t 25 ?_;refine Tk.t 26 ?_;refine Tk.o 27 (fun K hK => ?_);go_simp
        (go_at_call 78; refine (CF.out _ (NH.bel hHeld)).mono ?_; rintro e w' ⟨rfl, hbl⟩)
        refine hK.out _ _ ?_ (fun hHeld => Tk.w ?_)
        · (try dsimp only); (exact NH.below hHeld hbl)
        clear hK K;refine Tk.t 28 ?_;refine Tk.t 29 ?_;refine Tk.d ?_;have HH3 := Lib.hid hHeld;clear hHeld HBD;have HOm := Lib.hid (own_below HO.out (HH3.out.bel));go_wp2_with (at_builtin; refine wpList_append_own _ rfl _ _ 36 rfl w.heap.size 3 i0 _ 1 8 Tryz.underlying36 hi hz0 hz1 hz2 rfl (by decide) _ _ _ rfl (HOm.out.alloc _) ⟨_, 0, none⟩ 1 1 [E (k : Nat)] rfl rfl (one_cell (heap_alloc_new _ _)) (one_one _) (by unfold maxLen; omega) (by omega) (by have h1 := HB.out.size; have h2 := HH3.out.bel.size; simp; omega) ?_);rintro v' w4 hown hgrow -;have HB4 := Lib.hid (((HB.out.trans (HH3.out.bel.mono HB.out.size)).alloc (by have h1 := HB.out.size; have h2 := HH3.out.bel.size; omega) _).grown hgrow (by have h1 := HB.out.size; have h2 := HH3.out.bel.size; simp; omega) (own_ge HOm.out));have HO4 : Hid (w4.ownsRow w.heap.size 3 1 v' (push n k ([] : List Nat)).length (ns (push n k ([] : List Nat)))) := Lib.hid (by rw [HPU.out]; simpa [HM.out, ns] using hown);obtain ⟨bo', n', cap', rfl⟩ : ∃ bo' n' cap', v' = .slice bo' n' cap' := by
         rcases own_forms hown with ⟨rfl, _⟩ | ⟨g, cap, rfl, _⟩
         · exact ⟨_, _, _, rfl⟩
         · exact ⟨_, _, _, rfl⟩
        clear hown hgrow;go_wp2;go_roundw;(case rel => exact ⟨k + 1, push n k ([] : List Nat), by omega, by go_num, Lib.hid (by rw [ordRun_succ HR.out hlt, HN.out, if_pos HOK.out]), HO4, HB4⟩);case measure => simp [intOf]; omega
       ·
        (obtain ⟨rfl, rfl⟩ : bo = some ⟨g, 0, none⟩ ∧ cap = cap' := by simpa using hv);(have hcap' : ((st.length : Nat) : Int) ≤ (cap : Int) := by omega);clear hv;clear hm;subst hmn;by_cases hcs : cap = st.length
        ·
         subst hcs;go_wp2_with (first
          | (go_at_call 63; refine (CPa _).mono ?_; rintro e w1 ⟨rfl, hb1⟩; have HH1 := Lib.hid (HH0.out.below hb1); clear hb1; obtain ⟨r0, r1, r2, r3, r4, r5, r6, r7, r8, r9, _⟩ := HH1.out)
          | (go_at_call 77; refine (COn _).mono ?_; rintro e w2 ⟨rfl, hb2⟩; have HH2 := Lib.hid (HH1.out.below hb2); clear hb2; obtain ⟨s0, s1, s2, s3, s4, s5, s6, s7, s8, s9, _⟩ := HH2.out; clear HH1))
         have HS0 := Lib.hid (HH2.out);refine wp_region_noPanic ?_;refine wp_region_held_drew (S := fun w' => NH wr w' wr.heap.size n) (by kernel_rfl) ?_ (fun hHeld => ?_)
         · (try dsimp only); exact NH.drew HS0.out
         clear HS0;have HBD := Lib.hid (NH.bel hHeld);generalize w2.drew = w3 at *;refine Tk.t 0 ?_;refine Tk.t 1 ?_;refine Tk.t 2 ?_;refine Tk.t 3 ?_;refine Tk.p 4 ?_;refine Tk.p 5 ?_;refine Tk.p 6 ?_;refine Tk.p 7 ?_;refine Tk.p 8 ?_;refine Tk.p 9 ?_;refine Tk.p 10 ?_;refine Tk.p 11 ?_;refine Tk.p 12 ?_;refine Tk.p 13 ?_;refine Tk.p 14 ?_;refine Tk.p 15 ?_;refine Tk.p 16 ?_;refine Tk.p 17 ?_;refine Tk.p 18 ?_;refine Tk.p 19 ?_;refine Tk.p 20 ?_;refine Tk.p 21 ?_;refine Tk.p 22 ?_;refine Tk.t 23 ?_;refine Tk.t 24 ?_;refine Tk.t 25 ?_;refine Tk.t 26 ?_;refine Tk.o 27 (fun K hK => ?_);go_simp
         (go_at_call 78; refine (CF.out _ (NH.bel hHeld)).mono ?_; rintro e w' ⟨rfl, hbl⟩)
         refine hK.out _ _ ?_ (fun hHeld => Tk.w ?_)
         · (try dsimp only); (exact NH.below hHeld hbl)
         clear hK K;refine Tk.t 28 ?_;refine Tk.t 29 ?_;refine Tk.d ?_;have HH3 := Lib.hid hHeld;clear hHeld HBD;have HOm := Lib.hid (own_below (own_take HO.out hm2) (HH3.out.bel));go_wp2_with (at_builtin; refine wpList_append_own _ rfl _ _ 36 rfl w.heap.size 3 i0 _ 1 8 Tryz.underlying36 hi hz0 hz1 hz2 rfl (by decide) _ _ _ rfl (HOm.out.alloc _) ⟨_, 0, none⟩ 1 1 [E (k : Nat)] rfl rfl (one_cell (heap_alloc_new _ _)) (one_one _) (by unfold maxLen; omega) (by omega) (by have h1 := HB.out.size; have h2 := HH3.out.bel.size; simp; omega) ?_);rintro v' w4 hown hgrow -;have HB4 := Lib.hid (((HB.out.trans (HH3.out.bel.mono HB.out.size)).alloc (by have h1 := HB.out.size; have h2 := HH3.out.bel.size; omega) _).grown hgrow (by have h1 := HB.out.size; have h2 := HH3.out.bel.size; simp; omega) (own_ge HOm.out));have HO4 : Hid (w4.ownsRow w.heap.size 3 1 v' (push n k st).length (ns (push n k st))) := Lib.hid (by rw [HPU.out]; have hh := hown; rw [List.take_of_length_le (by simp [ns])] at hh; simpa [ns] using hh);obtain ⟨bo', n', cap', rfl⟩ : ∃ bo' n' cap', v' = .slice bo' n' cap' := by
          rcases own_forms hown with ⟨rfl, _⟩ | ⟨g, cap, rfl, _⟩
          · exact ⟨_, _, _, rfl⟩
          · exact ⟨_, _, _, rfl⟩
         clear hown hgrow;go_wp2;go_roundw;(case rel => exact ⟨k + 1, push n k st, by omega, by go_num, Lib.hid (by rw [ordRun_succ HR.out hlt, HN.out, if_pos HOK.out]), HO4, HB4⟩);case measure => simp [intOf]; omega
        ·
         skip
         go_wp2_with (first
          | (go_at_call 63; refine (CPa _).mono ?_; rintro e w1 ⟨rfl, hb1⟩; have HH1 := Lib.hid (HH0.out.below hb1); clear hb1; obtain ⟨r0, r1, r2, r3, r4, r5, r6, r7, r8, r9, _⟩ := HH1.out)
          | (go_at_call 77; refine (COn _).mono ?_; rintro e w2 ⟨rfl, hb2⟩; have HH2 := Lib.hid (HH1.out.below hb2); clear hb2; obtain ⟨s0, s1, s2, s3, s4, s5, s6, s7, s8, s9, _⟩ := HH2.out; clear HH1))
         have HS0 := Lib.hid (HH2.out);refine wp_region_noPanic ?_;refine wp_region_held_drew (S := fun w' => NH wr w' wr.heap.size n) (by kernel_rfl) ?_ (fun hHeld => ?_)
         · (try dsimp only); exact NH.drew HS0.out
         clear HS0;have HBD := Lib.hid (NH.bel hHeld);generalize w2.drew = w3 at *;refine Tk.t 0 ?_;refine Tk.t 1 ?_;refine Tk.t 2 ?_;refine Tk.t 3 ?_;refine Tk.p 4 ?_;refine Tk.p 5 ?_;refine Tk.p 6 ?_;refine Tk.p 7 ?_;refine Tk.p 8 ?_;refine Tk.p 9 ?_;refine Tk.p 10 ?_;refine Tk.p 11 ?_;refine Tk.p 12 ?_;refine Tk.p 13 ?_;refine Tk.p 14 ?_;refine Tk.p 15 ?_;refine Tk.p 16 ?_;refine Tk.p 17 ?_;refine Tk.p 18 ?_;refine Tk.p 19 ?_;refine Tk.p 20 ?_;refine Tk.p 21 ?_;refine Tk.p 22 ?_;refine Tk.t 23 ?_;refine Tk.t 24 ?_;refine Tk.t 25 ?_;refine Tk.t 26 ?_;refine Tk.o 27 (fun K hK => ?_);go_simp
         (go_at_call 78; refine (CF.out _ (NH.bel hHeld)).mono ?_; rintro e w' ⟨rfl, hbl⟩)
         refine hK.out _ _ ?_ (fun hHeld => Tk.w ?_)
         · (try dsimp only); (exact NH.below hHeld hbl)
         clear hK K;refine Tk.t 28 ?_;refine Tk.t 29 ?_;refine Tk.d ?_;have HH3 := Lib.hid hHeld;clear hHeld HBD;have HOm := Lib.hid (own_below (own_take HO.out hm2) (HH3.out.bel));go_wp2_with (at_builtin; refine wpList_append_own _ rfl _ _ 36 rfl w.heap.size 3 i0 _ 1 8 Tryz.underlying36 hi hz0 hz1 hz2 rfl (by decide) _ _ _ rfl (HOm.out.alloc _) ⟨_, 0, none⟩ 1 1 [E (k : Nat)] rfl rfl (one_cell (heap_alloc_new _ _)) (one_one _) (by unfold maxLen; omega) (by omega) (by have h1 := HB.out.size; have h2 := HH3.out.bel.size; simp; omega) ?_);rintro v' w4 hown hgrow -;have HB4 := Lib.hid (((HB.out.trans (HH3.out.bel.mono HB.out.size)).alloc (by have h1 := HB.out.size; have h2 := HH3.out.bel.size; omega) _).grown hgrow (by have h1 := HB.out.size; have h2 := HH3.out.bel.size; simp; omega) (own_ge HOm.out));have HO4 : Hid (w4.ownsRow w.heap.size 3 1 v' (push n k st).length (ns (push n k st))) := Lib.hid (by rw [HPU.out]; have hh := hown; rw [List.take_of_length_le (by simp [ns])] at hh; simpa [ns] using hh);obtain ⟨bo', n', cap', rfl⟩ : ∃ bo' n' cap', v' = .slice bo' n' cap' := by
          rcases own_forms hown with ⟨rfl, _⟩ | ⟨g, cap, rfl, _⟩
          · exact ⟨_, _, _, rfl⟩
          · exact ⟨_, _, _, rfl⟩
         clear hown hgrow;go_wp2;go_roundw;(case rel => exact ⟨k + 1, push n k st, by omega, by go_num, Lib.hid (by rw [ordRun_succ HR.out hlt, HN.out, if_pos HOK.out]), HO4, HB4⟩);case measure => simp [intOf]; omega
      ·
       obtain ⟨g, cap', rfl, rfl, hcap⟩ : ∃ g cap', bo = some ⟨g, 0, none⟩ ∧ cap = cap' ∧ st.length ≤ cap' := by
        rcases own_forms HO.out with ⟨hv, h0⟩ | ⟨g, cap', hv, hcap⟩
        · exfalso; have := HM.out; omega
        · simp only [Value.slice.injEq, true_and] at hv; exact ⟨g, cap', hv.1, hv.2, hcap⟩
       (have hcap' : ((st.length : Nat) : Int) ≤ (cap : Int) := by omega);(have hms : m < st.length := by have := HM.out; omega);have Q10 := Lib.hid (own_cell HO.out hms);have HXL := Lib.hid (HLE.out _ (List.getElem_mem hms));have HX := Lib.hid (show st.drop m = st[m] :: st.drop (m + 1) from List.drop_eq_getElem_cons hms);generalize st[m] = x at Q10 HX HXL;by_cases hP1 : P = 1
       ·
        subst hP1;have HXE := Lib.hid (show st.drop (m + 1) = [] from by rw [List.drop_eq_nil_iff]; have := HM.out; omega);have HNK := Lib.hid (show n.k ≠ 4 from by intro q; have h1 := HP.out; unfold parts at h1; rw [if_pos (Or.inl q)] at h1; omega);by_cases hxa : (x : Int) = n.a
        ·
         (have hxB : ((x : Int) != n.a) = false := by rw [bne_eq_false_iff_eq]; exact hxa);have HXA := Lib.hid hxa;clear hxa;by_cases hfi : Fits l n
         ·
          have CF := Lib.hid (show ∀ W, Below wr.heap.size wr W → Calls Tryz.prog 78 #[.slice (some ⟨B0, o0, none⟩) l.length c, NV n] W fun e w' => e = .returned (.bool true) ∧ Below W.heap.size W w' from fun W hb => by
           have := HFT.out W hb (fun _ => ⟨x, by have := HXL.out; omega, HXA.out.symm⟩) (fun q => absurd q HNK.out)
           rwa [decide_eq_true hfi] at this)
          have HOK := Lib.hid (show StepOk l n st from ⟨ho, by rw [← HP.out]; omega, fun q => HK0.out q.1, by rw [HDR.out, HX.out, HXE.out]; exact HXA.out, hfi⟩);clear hfi;go_wp2_with (first
           | (go_at_call 63; refine (CPa _).mono ?_; rintro e w1 ⟨rfl, hb1⟩; have HH1 := Lib.hid (HH0.out.below hb1); clear hb1; obtain ⟨r0, r1, r2, r3, r4, r5, r6, r7, r8, r9, _⟩ := HH1.out)
           | (go_at_call 77; refine (COn _).mono ?_; rintro e w2 ⟨rfl, hb2⟩; have HH2 := Lib.hid (HH1.out.below hb2); clear hb2; obtain ⟨s0, s1, s2, s3, s4, s5, s6, s7, s8, s9, _⟩ := HH2.out; clear HH1))
          have HS0 := Lib.hid ((⟨(HH2.out.bel.cell (lt_cell Q10.out)).trans Q10.out, HH2.out⟩ : NH1 wr w2 wr.heap.size n g m x));refine wp_region_noPanic ?_;refine wp_region_held_drew (S := fun w' => NH1 wr w' wr.heap.size n g m x) (by kernel_rfl) ?_ (fun hHeld => ?_)
          · (try dsimp only); exact NH1.drew HS0.out
          clear HS0;have HBD := Lib.hid (NH1.bel hHeld);generalize w2.drew = w3 at *;refine Tk.t 0 ?_;refine Tk.t 1 ?_;refine Tk.t 2 ?_;refine Tk.t 3 ?_;refine Tk.t 4 ?_;refine Tk.t 5 ?_;refine Tk.t 6 ?_;refine Tk.t 7 ?_;refine Tk.t 8 ?_;refine Tk.t 9 ?_;refine Tk.t 10 ?_;refine Tk.t 11 ?_;refine Tk.t 12 ?_;refine Tk.t 13 ?_;refine Tk.t 14 ?_;refine Tk.p 15 ?_;refine Tk.p 16 ?_;refine Tk.p 17 ?_;refine Tk.p 18 ?_;refine Tk.p 19 ?_;refine Tk.p 20 ?_;refine Tk.t 21 ?_;refine Tk.t 22 ?_;refine Tk.t 23 ?_;refine Tk.t 24 ?_;refine Tk.t 25 ?_;refine Tk.t 26 ?_;refine Tk.o 27 (fun K hK => ?_);go_simp
          (go_at_call 78; refine (CF.out _ (NH1.bel hHeld)).mono ?_; rintro e w' ⟨rfl, hbl⟩)
          refine hK.out _ _ ?_ (fun hHeld => Tk.w ?_)
          · (try dsimp only); (exact NH1.below hHeld hbl)
          clear hK K;refine Tk.t 28 ?_;refine Tk.t 29 ?_;refine Tk.d ?_;have HH3 := Lib.hid hHeld;clear hHeld HBD;have HOm := Lib.hid (own_below (own_take HO.out hm2) (HH3.out.bel));go_wp2_with (at_builtin; refine wpList_append_own _ rfl _ _ 36 rfl w.heap.size 3 i0 _ 1 8 Tryz.underlying36 hi hz0 hz1 hz2 rfl (by decide) _ _ _ rfl (HOm.out.alloc _) ⟨_, 0, none⟩ 1 1 [E (k : Nat)] rfl rfl (one_cell (heap_alloc_new _ _)) (one_one _) (by unfold maxLen; omega) (by omega) (by have h1 := HB.out.size; have h2 := HH3.out.bel.size; simp; omega) ?_);rintro v' w4 hown hgrow -;have HB4 := Lib.hid (((HB.out.trans (HH3.out.bel.mono HB.out.size)).alloc (by have h1 := HB.out.size; have h2 := HH3.out.bel.size; omega) _).grown hgrow (by have h1 := HB.out.size; have h2 := HH3.out.bel.size; simp; omega) (own_ge HOm.out));have HO4 : Hid (w4.ownsRow w.heap.size 3 1 v' (push n k st).length (ns (push n k st))) := Lib.hid (by rw [HPU.out]; simpa [HM.out, ns] using hown);obtain ⟨bo', n', cap', rfl⟩ : ∃ bo' n' cap', v' = .slice bo' n' cap' := by
           rcases own_forms hown with ⟨rfl, _⟩ | ⟨g, cap, rfl, _⟩
           · exact ⟨_, _, _, rfl⟩
           · exact ⟨_, _, _, rfl⟩
          clear hown hgrow;go_wp2;go_roundw;(case rel => exact ⟨k + 1, push n k st, by omega, by go_num, Lib.hid (by rw [ordRun_succ HR.out hlt, HN.out, if_pos HOK.out]), HO4, HB4⟩);case measure => simp [intOf]; omega
         ·
          have CF := Lib.hid (show ∀ W, Below wr.heap.size wr W → Calls Tryz.prog 78 #[.slice (some ⟨B0, o0, none⟩) l.length c, NV n] W fun e w' => e = .returned (.bool false) ∧ Below W.heap.size W w' from fun W hb => by
           have := HFT.out W hb (fun _ => ⟨x, by have := HXL.out; omega, HXA.out.symm⟩) (fun q => absurd q HNK.out)
           rwa [decide_eq_false hfi] at this)
          have HFI := Lib.hid hfi;clear hfi;go_wp2_with (first
           | (go_at_call 63; refine (CPa _).mono ?_; rintro e w1 ⟨rfl, hb1⟩; have HH1 := Lib.hid (HH0.out.below hb1); clear hb1; obtain ⟨r0, r1, r2, r3, r4, r5, r6, r7, r8, r9, _⟩ := HH1.out)
           | (go_at_call 77; refine (COn _).mono ?_; rintro e w2 ⟨rfl, hb2⟩; have HH2 := Lib.hid (HH1.out.below hb2); clear hb2; obtain ⟨s0, s1, s2, s3, s4, s5, s6, s7, s8, s9, _⟩ := HH2.out; clear HH1))
          have HS0 := Lib.hid ((⟨(HH2.out.bel.cell (lt_cell Q10.out)).trans Q10.out, HH2.out⟩ : NH1 wr w2 wr.heap.size n g m x));refine wp_region_noPanic ?_;refine wp_region_held_drew (S := fun w' => NH1 wr w' wr.heap.size n g m x) (by kernel_rfl) ?_ (fun hHeld => ?_)
          · (try dsimp only); exact NH1.drew HS0.out
          clear HS0;have HBD := Lib.hid (NH1.bel hHeld);generalize w2.drew = w3 at *;refine Tk.t 0 ?_;refine Tk.t 1 ?_;refine Tk.t 2 ?_;refine Tk.t 3 ?_;refine Tk.t 4 ?_;refine Tk.t 5 ?_;refine Tk.t 6 ?_;refine Tk.t 7 ?_;refine Tk.t 8 ?_;refine Tk.t 9 ?_;refine Tk.t 10 ?_;refine Tk.t 11 ?_;refine Tk.t 12 ?_;refine Tk.t 13 ?_;refine Tk.t 14 ?_;refine Tk.p 15 ?_;refine Tk.p 16 ?_;refine Tk.p 17 ?_;refine Tk.p 18 ?_;refine Tk.p 19 ?_;refine Tk.p 20 ?_;refine Tk.t 21 ?_;refine Tk.t 22 ?_;refine Tk.t 23 ?_;refine Tk.t 24 ?_;refine Tk.t 25 ?_;refine Tk.t 26 ?_;refine Tk.o 27 (fun K hK => ?_);go_simp
          (go_at_call 78; refine (CF.out _ (NH1.bel hHeld)).mono ?_; rintro e w' ⟨rfl, hbl⟩)
          refine hK.out _ _ ?_ (fun hHeld => Tk.w ?_)
          · (try dsimp only); (exact NH1.below hHeld hbl)
          clear hK K;refine Tk.t 28 ?_;refine Tk.t 29 ?_;refine Tk.d ?_;have HH3 := Lib.hid hHeld;clear hHeld HBD;go_wp2;go_ret;exact HBAD.out _ (fun q => HFI.out q.2.2.2.2) (HB.out.trans (HH3.out.bel.mono HB.out.size))
        ·
         (have hxB : ((x : Int) != n.a) = true := by rw [bne_iff_ne]; exact hxa);have HXA := Lib.hid hxa;clear hxa;go_wp2_with (first
          | (go_at_call 63; refine (CPa _).mono ?_; rintro e w1 ⟨rfl, hb1⟩; have HH1 := Lib.hid (HH0.out.below hb1); clear hb1; obtain ⟨r0, r1, r2, r3, r4, r5, r6, r7, r8, r9, _⟩ := HH1.out)
          | (go_at_call 77; refine (COn _).mono ?_; rintro e w2 ⟨rfl, hb2⟩; have HH2 := Lib.hid (HH1.out.below hb2); clear hb2; obtain ⟨s0, s1, s2, s3, s4, s5, s6, s7, s8, s9, _⟩ := HH2.out; clear HH1))
         have HS0 := Lib.hid ((⟨(HH2.out.bel.cell (lt_cell Q10.out)).trans Q10.out, HH2.out⟩ : NH1 wr w2 wr.heap.size n g m x));refine wp_region_noPanic ?_;refine wp_region_held_drew (S := fun w' => NH1 wr w' wr.heap.size n g m x) (by kernel_rfl) ?_ (fun hHeld => ?_)
         · (try dsimp only); exact NH1.drew HS0.out
         clear HS0;have HBD := Lib.hid (NH1.bel hHeld);generalize w2.drew = w3 at *;refine Tk.t 0 ?_;refine Tk.t 1 ?_;refine Tk.t 2 ?_;refine Tk.t 3 ?_;refine Tk.t 4 ?_;refine Tk.t 5 ?_;refine Tk.t 6 ?_;refine Tk.t 7 ?_;refine Tk.t 8 ?_;refine Tk.t 9 ?_;refine Tk.t 10 ?_;refine Tk.p 11 ?_;refine Tk.p 12 ?_;refine Tk.p 13 ?_;refine Tk.p 14 ?_;refine Tk.p 15 ?_;refine Tk.p 16 ?_;refine Tk.p 17 ?_;refine Tk.p 18 ?_;refine Tk.p 19 ?_;refine Tk.p 20 ?_;refine Tk.p 21 ?_;refine Tk.t 22 ?_;refine Tk.t 23 ?_;refine Tk.t 24 ?_;refine Tk.p 25 ?_;refine Tk.p 26 ?_;refine Tk.p 27 ?_;refine Tk.p 28 ?_;refine Tk.t 29 ?_;refine Tk.d ?_;have HH3 := Lib.hid hHeld;clear hHeld HBD;go_wp2;go_ret;exact HBAD.out _ (fun q => HXA.out (by have h4 := q.2.2.2.1; rw [HDR.out, HX.out, HXE.out] at h4; exact h4)) (HB.out.trans (HH3.out.bel.mono HB.out.size))
       ·
        (obtain rfl : P = 2 := by omega);(have hms2 : m + 1 < st.length := by have := HM.out; omega);have Q11 := Lib.hid (own_cell HO.out hms2);have HYL := Lib.hid (HLE.out _ (List.getElem_mem hms2));have HY := Lib.hid (show st.drop (m + 1) = st[m + 1] :: st.drop (m + 2) from List.drop_eq_getElem_cons hms2);generalize st[m + 1] = y at Q11 HY HYL;by_cases hxa : (x : Int) = n.a
        ·
         (have hxB : ((x : Int) != n.a) = false := by rw [bne_eq_false_iff_eq]; exact hxa);have HXA := Lib.hid hxa;clear hxa;by_cases hyb : (y : Int) = n.b
         ·
          (have hyB : ((y : Int) != n.b) = false := by rw [bne_eq_false_iff_eq]; exact hyb);have HYB := Lib.hid hyb;clear hyb;by_cases hfi : Fits l n
          ·
           have CF := Lib.hid (show ∀ W, Below wr.heap.size wr W → Calls Tryz.prog 78 #[.slice (some ⟨B0, o0, none⟩) l.length c, NV n] W fun e w' => e = .returned (.bool true) ∧ Below W.heap.size W w' from fun W hb => by
            have := HFT.out W hb (fun _ => ⟨x, by have := HXL.out; omega, HXA.out.symm⟩) (fun _ => ⟨y, by have := HYL.out; omega, HYB.out.symm⟩)
            rwa [decide_eq_true hfi] at this)
           have HOK := Lib.hid (show StepOk l n st from ⟨ho, by rw [← HP.out]; omega, fun q => HK0.out q.1, by rw [HDR.out, HX.out, HY.out]; exact ⟨HXA.out, HYB.out⟩, hfi⟩);clear hfi;go_wp2_with (first
            | (go_at_call 63; refine (CPa _).mono ?_; rintro e w1 ⟨rfl, hb1⟩; have HH1 := Lib.hid (HH0.out.below hb1); clear hb1; obtain ⟨r0, r1, r2, r3, r4, r5, r6, r7, r8, r9, _⟩ := HH1.out)
            | (go_at_call 77; refine (COn _).mono ?_; rintro e w2 ⟨rfl, hb2⟩; have HH2 := Lib.hid (HH1.out.below hb2); clear hb2; obtain ⟨s0, s1, s2, s3, s4, s5, s6, s7, s8, s9, _⟩ := HH2.out; clear HH1))
           have HS0 := Lib.hid ((⟨⟨(HH2.out.bel.cell (lt_cell Q10.out)).trans Q10.out, (HH2.out.bel.cell (lt_cell Q11.out)).trans Q11.out⟩, HH2.out⟩ : NH2 wr w2 wr.heap.size n g m x y));refine wp_region_noPanic ?_;refine wp_region_held_drew (S := fun w' => NH2 wr w' wr.heap.size n g m x y) (by kernel_rfl) ?_ (fun hHeld => ?_)
           · (try dsimp only); exact NH2.drew HS0.out
           clear HS0;have HBD := Lib.hid (NH2.bel hHeld);generalize w2.drew = w3 at *;refine Tk.t 0 ?_;refine Tk.t 1 ?_;refine Tk.t 2 ?_;refine Tk.t 3 ?_;refine Tk.t 4 ?_;refine Tk.t 5 ?_;refine Tk.t 6 ?_;refine Tk.t 7 ?_;refine Tk.t 8 ?_;refine Tk.t 9 ?_;refine Tk.t 10 ?_;refine Tk.t 11 ?_;refine Tk.t 12 ?_;refine Tk.t 13 ?_;refine Tk.t 14 ?_;refine Tk.t 15 ?_;refine Tk.t 16 ?_;refine Tk.t 17 ?_;refine Tk.t 18 ?_;refine Tk.t 19 ?_;refine Tk.t 20 ?_;refine Tk.t 21 ?_;refine Tk.t 22 ?_;refine Tk.t 23 ?_;refine Tk.t 24 ?_;refine Tk.t 25 ?_;refine Tk.t 26 ?_;refine Tk.o 27 (fun K hK => ?_);go_simp
           (go_at_call 78; refine (CF.out _ (NH2.bel hHeld)).mono ?_; rintro e w' ⟨rfl, hbl⟩)
           refine hK.out _ _ ?_ (fun hHeld => Tk.w ?_)
           · (try dsimp only); (exact NH2.below hHeld hbl)
           clear hK K;refine Tk.t 28 ?_;refine Tk.t 29 ?_;refine Tk.d ?_;have HH3 := Lib.hid hHeld;clear hHeld HBD;have HOm := Lib.hid (own_below (own_take HO.out hm2) (HH3.out.bel));go_wp2_with (at_builtin; refine wpList_append_own _ rfl _ _ 36 rfl w.heap.size 3 i0 _ 1 8 Tryz.underlying36 hi hz0 hz1 hz2 rfl (by decide) _ _ _ rfl (HOm.out.alloc _) ⟨_, 0, none⟩ 1 1 [E (k : Nat)] rfl rfl (one_cell (heap_alloc_new _ _)) (one_one _) (by unfold maxLen; omega) (by omega) (by have h1 := HB.out.size; have h2 := HH3.out.bel.size; simp; omega) ?_);rintro v' w4 hown hgrow -;have HB4 := Lib.hid (((HB.out.trans (HH3.out.bel.mono HB.out.size)).alloc (by have h1 := HB.out.size; have h2 := HH3.out.bel.size; omega) _).grown hgrow (by have h1 := HB.out.size; have h2 := HH3.out.bel.size; simp; omega) (own_ge HOm.out));have HO4 : Hid (w4.ownsRow w.heap.size 3 1 v' (push n k st).length (ns (push n k st))) := Lib.hid (by rw [HPU.out]; simpa [HM.out, ns] using hown);obtain ⟨bo', n', cap', rfl⟩ : ∃ bo' n' cap', v' = .slice bo' n' cap' := by
            rcases own_forms hown with ⟨rfl, _⟩ | ⟨g, cap, rfl, _⟩
            · exact ⟨_, _, _, rfl⟩
            · exact ⟨_, _, _, rfl⟩
           clear hown hgrow;go_wp2;go_roundw;(case rel => exact ⟨k + 1, push n k st, by omega, by go_num, Lib.hid (by rw [ordRun_succ HR.out hlt, HN.out, if_pos HOK.out]), HO4, HB4⟩);case measure => simp [intOf]; omega
          ·
           have CF := Lib.hid (show ∀ W, Below wr.heap.size wr W → Calls Tryz.prog 78 #[.slice (some ⟨B0, o0, none⟩) l.length c, NV n] W fun e w' => e = .returned (.bool false) ∧ Below W.heap.size W w' from fun W hb => by
            have := HFT.out W hb (fun _ => ⟨x, by have := HXL.out; omega, HXA.out.symm⟩) (fun _ => ⟨y, by have := HYL.out; omega, HYB.out.symm⟩)
            rwa [decide_eq_false hfi] at this)
           have HFI := Lib.hid hfi;clear hfi;go_wp2_with (first
            | (go_at_call 63; refine (CPa _).mono ?_; rintro e w1 ⟨rfl, hb1⟩; have HH1 := Lib.hid (HH0.out.below hb1); clear hb1; obtain ⟨r0, r1, r2, r3, r4, r5, r6, r7, r8, r9, _⟩ := HH1.out)
            | (go_at_call 77; refine (COn _).mono ?_; rintro e w2 ⟨rfl, hb2⟩; have HH2 := Lib.hid (HH1.out.below hb2); clear hb2; obtain ⟨s0, s1, s2, s3, s4, s5, s6, s7, s8, s9, _⟩ := HH2.out; clear HH1))
           have HS0 := Lib.hid ((⟨⟨(HH2.out.bel.cell (lt_cell Q10.out)).trans Q10.out, (HH2.out.bel.cell (lt_cell Q11.out)).trans Q11.out⟩, HH2.out⟩ : NH2 wr w2 wr.heap.size n g m x y));refine wp_region_noPanic ?_;refine wp_region_held_drew (S := fun w' => NH2 wr w' wr.heap.size n g m x y) (by kernel_rfl) ?_ (fun hHeld => ?_)
           · (try dsimp only); exact NH2.drew HS0.out
           clear HS0;have HBD := Lib.hid (NH2.bel hHeld);generalize w2.drew = w3 at *;refine Tk.t 0 ?_;refine Tk.t 1 ?_;refine Tk.t 2 ?_;refine Tk.t 3 ?_;refine Tk.t 4 ?_;refine Tk.t 5 ?_;refine Tk.t 6 ?_;refine Tk.t 7 ?_;refine Tk.t 8 ?_;refine Tk.t 9 ?_;refine Tk.t 10 ?_;refine Tk.t 11 ?_;refine Tk.t 12 ?_;refine Tk.t 13 ?_;refine Tk.t 14 ?_;refine Tk.t 15 ?_;refine Tk.t 16 ?_;refine Tk.t 17 ?_;refine Tk.t 18 ?_;refine Tk.t 19 ?_;refine Tk.t 20 ?_;refine Tk.t 21 ?_;refine Tk.t 22 ?_;refine Tk.t 23 ?_;refine Tk.t 24 ?_;refine Tk.t 25 ?_;refine Tk.t 26 ?_;refine Tk.o 27 (fun K hK => ?_);go_simp
           (go_at_call 78; refine (CF.out _ (NH2.bel hHeld)).mono ?_; rintro e w' ⟨rfl, hbl⟩)
           refine hK.out _ _ ?_ (fun hHeld => Tk.w ?_)
           · (try dsimp only); (exact NH2.below hHeld hbl)
           clear hK K;refine Tk.t 28 ?_;refine Tk.t 29 ?_;refine Tk.d ?_;have HH3 := Lib.hid hHeld;clear hHeld HBD;go_wp2;go_ret;exact HBAD.out _ (fun q => HFI.out q.2.2.2.2) (HB.out.trans (HH3.out.bel.mono HB.out.size))
         ·
          (have hyB : ((y : Int) != n.b) = true := by rw [bne_iff_ne]; exact hyb);have HYB := Lib.hid hyb;clear hyb;go_wp2_with (first
           | (go_at_call 63; refine (CPa _).mono ?_; rintro e w1 ⟨rfl, hb1⟩; have HH1 := Lib.hid (HH0.out.below hb1); clear hb1; obtain ⟨r0, r1, r2, r3, r4, r5, r6, r7, r8, r9, _⟩ := HH1.out)
           | (go_at_call 77; refine (COn _).mono ?_; rintro e w2 ⟨rfl, hb2⟩; have HH2 := Lib.hid (HH1.out.below hb2); clear hb2; obtain ⟨s0, s1, s2, s3, s4, s5, s6, s7, s8, s9, _⟩ := HH2.out; clear HH1))
          have HS0 := Lib.hid ((⟨⟨(HH2.out.bel.cell (lt_cell Q10.out)).trans Q10.out, (HH2.out.bel.cell (lt_cell Q11.out)).trans Q11.out⟩, HH2.out⟩ : NH2 wr w2 wr.heap.size n g m x y));refine wp_region_noPanic ?_;refine wp_region_held_drew (S := fun w' => NH2 wr w' wr.heap.size n g m x y) (by kernel_rfl) ?_ (fun hHeld => ?_)
          · (try dsimp only); exact NH2.drew HS0.out
          clear HS0;have HBD := Lib.hid (NH2.bel hHeld);generalize w2.drew = w3 at *;refine Tk.t 0 ?_;refine Tk.t 1 ?_;refine Tk.t 2 ?_;refine Tk.t 3 ?_;refine Tk.t 4 ?_;refine Tk.t 5 ?_;refine Tk.t 6 ?_;refine Tk.t 7 ?_;refine Tk.t 8 ?_;refine Tk.t 9 ?_;refine Tk.t 10 ?_;refine Tk.t 11 ?_;refine Tk.t 12 ?_;refine Tk.t 13 ?_;refine Tk.t 14 ?_;refine Tk.t 15 ?_;refine Tk.t 16 ?_;refine Tk.t 17 ?_;refine Tk.t 18 ?_;refine Tk.t 19 ?_;refine Tk.t 20 ?_;refine Tk.t 21 ?_;refine Tk.t 22 ?_;refine Tk.t 23 ?_;refine Tk.t 24 ?_;refine Tk.p 25 ?_;refine Tk.p 26 ?_;refine Tk.p 27 ?_;refine Tk.p 28 ?_;refine Tk.t 29 ?_;refine Tk.d ?_;have HH3 := Lib.hid hHeld;clear hHeld HBD;go_wp2;go_ret;exact HBAD.out _ (fun q => HYB.out (by have h4 := q.2.2.2.1; rw [HDR.out, HX.out, HY.out] at h4; exact h4.2)) (HB.out.trans (HH3.out.bel.mono HB.out.size))
        ·
         (have hxB : ((x : Int) != n.a) = true := by rw [bne_iff_ne]; exact hxa);have HXA := Lib.hid hxa;clear hxa;go_wp2_with (first
          | (go_at_call 63; refine (CPa _).mono ?_; rintro e w1 ⟨rfl, hb1⟩; have HH1 := Lib.hid (HH0.out.below hb1); clear hb1; obtain ⟨r0, r1, r2, r3, r4, r5, r6, r7, r8, r9, _⟩ := HH1.out)
          | (go_at_call 77; refine (COn _).mono ?_; rintro e w2 ⟨rfl, hb2⟩; have HH2 := Lib.hid (HH1.out.below hb2); clear hb2; obtain ⟨s0, s1, s2, s3, s4, s5, s6, s7, s8, s9, _⟩ := HH2.out; clear HH1))
         have HS0 := Lib.hid ((⟨⟨(HH2.out.bel.cell (lt_cell Q10.out)).trans Q10.out, (HH2.out.bel.cell (lt_cell Q11.out)).trans Q11.out⟩, HH2.out⟩ : NH2 wr w2 wr.heap.size n g m x y));refine wp_region_noPanic ?_;refine wp_region_held_drew (S := fun w' => NH2 wr w' wr.heap.size n g m x y) (by kernel_rfl) ?_ (fun hHeld => ?_)
         · (try dsimp only); exact NH2.drew HS0.out
         clear HS0;have HBD := Lib.hid (NH2.bel hHeld);generalize w2.drew = w3 at *;refine Tk.t 0 ?_;refine Tk.t 1 ?_;refine Tk.t 2 ?_;refine Tk.t 3 ?_;refine Tk.t 4 ?_;refine Tk.t 5 ?_;refine Tk.t 6 ?_;refine Tk.t 7 ?_;refine Tk.t 8 ?_;refine Tk.t 9 ?_;refine Tk.t 10 ?_;refine Tk.p 11 ?_;refine Tk.p 12 ?_;refine Tk.p 13 ?_;refine Tk.p 14 ?_;refine Tk.p 15 ?_;refine Tk.p 16 ?_;refine Tk.p 17 ?_;refine Tk.p 18 ?_;refine Tk.p 19 ?_;refine Tk.p 20 ?_;refine Tk.p 21 ?_;refine Tk.t 22 ?_;refine Tk.t 23 ?_;refine Tk.t 24 ?_;refine Tk.p 25 ?_;refine Tk.p 26 ?_;refine Tk.p 27 ?_;refine Tk.p 28 ?_;refine Tk.t 29 ?_;refine Tk.d ?_;have HH3 := Lib.hid hHeld;clear hHeld HBD;go_wp2;go_ret;exact HBAD.out _ (fun q => HXA.out (by have h4 := q.2.2.2.1; rw [HDR.out, HX.out, HY.out] at h4; exact h4.1)) (HB.out.trans (HH3.out.bel.mono HB.out.size))
    ·
     (have hsub : IntKind.i64.wrap (((st.length : Nat) : Int) - (P : Int)) = ((st.length : Nat) : Int) - (P : Int) := by rw [IntKind.wrap_i64]; omega);(have hneg : ((st.length : Nat) : Int) - (P : Int) < 0 := by omega);go_wp2_with (first
      | (go_at_call 63; refine (CPa _).mono ?_; rintro e w1 ⟨rfl, hb1⟩; have HH1 := Lib.hid (HH0.out.below hb1); clear hb1; obtain ⟨r0, r1, r2, r3, r4, r5, r6, r7, r8, r9, _⟩ := HH1.out)
      | (go_at_call 77; refine (COn _).mono ?_; rintro e w2 ⟨rfl, hb2⟩; have HH2 := Lib.hid (HH1.out.below hb2); clear hb2; obtain ⟨s0, s1, s2, s3, s4, s5, s6, s7, s8, s9, _⟩ := HH2.out; clear HH1))
     go_ret;exact HBAD.out _ (fun q => hle (by rw [HP.out]; exact q.2.1)) (HB.out.trans (HH2.out.bel.mono HB.out.size))
   ·
    rw [decide_eq_false ho] at COn;have hsub : ∃ z, IntKind.i64.wrap (((st.length : Nat) : Int) - (P : Int)) = z := ⟨_, rfl⟩;obtain ⟨z, hsub⟩ := hsub;go_wp2_with (first
     | (go_at_call 63; refine (CPa _).mono ?_; rintro e w1 ⟨rfl, hb1⟩; have HH1 := Lib.hid (HH0.out.below hb1); clear hb1; obtain ⟨r0, r1, r2, r3, r4, r5, r6, r7, r8, r9, _⟩ := HH1.out)
     | (go_at_call 77; refine (COn _).mono ?_; rintro e w2 ⟨rfl, hb2⟩; have HH2 := Lib.hid (HH1.out.below hb2); clear hb2; obtain ⟨s0, s1, s2, s3, s4, s5, s6, s7, s8, s9, _⟩ := HH2.out; clear HH1))
    go_ret;exact HBAD.out _ (fun q => ho q.1) (HB.out.trans (HH2.out.bel.mono HB.out.size))
  ·
   (obtain rfl : k = l.length := by omega);obtain ⟨bo, cap, rfl⟩ : ∃ bo cap, u3 = .slice bo st.length cap := by
    rcases own_forms HO.out with ⟨rfl, h0⟩ | ⟨g, cap, rfl, _⟩
    · exact ⟨none, 0, by rw [h0]⟩
    · exact ⟨_, _, rfl⟩
   have HE := Lib.hid (show decide (Ordered l) = (((st.length : Nat) : Int) == 1) from by
    rw [Bool.eq_iff_iff, decide_eq_true_iff, beq_iff_eq];constructor
    · rintro ⟨i, hi⟩;rw [HR.out] at hi;rw [Option.some.inj hi]; rfl
    ·
     intro h1
     match st, h1 with
     | [i], _ => exact ⟨i, HR.out⟩)
   go_wp2;go_ret;exact ⟨by rw [HE.out]; rfl, HB.out⟩
theorem run_eq4r (a b c d a' b' c' d' : Nat) (q : Nat) (w : World) : (Op.equalIn (q + 2) 52 (.agg #[U a, U b, U c, U d]) (.agg #[U a', U b', U c', U d'])).run Tryz.prog w = .ok (decide (a = a' ∧ b = b' ∧ c = c' ∧ d = d')) w := by
 have u3 := Tryz.underlying51;have a3 := Tryz.isAgg51;have z3 := Tryz.sizeOf51;rw [show (q + 2 : Nat) = (q + 1) + 1 from rfl, Op.equalIn];simp only [Sem.run_bind, run_underlying Tryz.underlying52, Result.andThen_ok];simp only [Std.Legacy.Range.forIn_eq_forIn_range', Std.Legacy.Range.size, Nat.sub_zero, Nat.add_sub_cancel, Nat.div_one, List.range'_succ, List.range'_zero, List.forIn_cons, List.forIn_nil];by_cases ha : a = a'
 ·
  subst ha;by_cases hb : b = b'
  ·
   subst hb;by_cases hc : c = c'
   ·
    subst hc;by_cases hd : d = d'
    · subst hd; go_simp
    · (have hdB : ((d : Int) == d') = false := by simp; omega);go_simp
   · (have hdB : ((c : Int) == c') = false := by simp; omega);go_simp
  · (have hdB : ((b : Int) == b') = false := by simp; omega);go_simp
 · (have hdB : ((a : Int) == a') = false := by simp; omega);go_simp
theorem run_eqR (n m : Nd) (hn : Wf n.s) (hm : Wf m.s) (w : World) : (Op.equalIn 10000 75 (NV n) (NV m)).run Tryz.prog w = .ok (decide (n = m)) w := by
 obtain ⟨k, s, a, b, mn, mx, x⟩ := n;obtain ⟨k', s', a', b', mn', mx', x'⟩ := m;dsimp only at hn hm;(have H4 := fun W => run_eq4r (word s 0) (word s 1) (word s 2) (word s 3) (word s' 0) (word s' 1) (word s' 2) (word s' 3) 9997 W);(have ne : ∀ {p q : Int}, p ≠ q → (p == q) = false := fun h => by simpa using h);by_cases hk : k = k'
 ·
  subst hk;by_cases hs : s = s'
  ·
   subst hs;simp only [true_and, decide_true] at H4;by_cases ha : a = a'
   ·
    subst ha;by_cases hb : b = b'
    ·
     subst hb;by_cases hmn : mn = mn'
     ·
      subst hmn;by_cases hmx : mx = mx'
      ·
       subst hmx;by_cases hx : x = x'
       · subst hx;go_simp
       · have hB := ne hx;rw [decide_eq_false (by simpa using hx)];go_simp
      · have hB := ne hmx;rw [decide_eq_false (by simp [hmx])];go_simp
     · have hB := ne hmn;rw [decide_eq_false (by simp [hmn])];go_simp
    · have hB := ne hb;rw [decide_eq_false (by simp [hb])];go_simp
   · have hB := ne ha;rw [decide_eq_false (by simp [ha])];go_simp
  ·
   have h4 : (decide (word s 0 = word s' 0 ∧ word s 1 = word s' 1 ∧ word s 2 = word s' 2 ∧ word s 3 = word s' 3)) = false := by
    rw [decide_eq_false_iff_not, ← word_eq hn hm]; exact hs
   simp only [h4] at H4;rw [decide_eq_false (by simp [hs])];go_simp
 · have hB := ne hk;rw [decide_eq_false (by simp [hk])];go_simp
end Go.Proofs.YtlicoffnjphphaaGreatDoor.Rx
