/- The texts RxSh. -/
import Derived.ProofKit
import Derived.OpenShut
import Derived.Carry
import Derived.Lib.SmallJoins
import Derived.Deep.Grids
import Derived.Laws.IdiomArrays
import Derived.Lib.LaidTab
import Derived.Test.YthpiapemjadgdaaGreatDoorBk08
import Derived.Test.YthpiapemjadgdaaGreatDoorBk17
import Derived.Test.YthpiapemjadgdaaGreatDoorBk19
import Derived.Test.YthpiapemjadgdaaGreatDoorBk28
set_option linter.unusedVariables false
set_option linter.unusedSimpArgs false
set_option maxHeartbeats 800000
set_option maxRecDepth 100000
namespace Go.Proofs.YthpiapemjadgdaaGreatDoor.Rx
open Go.RowKit Go.Shelf
open Tr
open Go.Proofs.YthpiapemjadgdaaGreatDoor.St (Wf word zeroW SV SV_eq ofL wf_ofL of_any bytesL)
def T1 : Tr := .cat (.set (ofL [97])) (.times 0 (-1) (.set (ofL [98])))
theorem bytes_97 : bytesL (ofL [97]) = [97] := by decide +kernel
theorem bytes_98 : bytesL (ofL [98]) = [98] := by decide +kernel
theorem t1_text : textT T1 = [38, 91, 54, 49, 93, 42, 48, 44, 45, 49, 59, 91, 54, 50, 93] := by
 (have e0 : Lib.itoa 0 = [48] := by rw [itoa_digit (by decide) (by decide)]; rfl);have e1 : Lib.itoa (-1) = [45, 49] := by
  unfold Lib.itoa;rw [if_pos (by decide), show Int.natAbs (-1) = 1 from rfl, Lib.decDigits, dif_pos (by decide)];rfl
 unfold T1 textT textT textT;rw [e0, e1, bytes_97, bytes_98];rfl
theorem t1_good : Good T1 := by
 refine ⟨?_, by decide, by decide⟩;unfold Whole T1 Fine Fine Fine;refine ⟨by decide, ⟨by decide, by decide, by decide, Or.inl rfl, Or.inl rfl⟩, by decide, by decide, by decide⟩
theorem t1_sets : SetsOk T1 := ⟨wf_ofL _, wf_ofL _⟩
theorem t1_nodes : (T1.nodes 0).length = 4 ∧ (T1.nodes 0)[0]? = some ⟨1, ofL [97], 0, 0, 0, 0, 0⟩ := ⟨rfl, rfl⟩
theorem groups_1 : groupsL (T1.nodes 0) = 0 := by
 unfold groupsL;rw [patOf_good t1_good];rfl
theorem eql_set {s : List Nat} (h : Wf s) (W : World) : (binOp .eql 45 (.agg #[U (word s 0), U (word s 1), U (word s 2), U (word s 3)]) (.agg #[U (word s 0), U (word s 1), U (word s 2), U (word s 3)])).run Tryz.prog W = .ok (.bool true) W := by
 rw [run_eql_struct, show (10000 : Nat) = 9998 + 2 from rfl, run_eq4g];simp
/-- What the last region holds. -/
structure SH (w : World) (sa : List Nat) (l : List Nd) (g cap : Nat) (w' : World) : Prop where
 ns : Ns w' (.slice (some ⟨g, 0, none⟩) 4 cap) l
 bel : Below w.heap.size w w'
 n0 : l[0]? = some ⟨1, sa, 0, 0, 0, 0, 0⟩
 l4 : l.length = 4
theorem SH.below {w w1 w2 : World} {sa : List Nat} {l : List Nd} {g cap : Nat} (h : SH w sa l g cap w1) (hb : Below w1.heap.size w1 w2) : SH w sa l g cap w2 :=
 ⟨h.ns.below hb, h.bel.trans (hb.mono h.bel.size), h.n0, h.l4⟩
theorem SH.cells {w w' : World} {sa : List Nat} {l : List Nd} {g cap : Nat} (h : SH w sa l g cap w') :
  w'.cell? ⟨g, 1, none⟩ = some (U (word sa 0)) ∧ w'.cell? ⟨g, 2, none⟩ = some (U (word sa 1)) ∧ w'.cell? ⟨g, 3, none⟩ = some (U (word sa 2)) ∧ w'.cell? ⟨g, 4, none⟩ = some (U (word sa 3)) := by
 have h4 := h.l4;obtain ⟨B, o, hq, q0, q1, q2, q3, q4, _⟩ := h.ns.at (i := 0) (by omega);simp only [Option.some.injEq, Addr.mk.injEq, and_true] at hq;obtain ⟨rfl, rfl⟩ := hq;have e : l[0]'(by omega) = ⟨1, sa, 0, 0, 0, 0, 0⟩ := by
  have := h.n0;rw [List.getElem?_eq_getElem (by omega)] at this;exact Option.some.inj this
 rw [e] at q1 q2 q3 q4;simp only [Nat.zero_mul, Nat.zero_add] at q1 q2 q3 q4;exact ⟨q1, q2, q3, q4⟩
open Go.RowKit Go.ChangeShapes Go.WideShapes Go.Joins Go.Deep
open Go.Proofs.YthpiapemjadgdaaGreatDoor.St (Wf word Tab)
theorem laidOut : laidOutB Tryz.prog = true := by kernel_rfl
/-- What reads as it did, all arguments at once. -/
theorem carryAll {H : Type} {enc : TypeId × Value → H} {W W' : World} (hb : Below W.heap.size W W') : ∀ {ts : List TypeId} {vs : List Value} {ds : List (DataW H)} {ps : List MemPlace},
  (∀ t ∈ ts, Tryz.prog.readableRec t = true ∧ t < Tryz.prog.types.size) → DataW.TrodAll enc Tryz.prog W 0 (fun _ => true) true ts vs ds ps → (∀ x ∈ ps, x.block < W.heap.size) →
  DataW.TrodAll enc Tryz.prog W' 0 (fun b => decide (b < W.heap.size)) true ts vs ds ps
 | [], vs, ds, ps, _, h, _ => by
  obtain ⟨rfl, rfl, rfl⟩ := trodAll_nil h;exact trodAll_mk0
 | t :: ts, vs, ds, ps, hr, h, hl => by
  obtain ⟨v, vs', d, ds', p, q, rfl, rfl, rfl, h0, hs⟩ := trodAll_cons h;exact trodAll_cons_mk (Below.trod laidOut (hr t (by simp)).1 (hr t (by simp)).2 h0 hb (fun x hx => hl x (by simp [hx])))
   (carryAll hb (fun u hu => hr u (by simp [hu])) hs (fun x hx => hl x (by simp [hx])))
theorem cellsNd : Tryz.prog.cellsOf 48 = 10 := by kernel_rfl
theorem cellsIn : Tryz.prog.cellsOf 3 = 1 := by kernel_rfl
theorem cellsU64 : Tryz.prog.cellsOf 43 = 1 := by kernel_rfl
theorem cellsSet : Tryz.prog.cellsOf 45 = 4 := by kernel_rfl
theorem u64_nat {a : Int} (h : (Lit.int .u64 a).wf = true) : ∃ n : Nat, a = (n : Int) ∧ n < 2 ^ 64 := by
 simp [Lit.wf, IntKind.min, IntKind.max, IntKind.signed, IntKind.bits] at h;exact ⟨a.toNat, by omega, by omega⟩
section
variable {H : Type} {enc : TypeId × Value → H} {w : World} {base : Nat} {held : Bool} {r : Reach} {b0 : Nat} {v : Value} {d : DataW H} {ps : List MemPlace}
theorem trod_set {spare : Nat → Bool} {n : Nat} {c0 c1 c2 c3 : Value} {x : DataW H × List MemPlace} (h : DataW.trod enc Tryz.prog w base spare held n 45 [c0, c1, c2, c3] = some x) : ∃ s : List Nat, Wf s ∧ c0 = U (word s 0) ∧ c1 = U (word s 1) ∧ c2 = U (word s 2) ∧ c3 = U (word s 3) := by
 obtain ⟨y0, y1, y2, y3, n, hx, h0, h1, h2, h3⟩ := trod_array4 Tryz.underlying45 cellsU64 h;obtain ⟨n0, e0, rfl, w0⟩ := DataW.trod_int Tryz.underlying43 h0;obtain ⟨n1, e1, rfl, w1⟩ := DataW.trod_int Tryz.underlying43 h1;obtain ⟨n2, e2, rfl, w2⟩ := DataW.trod_int Tryz.underlying43 h2;obtain ⟨n3, e3, rfl, w3⟩ := DataW.trod_int Tryz.underlying43 h3;obtain ⟨n0, rfl, b0⟩ := u64_nat w0;obtain ⟨n1, rfl, b1⟩ := u64_nat w1;obtain ⟨n2, rfl, b2⟩ := u64_nat w2;obtain ⟨n3, rfl, b3⟩ := u64_nat w3;(obtain rfl : c0 = _ := by simpa using e0);(obtain rfl : c1 = _ := by simpa using e1);(obtain rfl : c2 = _ := by simpa using e2);(obtain rfl : c3 = _ := by simpa using e3);exact ⟨[n0, n1, n2, n3], ⟨rfl, by simp [b0, b1, b2, b3]⟩, rfl, rfl, rfl, rfl⟩
instance : Inhabited Nd := ⟨⟨0, z4, 0, 0, 0, 0, 0⟩⟩
/-- Nodes that are handed in. -/
theorem open_nodes (hv : Value.okWide Tryz.prog w r b0 22 v) (hd : DataW.Trod enc Tryz.prog w base (fun _ => true) held 22 v d ps) : ∃ (ao : Option Addr) (c : Nat) (l : List Nd), v = .slice ao l.length c ∧ l.length ≤ maxLen ∧ Ns w (.slice ao l.length c) l ∧ ∀ n ∈ l, Wf n.s := by
 obtain ⟨a0, l0, c0, rfl⟩ := okWide_slice Tryz.underlying22 hv;obtain ⟨fuel, hf⟩ := hd;rcases open_slice Tryz.underlying22 hf with ⟨e, _⟩ | ⟨a, len, cap, m, n, D, Pl, hcs, hb, hl, hm, hmm, hx, hi⟩
 · simp only [Value.cells, List.cons.injEq, and_true] at e;(obtain ⟨rfl, rfl, rfl⟩ : a0 = none ∧ l0 = 0 ∧ c0 = 0 := by simpa using e);exact ⟨none, 0, [], rfl, by simp, ⟨none, 0, rfl, fun i hi => absurd hi (by simp)⟩, by simp⟩
 ·
  (obtain ⟨rfl, rfl, rfl⟩ : a0 = some a ∧ l0 = len ∧ c0 = cap := by simpa [Value.cells] using hcs);have hsp0 : 0 < l0 → a.spot = none := fun h0 => by
   obtain ⟨cs', hc, _⟩ := hi 0 (by simp at hmm; omega);rw [cellsNd] at hc;obtain ⟨_, hcl, hat⟩ := World.cells?_some hc;have g := World.cell?_spot ((hat 0 (by omega)).trans (List.getElem?_eq_getElem (by rw [hcl]; omega)));simpa [Addr.add] using g
  obtain ⟨f, hF⟩ := choose_lt (α := Nd) (n := l0) (p := fun i q => a.spot = none ∧ NCell w a.block (a.off + i * 10) q ∧ Wf q.s) (fun i hlt => by
   obtain ⟨cs', hc, ht'⟩ := hi i (by simp at hmm; omega);rw [cellsNd] at hc;obtain ⟨ys, n', _, _, hlen, hyl, hf⟩ := DataW.trod_struct Tryz.underlying48 ht';(have hz : ∀ i : Nat, i < 7 → ∃ y, ys[i]? = some y := fun i hi => ⟨_, List.getElem?_eq_getElem (by rw [hyl]; exact hi)⟩);obtain ⟨z0, hz0⟩ := hz 0 (by omega);obtain ⟨z1, hz1⟩ := hz 1 (by omega);obtain ⟨z2, hz2⟩ := hz 2 (by omega);obtain ⟨z3, hz3⟩ := hz 3 (by omega);obtain ⟨z4', hz4⟩ := hz 4 (by omega);obtain ⟨z5, hz5⟩ := hz 5 (by omega);obtain ⟨z6, hz6⟩ := hz 6 (by omega);obtain ⟨_, hcl, hat⟩ := World.cells?_some hc;rw [cellsNd] at hlen
   match cs', hlen with
   | [v0, v1, v2, v3, v4, v5, v6, v7, v8, v9], _ =>
    obtain ⟨x0, e0, _, w0⟩ := DataW.trod_int Tryz.underlying3 ((hf 0 _ rfl).trans hz0);have h1 := (hf 1 _ rfl).trans hz1;obtain ⟨x2, e2, _, w2⟩ := DataW.trod_int Tryz.underlying3 ((hf 2 _ rfl).trans hz2);obtain ⟨x3, e3, _, w3⟩ := DataW.trod_int Tryz.underlying3 ((hf 3 _ rfl).trans hz3);obtain ⟨x4, e4, _, w4⟩ := DataW.trod_int Tryz.underlying3 ((hf 4 _ rfl).trans hz4);obtain ⟨x5, e5, _, w5⟩ := DataW.trod_int Tryz.underlying3 ((hf 5 _ rfl).trans hz5);obtain ⟨x6, e6, _, w6⟩ := DataW.trod_int Tryz.underlying3 ((hf 6 _ rfl).trans hz6);simp [cellsIn] at e0 e2 e3 e4 e5 e6;subst e0 e2 e3 e4 e5 e6;simp [cellsSet] at h1;obtain ⟨s, hs, rfl, rfl, rfl, rfl⟩ := trod_set h1;have hsp := hsp0 (by omega);refine ⟨⟨x0, s, x2, x3, x4, x5, x6⟩, hsp, ?_, hs⟩;obtain ⟨ab, ao, asp⟩ := a;dsimp only at hsp;subst hsp;(have hg : ∀ j, j < 10 → (((⟨ab, ao, none⟩ : Addr).add (i * 10)).add j) = ⟨ab, ao + i * 10 + j, none⟩ := fun j _ => by rw [Addr.add_lit, Addr.add_lit]);(have k : ∀ (j : Nat), j < 10 → w.cell? ⟨ab, ao + i * 10 + j, none⟩ = w.cell? (((⟨ab, ao, none⟩ : Addr).add (i * 10)).add j) := fun j hj => by rw [hg j hj]);exact ⟨(k 0 (by decide)).trans (hat 0 (by omega)), (k 1 (by decide)).trans (hat 1 (by omega)), (k 2 (by decide)).trans (hat 2 (by omega)), (k 3 (by decide)).trans (hat 3 (by omega)), (k 4 (by decide)).trans (hat 4 (by omega)), (k 5 (by decide)).trans (hat 5 (by omega)), (k 6 (by decide)).trans (hat 6 (by omega)), (k 7 (by decide)).trans (hat 7 (by omega)), (k 8 (by decide)).trans (hat 8 (by omega)), (k 9 (by decide)).trans (hat 9 (by omega))⟩)
  (have hsz : ((List.range l0).map f).length = l0 := by simp);refine ⟨some a, c0, (List.range l0).map f, by simp, by simp; omega, ?_, ?_⟩
  · refine ⟨some a, c0, rfl, fun i hi' => ?_⟩;(have hil : i < l0 := by simpa using hi');(have e : ((List.range l0).map f)[i] = f i := by simp);rw [e];obtain ⟨hs, hn, _⟩ := hF i hil;obtain ⟨ab, ao, asp⟩ := a;dsimp only at hs;subst hs;exact ⟨ab, ao, rfl, hn⟩
  · intro n hn;obtain ⟨i, hi', rfl⟩ := List.mem_map.1 hn;exact (hF i (by simpa using hi')).2.2
end
theorem lt_of_cell {W : World} {g j : Nat} {v : Value} (h : W.cell? ⟨g, j, none⟩ = some v) : g < W.heap.size := by
 rcases Nat.lt_or_ge g W.heap.size with hl | hl
 · exact hl
 · exfalso;have hn : W.heap[g]? = none := Array.getElem?_eq_none hl;simp [World.cell?, hn] at h
theorem tab_of {W : World} (h : Go.Lib.TabIs Tryz.prog W "math/bits.deBruijn64tab" .u8 (Go.Lib.deBruijn64tab.map fun n : Nat => (n : Int))) (hg : Tryz.prog.globalNamed "math/bits.deBruijn64tab" = some 2) : Tab W ∧ 2 < W.heap.size := by
 have hc : ∀ j, j < Go.Lib.deBruijn64tab.length → W.cell? ⟨2, j, none⟩ = some (.int .u8 (Go.Lib.deBruijn64tab.getD j 0 : Nat)) := by
  intro j hj;rw [h.cell hg j (by simpa using hj)];simp [List.getD, hj]
 exact ⟨hc, lt_of_cell (hc 0 (by decide))⟩
theorem errs_of {W : World} {a b : Value} (h1 : W.cell? ⟨3, 0, none⟩ = some a) (h2 : W.cell? ⟨4, 0, none⟩ = some b)
  (e1 : a = .nilIface ∨ ∃ te pe, a = .iface te pe) (e2 : b = .nilIface ∨ ∃ te pe, b = .iface te pe) : Errs W :=
 ⟨⟨a, h1, e1⟩, ⟨b, h2, e2⟩, lt_of_cell h1, lt_of_cell h2⟩
open Go.Proofs.YthpiapemjadgdaaGreatDoor.St (Wf word zeroW Tab SV SV_eq)
/-- What is told is not too long. -/
theorem textL_len (l : List Nd) : (textL l).length ≤ 100000 := by
 unfold textL;cases hp : patOf l with
 | none => exact Nat.zero_le _
 | some t =>
  obtain ⟨rfl, hg⟩ := patOf_some hp;have := text_len _ t hg.1;have := hg.2.1;show (textT t).length ≤ _;omega
theorem may_some {l : List Nd} (h : mayL l = true) : ∃ t, patOf l = some t ∧ l = t.nodes 0 ∧ Good t ∧ textL l = textT t := by
 unfold mayL at h;obtain ⟨t, ht⟩ := Option.isSome_iff_exists.1 h;obtain ⟨h1, h2⟩ := patOf_some ht;exact ⟨t, ht, h1, h2, by unfold textL; rw [ht]⟩
theorem may_none {l : List Nd} (h : mayL l = false) : textL l = [] := by
 unfold mayL at h;have : patOf l = none := by
  cases hp : patOf l with
  | none => rfl
  | some t => rw [hp] at h; cases h
 unfold textL;rw [this]
theorem parse_back {l : List Nd} (hw : ∀ n ∈ l, Wf n.s) (h : mayL l = true) : parseL (textL l) = some l := by
 obtain ⟨t, _, h1, h2, h3⟩ := may_some h;rw [h3];rw [parse_text h2 (sets_nodes t 0 (by rw [← h1]; exact hw)), h1]
end Go.Proofs.YthpiapemjadgdaaGreatDoor.Rx
