/- The texts St1 StPop SlA RxFmt RxPu RxC. -/
import Derived.Test.YtlicoffnjphphaaGreatDoorChecked
import Derived.WalkKit
import Derived.WalkLawsBesides
import Derived.WalkSpells
import Derived.RowKit3
import Derived.Lib.Hide
import Derived.StillTailTactics
import Derived.Lib.Builder
import Derived.BigRegion
import Derived.Laws.BitsAllLaws
import Derived.Laws.Bits128
import Derived.RangeFuncNested
import Derived.RangeFuncBound
import Derived.RangeFuncCalls
import Derived.RangeFuncLeaves
import Derived.Shelf.Abstract
import Derived.Shelf.RegionOpen
import Derived.OwnWalkIn
import Derived.TacticsInMore
import Derived.LoopNIn
import Derived.LoopIn
import Derived.Shelf.Spec.TrailingZeros
import Derived.OwnWalk
import Derived.Lib.SmallJoins
import Derived.Test.YtlicoffnjphphaaGreatDoorQk01
import Derived.Test.YtlicoffnjphphaaGreatDoorQk05
set_option linter.unusedVariables false
set_option linter.unusedSimpArgs false
set_option maxHeartbeats 3200000
set_option maxRecDepth 100000
namespace Go.Proofs.YtlicoffnjphphaaGreatDoor.St
open Go.RowKit
abbrev wc (ws : List Nat) : Array Value := (ws.map fun n : Nat => Value.int .u64 (n : Int)).toArray
abbrev SV (ws : List Nat) : Value := .agg (wc ws)
abbrev SB (w : World) (b : Nat) (ws : List Nat) : Prop := w.heap[b]? = some (.cells (wc ws) 53 (0, 0))
theorem SB.cell {w : World} {b : Nat} {ws : List Nat} (h : SB w b ws) (hw : Wf ws) {i : Nat} (hi : i < 4) : w.cell? ⟨b, i, none⟩ = some (.int .u64 (word ws i : Int)) := by
 rw [Lib.cell_of_heap h]; simp [word_get hw hi]
theorem heap_set_at {w : World} {b : Nat} {c : Array Value} {t : TypeId} {f : Nat × Nat} (h : w.heap[b]? = some (.cells c t f)) (i : Nat) (v : Value) : (w.setCell ⟨b, i, none⟩ v).heap[b]? = some (.cells (c.setIfInBounds i v) t f) := by
 simp only [World.setCell, Array.getElem?_modify, if_true, h]; rfl
theorem heap_set_other {w : World} {b b' : Nat} {o : Obj} (h : w.heap[b']? = some o) (hb : b ≠ b') (i : Nat) (v : Value) : (w.setCell ⟨b, i, none⟩ v).heap[b']? = some o := by
 simp only [World.setCell, Array.getElem?_modify, h];rw [if_neg hb]
theorem SB.set {w : World} {b : Nat} {ws : List Nat} (h : SB w b ws) (i v : Nat) : SB (w.setCell ⟨b, i, none⟩ (.int .u64 (v : Int))) b (ws.set i v) := by
 unfold SB;rw [heap_set_at h];simp [wc, List.map_set]
theorem SV_eq {ws : List Nat} (h : Wf ws) : SV ws = .agg #[.int .u64 (word ws 0 : Int), .int .u64 (word ws 1 : Int), .int .u64 (word ws 2 : Int), .int .u64 (word ws 3 : Int)] := by
 obtain ⟨hl, _⟩ := h
 match ws, hl with
 | [a, b, c, d], _ => rfl
theorem SB.drew {w : World} {b : Nat} {ws : List Nat} (h : SB w b ws) : SB w.drew b ws := h
theorem pow64 (c : Nat) : 2 ^ (c % 64) < 18446744073709551616 := Nat.pow_lt_pow_right (a := 2) (n := 64) (by decide) (Nat.mod_lt _ (by decide))
theorem wrap_pow (c : Nat) : IntKind.u64.wrap (2 ^ (c % 64)) = ((2 ^ (c % 64) : Nat) : Int) := by
 rw [IntKind.wrap_u64];have : (2 ^ (c % 64) : Nat) < 18446744073709551616 := pow64 c;(have e : ((2 ^ (c % 64) : Nat) : Int) = (2 : Int) ^ (c % 64) := by simp);rw [← e];generalize 2 ^ (c % 64) = p at *;omega
theorem or_word {ws : List Nat} (h : Wf ws) (i c : Nat) : bits BinOp.or IntKind.u64 (word ws i : Int) (IntKind.u64.wrap (2 ^ (c % 64))) = ((word ws i ||| 2 ^ (c % 64) : Nat) : Int) := by
 rw [wrap_pow];exact u64_or_nat _ _ (word_lt h i) (pow64 c)
theorem SB.same {w : World} {b : Nat} {ws : List Nat} (h : SB w b ws) (hw : Wf ws) {i : Nat} (hi : i < 4) : SB (w.setCell ⟨b, i, none⟩ (.int .u64 (word ws i : Int))) b ws := by
 have h1 := h.set i (word ws i);have : ws.set i (word ws i) = ws := by
  apply List.ext_getElem?;intro k;rw [List.getElem?_set];by_cases hk : i = k
  · subst hk;rw [if_pos rfl, if_pos (by rw [hw.len]; exact hi), word_get hw hi]
  · rw [if_neg hk]
 rwa [this] at h1
theorem SB.again {w : World} {b : Nat} {ws : List Nat} (h : SB w b ws) (hw : Wf ws) :
  SB ((((w.setCell ⟨b, 0, none⟩ (.int .u64 (word ws 0 : Int))).setCell ⟨b, 1, none⟩ (.int .u64 (word ws 1 : Int))).setCell ⟨b, 2, none⟩ (.int .u64 (word ws 2 : Int))).setCell ⟨b, 3, none⟩ (.int .u64 (word ws 3 : Int))) b ws :=
 (((h.same hw (by omega)).same hw (by omega)).same hw (by omega)).same hw (by omega)
theorem below_again {B : Nat} {w0 w : World} {b : Nat} (h : Below B w0 w) (hb : B ≤ b) (x0 x1 x2 x3 : Value) :
  Below B w0 ((((w.setCell ⟨b, 0, none⟩ x0).setCell ⟨b, 1, none⟩ x1).setCell ⟨b, 2, none⟩ x2).setCell ⟨b, 3, none⟩ x3) :=
 (((h.setCell (p := ⟨b, 0, none⟩) hb _).setCell (p := ⟨b, 1, none⟩) hb _).setCell (p := ⟨b, 2, none⟩) hb _).setCell (p := ⟨b, 3, none⟩) hb _
theorem of_any (l : List UInt8) (w : World) (hl : l.length ≤ 1000000) :
  Calls Tryz.prog 83 #[.string ⟨l.toArray⟩] w fun e w' => e = .returned (SV (ofL l)) ∧ Below w.heap.size w w' := by
 go_enter Tryz.func83, Tryz.ntmps83;go_wp2;go_loopw [3, 6] (fun _ i wr => ∃ k : Nat, k ≤ l.length ∧ i = .int .i64 k ∧ SB wr w.heap.size (ofL (l.take k)) ∧ Below w.heap.size w wr) (fun _ i _ => l.length - (intOf i).toNat);(case atStart => exact ⟨0, Nat.zero_le _, rfl, heap_alloc_new w _, (Below.refl _ w).alloc (Nat.le_refl _) _⟩);case round =>
  obtain ⟨k, hk, rfl, hS, hB⟩ := hrel;by_cases hlt : k < l.length
  · have hcell : ((ByteArray.mk l.toArray)[k]'hlt) = l[k] := rfl;have hw := wf_ofL (l.take k);(have hsn : ofL (l.take (k + 1)) = add1 (ofL (l.take k)) l[k].toNat := by rw [List.take_succ_eq_append_getElem hlt, ofL_snoc]);have HSN := Lib.hid hsn;clear hsn;generalize ofL (l.take k) = ws at *;have hc0 := UInt8.toNat_lt l[k];(have en : ((l[k].toNat : Int) / 64).toNat = l[k].toNat / 64 := by omega);have c1 := hS.cell hw (i := ((l[k].toNat : Int) / 64).toNat) (by omega);have f1 := Lib.frozen_of_heap hS ((l[k].toNat : Int) / 64).toNat;have c1' := hS.cell hw (i := l[k].toNat / 64) (by omega);have f1' := Lib.frozen_of_heap hS (l[k].toNat / 64);clear en;(have h0 : 0 ≤ (l[k].toNat : Int) / 64 := by omega);(have h1 : (l[k].toNat : Int) / 64 < 4 := by omega);generalize l[k] = c at *;have ho := or_word hw (c.toNat / 64) c.toNat;go_wp2;go_region;go_wp2;go_roundw;(case rel => exact ⟨k + 1, by omega, by go_num, by rw [HSN.out]; exact SB.set hS _ _, hB.drew.setCell (Nat.le_refl _) _⟩);case measure => simp [intOf]; omega
  · (obtain rfl : k = l.length := by omega);have hw := wf_ofL (l.take l.length);have g0 := hS.cell hw (i := 0) (by omega);have g1 := hS.cell hw (i := 1) (by omega);have g2 := hS.cell hw (i := 2) (by omega);have g3 := hS.cell hw (i := 3) (by omega);have f0 := Lib.frozen_of_heap hS 0;have f1 := Lib.frozen_of_heap hS 1;have f2 := Lib.frozen_of_heap hS 2;have f3 := Lib.frozen_of_heap hS 3;have hSV := SV_eq hw;rw [List.take_of_length_le (Nat.le_refl _)] at *;have HSV := Lib.hid hSV;generalize hws : ofL l = ws at *;have HWS := Lib.hid hws;clear hws;have hS4 := hS.again hw;have hB4 := below_again hB (Nat.le_refl _) (.int .u64 (word ws 0 : Int)) (.int .u64 (word ws 1 : Int)) (.int .u64 (word ws 2 : Int)) (.int .u64 (word ws 3 : Int));clear hS hSV;go_wp2;generalize (((wr.setCell { block := w.heap.size, off := 0 } (Value.int IntKind.u64 ↑(word ws 0))).setCell { block := w.heap.size, off := 1 } (Value.int IntKind.u64 ↑(word ws 1))).setCell { block := w.heap.size, off := 2 } (Value.int IntKind.u64 ↑(word ws 2))).setCell { block := w.heap.size, off := 3 } (Value.int IntKind.u64 ↑(word ws 3)) = W at *;have k0 := hS4.cell hw (i := 0) (by omega);have k1 := hS4.cell hw (i := 1) (by omega);have k2 := hS4.cell hw (i := 2) (by omega);have k3 := hS4.cell hw (i := 3) (by omega);exact bodyPost_ret (v := SV ws) (by rw [HSV.out]; simp [results, Tryz.results83, go_sem, k0, k1, k2, k3]) rfl ⟨by rw [HWS.out], hB4⟩
def val : List Nat → Nat
 | [] => 0
 | b :: r => b + 256 * val r
theorem and_split (a m R M : Nat) (ha : a < 256) (hm : m < 256) : (a + 256 * R) &&& (m + 256 * M) = (a &&& m) + 256 * (R &&& M) := by
 have ham : a &&& m < 256 := Nat.lt_of_le_of_lt Nat.and_le_left ha;apply Nat.eq_of_testBit_eq;intro j;rw [show (256 : Nat) = 2 ^ 8 from rfl] at *;rw [Nat.testBit_and, Nat.add_comm a, Nat.add_comm m, Nat.add_comm (a &&& m), Nat.testBit_two_pow_mul_add _ ha, Nat.testBit_two_pow_mul_add _ hm, Nat.testBit_two_pow_mul_add _ ham];split
 · rw [Nat.testBit_and]
 · rw [Nat.testBit_and]
/-- A mask of equal bytes. -/
def rep (m : Nat) : Nat → Nat
 | 0 => 0
 | n + 1 => m + 256 * rep m n
theorem and_rep {m : Nat} (hm : m < 256) : ∀ (l : List Nat), (∀ b ∈ l, b < 256) → val l &&& rep m l.length = val (l.map (· &&& m))
 | [], _ => by simp [val]
 | b :: r, h => by
  simp only [val, rep, List.length_cons, List.map_cons];rw [and_split _ _ _ _ (h b (by simp)) hm, and_rep hm r (fun c hc => h c (by simp [hc]))]
theorem shr_rep {m s : Nat} (hm : m < 256) (hs : s = 1 ∨ s = 2) (hd : ∀ b, b < 256 → ∀ t, t < 2 ^ s → (b / 2 ^ s + 2 ^ (8 - s) * t) &&& m = (b / 2 ^ s) &&& m) : ∀ (l : List Nat), (∀ b ∈ l, b < 256) → val l / 2 ^ s &&& rep m l.length = val (l.map fun b => b / 2 ^ s &&& m)
 | [], _ => by simp [val, rep]
 | b :: r, h => by
  simp only [val, rep, List.length_cons, List.map_cons];have hb := h b (by simp);have e : (b + 256 * val r) / 2 ^ s = (b / 2 ^ s + 2 ^ (8 - s) * (val r % 2 ^ s)) + 256 * (val r / 2 ^ s) := by
   rcases hs with rfl | rfl
   · simp only [Nat.reducePow, Nat.reduceSub]; omega
   · simp only [Nat.reducePow, Nat.reduceSub]; omega
  have hlt : b / 2 ^ s + 2 ^ (8 - s) * (val r % 2 ^ s) < 256 := by
   rcases hs with rfl | rfl
   · simp only [Nat.reducePow, Nat.reduceSub]; omega
   · simp only [Nat.reducePow, Nat.reduceSub]; omega
  rw [e, and_split _ _ _ _ hlt hm, hd b hb _ (Nat.mod_lt _ (Nat.two_pow_pos s)), shr_rep hm hs hd r (fun c hc => h c (by simp [hc]))]
theorem val_add : ∀ (l : List Nat) (f g : Nat → Nat), val (l.map f) + val (l.map g) = val (l.map fun b => f b + g b)
 | [], _, _ => rfl
 | b :: r, f, g => by
  have := val_add r f g;simp only [val, List.map_cons];omega
def s1 (b : Nat) : Nat := (b / 2 &&& 85) + (b &&& 85)
def s2 (b : Nat) : Nat := (b / 4 &&& 51) + (b &&& 51)
def s3 (b : Nat) : Nat := (b / 16 + b) &&& 15
theorem step1 (l : List Nat) (h : ∀ b ∈ l, b < 256) : (val l / 2 &&& rep 85 l.length) + (val l &&& rep 85 l.length) = val (l.map s1) := by
 have a := shr_rep (m := 85) (s := 1) (by decide) (.inl rfl) (by decide +kernel) l h;have b := and_rep (m := 85) (by decide) l h;simp only [Nat.reducePow] at a;rw [a, b, val_add]; rfl
theorem step2 (l : List Nat) (h : ∀ b ∈ l, b < 256) : (val l / 4 &&& rep 51 l.length) + (val l &&& rep 51 l.length) = val (l.map s2) := by
 have a := shr_rep (m := 51) (s := 2) (by decide) (.inr rfl) (by decide +kernel) l h;have b := and_rep (m := 51) (by decide) l h;simp only [Nat.reducePow] at a;rw [a, b, val_add]; rfl
theorem step3 : ∀ (l : List Nat), (∀ b ∈ l, b % 16 ≤ 4 ∧ b / 16 ≤ 4) → (val l / 16 + val l &&& rep 15 l.length) = val (l.map s3)
 | [], _ => rfl
 | b :: r, h => by
  have hb := h b (by simp);have hr : val r % 16 ≤ 4 := by
   match r, h with
   | [], _ => simp [val]
   | c :: r', h => have := h c (by simp); simp only [val]; omega
  simp only [val, rep, List.length_cons, List.map_cons];(have e : (b + 256 * val r) / 16 + (b + 256 * val r) = (b / 16 + b + 16 * (val r % 16)) + 256 * (val r / 16 + val r) := by omega);rw [e, and_split _ _ _ _ (by omega) (by decide), step3 r (fun c hc => h c (by simp [hc]))];have e2 : ∀ t u, t < 256 → u ≤ 4 → (t + 16 * u < 256) → (t + 16 * u) &&& 15 = t &&& 15 := by
   intro t u _ _ _;rw [show (15 : Nat) = 2 ^ 4 - 1 from rfl, Nat.and_two_pow_sub_one_eq_mod, Nat.and_two_pow_sub_one_eq_mod]; omega
  rw [e2 _ _ (by omega) hr (by omega)]; rfl
def bitsN : Nat → Nat → Nat
 | 0, _ => 0
 | n + 1, x => x % 2 + bitsN n (x / 2)
theorem s123 : ∀ b, b < 256 → s3 (s2 (s1 b)) = bitsN 8 b ∧ s1 b < 256 ∧ s2 (s1 b) < 256 ∧ s2 (s1 b) % 16 ≤ 4 ∧ s2 (s1 b) / 16 ≤ 4 ∧ bitsN 8 b ≤ 8 := by decide +kernel
theorem bitsN_cut : ∀ k n x, bitsN (k + n) x = bitsN k (x % 2 ^ k) + bitsN n (x / 2 ^ k)
 | 0, n, x => by simp [bitsN]
 | k + 1, n, x => by
  rw [show k + 1 + n = (k + n) + 1 from by omega, bitsN, bitsN, bitsN_cut k n (x / 2), Nat.mod_mod_of_dvd x (by rw [Nat.pow_succ]; exact Nat.dvd_mul_left 2 (2 ^ k)), Nat.div_div_eq_div_mul, Nat.pow_succ, Nat.mul_comm 2, Nat.mod_mul_left_div_self];omega
theorem bitsN_count : ∀ n x, ((List.range n).filter fun i => x.testBit i).length = bitsN n x
 | 0, _ => rfl
 | n + 1, x => by
  rw [List.range_succ_eq_map, List.filter_cons, bitsN, ← bitsN_count n (x / 2), List.filter_map];(have e : (fun i => x.testBit i) ∘ Nat.succ = fun i => (x / 2).testBit i := by funext i; simp [Nat.testBit_succ]);rw [e];by_cases h : x % 2 = 1
  · rw [if_pos (by simp [Nat.testBit_zero, h]), h, List.length_cons, List.length_map, Nat.add_comm]
  · rw [if_neg (by simp [Nat.testBit_zero, h]), show x % 2 = 0 from by omega, Nat.zero_add, List.length_map]
theorem val_le (m : Nat) : ∀ l : List Nat, (∀ b ∈ l, b ≤ m) → val l ≤ rep m l.length
 | [], _ => Nat.le_refl _
 | b :: r, h => by
  have := val_le m r (fun c hc => h c (by simp [hc]));have := h b (by simp);simp only [val, rep, List.length_cons];omega
/-- The bytes of a word. -/
def by8 (x : Nat) : List Nat := [x % 256, x / 256 % 256, x / 65536 % 256, x / 16777216 % 256, x / 4294967296 % 256, x / 1099511627776 % 256, x / 281474976710656 % 256, x / 72057594037927936 % 256]
theorem by8_val {x : Nat} (h : x < 2 ^ 64) : val (by8 x) = x := by
 simp only [by8, val]; omega
theorem by8_bits {x : Nat} (h : x < 2 ^ 64) : bitsN 64 x = ((by8 x).map (bitsN 8)).sum := by
 (have e : ∀ n x, bitsN (8 + n) x = bitsN 8 (x % 256) + bitsN n (x / 256) := fun n x => bitsN_cut 8 n x);rw [show 64 = 8 + 56 from rfl, e, show 56 = 8 + 48 from rfl, e, show 48 = 8 + 40 from rfl, e, show 40 = 8 + 32 from rfl, e, show 32 = 8 + 24 from rfl, e, show 24 = 8 + 16 from rfl, e, show 16 = 8 + 8 from rfl, e];simp only [Nat.div_div_eq_div_mul, Nat.reduceMul];(have : bitsN 8 (x / 72057594037927936) = bitsN 8 (x / 72057594037927936 % 256) := by congr 1; omega);rw [this];simp only [by8, List.map_cons, List.map_nil, List.sum_cons, List.sum_nil];omega
/-- What the code computes. -/
theorem pop_eq {x : Nat} (h : x < 2 ^ 64) : ∃ x1 x2 x3, (x / 2 &&& 6148914691236517205) + (x &&& 6148914691236517205) = x1 ∧ (x1 / 4 &&& 3689348814741910323) + (x1 &&& 3689348814741910323) = x2 ∧ (x2 / 16 + x2 &&& 1085102592571150095) = x3 ∧ x1 < 2 ^ 64 ∧ x2 < 2 ^ 63 ∧ x3 < 2 ^ 60 ∧ (∀ y z u, y = x3 + x3 / 256 → z = y + y / 65536 → u = z + z / 4294967296 → y < 2 ^ 61 ∧ z < 2 ^ 62 ∧ u < 2 ^ 63 ∧ u % 128 = bitsN 64 x) := by
 have hv := by8_val h;have hl : ∀ b ∈ by8 x, b < 256 := by
  intro b hb;simp only [by8, List.mem_cons, List.not_mem_nil, or_false] at hb;omega
 have hl1 : ∀ b ∈ (by8 x).map s1, b < 256 := by
  intro b hb; obtain ⟨c, hc, rfl⟩ := List.mem_map.1 hb; exact (s123 c (hl c hc)).2.1
 have hl2 : ∀ b ∈ ((by8 x).map s1).map s2, b % 16 ≤ 4 ∧ b / 16 ≤ 4 := by
  intro b hb; rw [List.map_map] at hb; obtain ⟨c, hc, rfl⟩ := List.mem_map.1 hb; exact ⟨(s123 c (hl c hc)).2.2.2.1, (s123 c (hl c hc)).2.2.2.2.1⟩
 have t1 := step1 _ hl;have t2 := step2 _ hl1;have t3 := step3 _ hl2;rw [hv] at t1;(have r1 : ∀ m, rep m 8 = m + 256 * (m + 256 * (m + 256 * (m + 256 * (m + 256 * (m + 256 * (m + 256 * m)))))) := by intro m; simp [rep]);have hlen : (by8 x).length = 8 := rfl;simp only [List.length_map, hlen, r1, Nat.reduceMul, Nat.reduceAdd] at t1 t2 t3;have hb8 := by8_bits h;have hmap : (((by8 x).map s1).map s2).map s3 = (by8 x).map (bitsN 8) := by
  rw [List.map_map, List.map_map];apply List.map_congr_left;intro b hb; exact (s123 b (hl b hb)).1
 rw [hmap] at t3;refine ⟨_, _, _, t1, t2, t3, ?_, ?_, ?_, ?_⟩
 · have := val_le 255 _ (fun b hb => Nat.le_of_lt_succ (hl1 b hb));simp only [List.length_map, hlen, r1, Nat.reduceMul, Nat.reduceAdd] at this;omega
 · have := val_le 68 _ (fun b hb => by have := hl2 b hb; omega);simp only [List.length_map, hlen, r1, Nat.reduceMul, Nat.reduceAdd] at this;omega
 · have := val_le 8 ((by8 x).map (bitsN 8)) (fun b hb => by obtain ⟨c, hc, rfl⟩ := List.mem_map.1 hb; exact (s123 c (hl c hc)).2.2.2.2.2);simp only [List.length_map, hlen, r1, Nat.reduceMul, Nat.reduceAdd] at this;omega
 ·
  (have h8 : ∀ b ∈ (by8 x).map (bitsN 8), b ≤ 8 := fun b hb => by obtain ⟨c, hc, rfl⟩ := List.mem_map.1 hb; exact (s123 c (hl c hc)).2.2.2.2.2);rw [hb8];have hll : ((by8 x).map (bitsN 8)).length = 8 := rfl;generalize (by8 x).map (bitsN 8) = l at *
  match l, hll with
  | [p0, p1, p2, p3, p4, p5, p6, p7], _ =>
   have q0 := h8 p0 (by simp);have q1 := h8 p1 (by simp);have q2 := h8 p2 (by simp);have q3 := h8 p3 (by simp);have q4 := h8 p4 (by simp);have q5 := h8 p5 (by simp);have q6 := h8 p6 (by simp);have q7 := h8 p7 (by simp);clear hb8 t1 t2 t3 hmap h8 hl hl1 hl2 hv r1;intro y z u hy hz hu;simp only [val, List.sum_cons, List.sum_nil] at *;(have ey : y = (p0 + p1) + 256 * ((p1 + p2) + 256 * ((p2 + p3) + 256 * ((p3 + p4) + 256 * ((p4 + p5) + 256 * ((p5 + p6) + 256 * ((p6 + p7) + 256 * p7)))))) := by rw [hy]; omega);clear hy;(have ez : z = (p0 + p1 + p2 + p3) + 256 * ((p1 + p2 + p3 + p4) + 256 * ((p2 + p3 + p4 + p5) + 256 * ((p3 + p4 + p5 + p6) + 256 * ((p4 + p5 + p6 + p7) + 256 * ((p5 + p6 + p7) + 256 * ((p6 + p7) + 256 * p7)))))) := by rw [hz, ey]; omega);clear hz;refine ⟨by omega, by omega, ?_, ?_⟩
   · omega
   ·
    have eu : u % 256 = p0 + p1 + p2 + p3 + p4 + p5 + p6 + p7 := by
     obtain ⟨L, hL⟩ : ∃ L, L = (p1 + p2 + p3 + p4) + 256 * ((p2 + p3 + p4 + p5) + 256 * (p3 + p4 + p5 + p6)) := ⟨_, rfl⟩;obtain ⟨M, hM⟩ : ∃ M, M = (p5 + p6 + p7) + 256 * ((p6 + p7) + 256 * p7) := ⟨_, rfl⟩;(have hz2 : z = (p0 + p1 + p2 + p3) + 256 * L + 4294967296 * ((p4 + p5 + p6 + p7) + 256 * M) := by rw [ez, hL, hM]; omega);(have hL2 : L < 4294967296 / 256 := by omega);clear ez ey hL hM;(have hd : z / 4294967296 = (p4 + p5 + p6 + p7) + 256 * M := by omega);rw [hd, hz2] at hu;clear hz2 hd;omega
    omega
/-- How many in the first words. -/
def sizeK (ws : List Nat) : Nat → Nat
 | 0 => 0
 | k + 1 => sizeK ws k + bitsN 64 (word ws k)
theorem bitsN_le : ∀ n x, bitsN n x ≤ n
 | 0, _ => Nat.le_refl _
 | n + 1, x => by have := bitsN_le n (x / 2); simp only [bitsN]; omega
theorem sizeK_le (ws : List Nat) : ∀ k, sizeK ws k ≤ 64 * k
 | 0 => Nat.le_refl _
 | k + 1 => by have := sizeK_le ws k; have := bitsN_le 64 (word ws k); simp only [sizeK]; omega
theorem sizeK_spec (ws : List Nat) : ∀ k, ((List.range (k * 64)).filter (mem ws)).length = sizeK ws k
 | 0 => rfl
 | k + 1 => by
  rw [show (k + 1) * 64 = k * 64 + 64 from by omega, List.range_add, List.filter_append, List.length_append, sizeK_spec ws k, sizeK, List.filter_map, List.length_map, ← bitsN_count]
  congr 2
  apply List.filter_congr;intro i hi;exact mem_bit (List.mem_range.1 hi)
theorem sizeK_four (ws : List Nat) : sizeK ws 4 = sizeW ws := (sizeK_spec ws 4).symm
theorem has_bits {ws : List Nat} (h : Wf ws) (b : Nat) : (bits BinOp.and IntKind.u64 ((word ws (b / 64) : Int) / 2 ^ (b % 64)) 1 == 1) = mem ws b := by
 have hx := word_lt h (b / 64);generalize hxe : word ws (b / 64) = x at *;(have e1 : ((x : Int) / 2 ^ (b % 64)) = ((x / 2 ^ (b % 64) : Nat) : Int) := by simp);have h2 : x / 2 ^ (b % 64) < 18446744073709551616 := Nat.lt_of_le_of_lt (Nat.div_le_self _ _) hx;rw [e1, show (1 : Int) = ((1 : Nat) : Int) from rfl, u64_and_nat _ _ h2 (by decide), nat_mask1];unfold mem;rw [Nat.testBit_eq_decide_div_mod_eq];rw [show word ws (b / 64) = x from hxe];generalize x / 2 ^ (b % 64) = t;rw [Bool.eq_iff_iff];simp only [beq_iff_eq, decide_eq_true_eq];omega
theorem two_new (w : World) (a b : Obj) : ((w.alloc a).alloc b).heap[w.heap.size]? = some a ∧ ((w.alloc a).alloc b).heap[w.heap.size + 1]? = some b := by
 (have hs : (w.alloc a).heap.size = w.heap.size + 1 := by show (w.heap.push a).size = _; simp);refine ⟨?_, ?_⟩
 · rw [@heap_alloc_old _ _ _ (by rw [hs]; exact Nat.lt_succ_self _)]; exact heap_alloc_new w a
 · rw [← hs]; exact heap_alloc_new _ b
/-- Four words are put in a block. -/
def put4 (w : World) (b : Nat) (vs : List Nat) : World :=
 ((((w.setCell ⟨b, 0, none⟩ (.int .u64 (word vs 0 : Int))).setCell ⟨b, 1, none⟩ (.int .u64 (word vs 1 : Int))).setCell ⟨b, 2, none⟩ (.int .u64 (word vs 2 : Int))).setCell ⟨b, 3, none⟩ (.int .u64 (word vs 3 : Int)))
theorem put4_eq (w : World) (b : Nat) (vs : List Nat) : ((((w.setCell ⟨b, 0, none⟩ (.int .u64 (word vs 0 : Int))).setCell ⟨b, 1, none⟩ (.int .u64 (word vs 1 : Int))).setCell ⟨b, 2, none⟩ (.int .u64 (word vs 2 : Int))).setCell ⟨b, 3, none⟩ (.int .u64 (word vs 3 : Int))) = put4 w b vs := rfl
theorem SB.put {w : World} {b : Nat} {zs vs : List Nat} (h : SB w b zs) (hz : Wf zs) (hv : Wf vs) : SB (put4 w b vs) b vs := by
 have hq : (((zs.set 0 (word vs 0)).set 1 (word vs 1)).set 2 (word vs 2)).set 3 (word vs 3) = vs := by
  obtain ⟨hl, _⟩ := hz;obtain ⟨hl', _⟩ := hv
  match zs, vs, hl, hl' with
  | [_, _, _, _], [_, _, _, _], _, _ => rfl
 have e := SB.set (SB.set (SB.set (SB.set h 0 (word vs 0)) 1 (word vs 1)) 2 (word vs 2)) 3 (word vs 3);rw [hq] at e;unfold put4;exact e
theorem put4_below {B : Nat} {w0 w : World} {b : Nat} (h : Below B w0 w) (hb : B ≤ b) (vs : List Nat) : Below B w0 (put4 w b vs) := below_again h hb _ _ _ _
/-- The sets of a list lie in a block. -/
def Ls (w : World) (b : Nat) (l : List (List Nat)) : Prop := ∀ k (h : k < l.length), ∀ j, j < 4 → w.cell? ⟨b, k * 4 + j, none⟩ = some (.int .u64 (word l[k] j : Int))
theorem wc_eq {ws : List Nat} (h : Wf ws) : wc ws = #[.int .u64 (word ws 0 : Int), .int .u64 (word ws 1 : Int), .int .u64 (word ws 2 : Int), .int .u64 (word ws 3 : Int)] := by
 obtain ⟨hl, _⟩ := h
 match ws, hl with
 | [a, b, c, d], _ => rfl
theorem or_any (l : List (List Nat)) (bk : Nat) (w : World) (h : ∀ v ∈ l, Wf v) (hl : l.length ≤ 4) (hb : bk < w.heap.size) (hc : Ls w bk l) :
  Calls Tryz.prog 82 #[.slice (some ⟨bk, 0, none⟩) l.length l.length] w fun e w' => e = .returned (SV (orL l)) ∧ Below w.heap.size w w' := by
 go_enter Tryz.func82, Tryz.ntmps82;go_wp2;go_loopw [4, 5, 8] (fun _ _ i wr => ∃ k : Nat, k ≤ l.length ∧ i = .int .i64 (k : Int) ∧ SB wr w.heap.size (orL (l.take k)) ∧ Below w.heap.size w wr) (fun _ _ i _ => l.length - (intOf i).toNat);(case atStart => exact ⟨0, Nat.zero_le _, rfl, heap_alloc_new w _, (Below.refl _ w).alloc (Nat.le_refl _) _⟩);case round =>
  obtain ⟨k, hk, rfl, hS, hB⟩ := hrel;have hw := wf_orL (l := l.take k) (fun v hv => h v (List.mem_of_mem_take hv));by_cases hlt : k < l.length
  ·
   have hv := h l[k] (List.getElem_mem hlt);have HSN := Lib.hid (show orL (l.take (k + 1)) = or2 (orL (l.take k)) l[k] by unfold orL; rw [List.take_succ_eq_append_getElem hlt, List.foldl_append]; rfl);have d0 := (hB.cell (p := ⟨bk, k * 4, none⟩) hb).trans (hc k hlt 0 (by omega));have d1 := (hB.cell (p := ⟨bk, k * 4 + 1, none⟩) hb).trans (hc k hlt 1 (by omega));have d2 := (hB.cell (p := ⟨bk, k * 4 + 2, none⟩) hb).trans (hc k hlt 2 (by omega));have d3 := (hB.cell (p := ⟨bk, k * 4 + 3, none⟩) hb).trans (hc k hlt 3 (by omega));have HL := Lib.hid (show w.heap.size < wr.heap.size from (Array.getElem?_eq_some_iff.1 hS).1);(have hI : (k : Int) < (l.length : Int) := by omega);generalize orL (l.take k) = ws at *;generalize hvs : l[k] = vs at *;clear hvs hc;go_wp2;go_loopw [5, 12] (fun _ i wv => ∃ j : Nat, j ≤ 4 ∧ i = .int .i64 (j : Int) ∧ SB wv w.heap.size (orK ws vs j) ∧ SB wv wr.heap.size vs ∧ Below w.heap.size w wv) (fun _ i _ => 4 - (intOf i).toNat);case atStart =>
    refine ⟨0, Nat.zero_le _, rfl, ?_, ?_, hB.alloc hB.size _⟩
    · exact (@heap_alloc_old _ _ _ HL.out).trans hS
    · show (wr.alloc _).heap[wr.heap.size]? = some (.cells (wc vs) _ _);rw [heap_alloc_new, wc_eq hv]
   case round =>
    clear hS d0 d1 d2 d3;obtain ⟨j, hj, rfl, hS, hV, hB'⟩ := hrel;have hwj := (orK_spec hw hv j hj).1;have HSJ := Lib.hid (show orK ws vs (j + 1) = (orK ws vs j).set j (word (orK ws vs j) j ||| word vs j) from rfl);have HO4 := Lib.hid (orK_four hw hv);by_cases hjl : j < 4
    · have c1 := hS.cell hwj hjl;have f1 := Lib.frozen_of_heap hS j;have c2 := SB.cell hV hv hjl;have hx := u64_or_nat _ _ (word_lt hwj j) (word_lt hv j);(have hJ : (j : Int) < 4 := by omega);have hj' : ((j : Int)).toNat < 4 := hjl;generalize hq : orK ws vs j = qs at *;clear hq;go_wp2;go_region;go_wp2;go_roundw;(case rel => exact ⟨j + 1, by omega, by go_num, by rw [HSJ.out]; exact (SB.set hS _ _).drew, (heap_set_other hV (Nat.ne_of_lt HL.out) _ _), (hB'.setCell (Nat.le_refl _) _).drew⟩);case measure => simp [intOf]; omega
    · (obtain rfl : j = 4 := by omega);have HS := Lib.hid hS;clear hS hV hB;go_wp2;go_roundw;(case rel => exact ⟨k + 1, by omega, by go_num, by rw [HSN.out, ← HO4.out]; exact HS.out, hB'⟩);case measure => simp [intOf]; omega
  · (obtain rfl : k = l.length := by omega);rw [List.take_of_length_le (Nat.le_refl _)] at *;generalize hws : orL l = WS at *;have HWS := Lib.hid hws;clear hws;have g0 := hS.cell hw (i := 0) (by omega);have g1 := hS.cell hw (i := 1) (by omega);have g2 := hS.cell hw (i := 2) (by omega);have g3 := hS.cell hw (i := 3) (by omega);have f0 := Lib.frozen_of_heap hS 0;have f1 := Lib.frozen_of_heap hS 1;have f2 := Lib.frozen_of_heap hS 2;have f3 := Lib.frozen_of_heap hS 3;have HSV := Lib.hid (SV_eq hw);have hS4 := hS.put hw hw;have hB4 := put4_below hB (Nat.le_refl _) WS;clear hS;go_wp2;rw [put4_eq];generalize put4 wr w.heap.size WS = W at *;have k0 := hS4.cell hw (i := 0) (by omega);have k1 := hS4.cell hw (i := 1) (by omega);have k2 := hS4.cell hw (i := 2) (by omega);have k3 := hS4.cell hw (i := 3) (by omega);exact bodyPost_ret (v := SV WS) (by rw [HSV.out]; simp [results, Tryz.results82, go_sem, k0, k1, k2, k3]) rfl ⟨by rw [HWS.out], hB4⟩
theorem u64_and_lit (x m : Nat) (h : x < 18446744073709551616) (hm : m < 18446744073709551616) : bits BinOp.and IntKind.u64 (x : Int) (m : Int) = ((x &&& m : Nat) : Int) := u64_and_nat _ _ h hm
theorem idx_run (a b c d : Value) (w : World) : 
  (Instr.index 53 (.agg #[a, b, c, d]) (.int .i64 0)).run Tryz.prog w = .ok a w ∧ (Instr.index 53 (.agg #[a, b, c, d]) (.int .i64 1)).run Tryz.prog w = .ok b w ∧ (Instr.index 53 (.agg #[a, b, c, d]) (.int .i64 2)).run Tryz.prog w = .ok c w ∧ (Instr.index 53 (.agg #[a, b, c, d]) (.int .i64 3)).run Tryz.prog w = .ok d w := ⟨by kernel_rfl, by kernel_rfl, by kernel_rfl, by kernel_rfl⟩
theorem idx_word (ws : List Nat) {k : Nat} (hk : k < 4) (w : World) : (Instr.index 53 (.agg #[.int .u64 (word ws 0 : Int), .int .u64 (word ws 1 : Int), .int .u64 (word ws 2 : Int), .int .u64 (word ws 3 : Int)]) (.int .i64 (k : Int))).run Tryz.prog w = .ok (.int .u64 (word ws k : Int)) w := by
 obtain ⟨h0, h1, h2, h3⟩ := idx_run (.int .u64 (word ws 0 : Int)) (.int .u64 (word ws 1 : Int)) (.int .u64 (word ws 2 : Int)) (.int .u64 (word ws 3 : Int)) w
 match k, hk with
 | 0, _ => exact h0
 | 1, _ => exact h1
 | 2, _ => exact h2
 | 3, _ => exact h3
open Go.RowKit Go.Shelf
attribute [local go_sem] Oper.semAt_some
/-- The library's table lies in its variable. -/
def Tab (w : World) : Prop := TabAt 0 Lib.deBruijn64tab w
theorem Tab.below {w w' : World} (h : Tab w) {B : Nat} (hb : Below B w w') (hB : 0 < B) : Tab w' := fun j hj => (hb.cell (p := ⟨0, j, none⟩) hB).trans (h j hj)
theorem tz_core (x k idx : Nat) (w : World) (hx0 : ((x : Int) == 0) = false)
  (key : IntKind.u64.wrap (bits BinOp.and IntKind.u64 (x : Int) (IntKind.u64.wrap (-(x : Int))) * 285870213051353865) / 288230376151711744 = (idx : Int))
  (hi : idx < 64) (hk : k < 64) (hcell : w.cell? ⟨0, idx, none⟩ = some (.int .u8 k)) :
  Calls Tryz.prog 110 #[.int .u64 x] w fun e w' => e = .returned (.int .i64 k) ∧ w' = w := by
 go_enter Tryz.func110, Tryz.ntmps110;go_wp2_with (simp only [key]);go_ret;exact ⟨rfl, rfl⟩
theorem tz_any (x : Nat) (hx : x < 18446744073709551616) (hx0 : x ≠ 0) (w : World) (hT : Tab w) :
  Calls Tryz.prog 110 #[.int .u64 x] w fun e w' => e = .returned (.int .i64 (Lib.ctz 64 x : Int)) ∧ w' = w := by
 obtain ⟨hlow, hk⟩ := Lib.lowest_bit 64 x hx0 hx;obtain ⟨hi, htab⟩ := Lib.deBruijn64_at _ hk;have hcell := hT _ hi;rw [htab] at hcell;exact tz_core x _ _ w (by simp; omega) (tz64_key x _ hx hx0 hlow) hi hk hcell
theorem all_any (ws : List Nat) (w : World) (h : Wf ws) :
  Calls Tryz.prog 91 #[SV ws] w fun e w' => e = .returned (.func (.func 109) #[] #[.pointer (some ⟨w.heap.size, 0, none⟩)]) ∧ w' = w.alloc (.cells (wc ws) 53) := by
 go_enter Tryz.func91, Tryz.ntmps91;go_wp2;go_ret;exact ⟨rfl, rfl⟩
end Go.Proofs.YtlicoffnjphphaaGreatDoor.St
namespace Go.Proofs.YtlicoffnjphphaaGreatDoor.Rx
open Go.RowKit Go.Shelf
open Go.Proofs.YtlicoffnjphphaaGreatDoor.St (Tab tz_any)
abbrev Y (n : Nat) : Value := .int .u8 (n : Int)
theorem zero_65 : (∀ w, (zeroValue 193).run Tryz.prog w = .ok (.agg (Array.replicate 65 (Y 0))) w) ∧ (Tryz.prog.info? 193).map (·.size) = some 65 :=
 zero_of_info (P := Tryz.prog) (t := 193) (v := .agg (Array.replicate 65 (Y 0))) (n := 65) (by kernel_rfl)
theorem hex_at : ∀ j : Nat, j < 16 → ∀ h, ((⟨#[48, 49, 50, 51, 52, 53, 54, 55, 56, 57, 97, 98, 99, 100, 101, 102, 103, 104, 105, 106, 107, 108, 109, 110, 111, 112, 113, 114, 115, 116, 117, 118, 119, 120, 121, 122]⟩ : ByteArray)[j]'h) = hexd j := by decide
theorem conv_at (row : Array Value) (o : Nat) (l : List UInt8) (hl : ∀ j (hj : j < l.length), row[o + j]? = some (.int .u8 (l[j].toNat : Int))) (w : World) (n c : Nat) (hn : n = l.length) :
  (convert 107 9 (.slice (some ⟨w.heap.size, o, none⟩) n c)).run Tryz.prog (w.alloc (.cells row 193)) = .ok (S l) (w.alloc (.cells row 193)) := by
 subst hn;exact run_convert_bytes_back (P := Tryz.prog) _ 107 9 5 ⟨w.heap.size, o, none⟩ c l Tryz.underlying107 Tryz.underlying5 Tryz.underlying9 (by
  intro j hj;rw [Addr.add_lit, Lib.cell_of_heap (heap_alloc_new w _)];exact hl j hj)
theorem tz16 (w : World) (hT : Tab w) : Calls Tryz.prog 110 #[.int .u64 16] w fun e w' => e = .returned (.int .i64 4) ∧ w = w' := by
 have h := tz_any 16 (by decide) (by decide) w hT;refine h.mono ?_;rintro e w' ⟨rfl, rfl⟩;exact ⟨by rw [show Lib.ctz 64 16 = 4 from by decide]; rfl, rfl⟩
theorem fmtBits16 (u : Nat) (hu : u < 16) (w : World) (hT : Tab w) (hg : 0 < w.heap.size) :
  Calls Tryz.prog 114 #[.slice none 0 0, .int .u64 u, E 16, .bool false, .bool false] w fun e w' => e = .returned (.tuple #[.slice none 0 0, S [hexd u]]) ∧ Below w.heap.size w w' := by
 have hz := zero_65.1;have hsz := zero_65.2;have HT := Lib.hid (hT.below ((Below.refl w.heap.size w).alloc (Nat.le_refl _) (.cells (Array.replicate 65 (Y 0)) 193)) hg);(have hp2 : (bits BinOp.and IntKind.i64 16 15 == 0) = true := by decide);have hd1 := hex_at u hu;have hcv := conv_at ((Array.replicate 65 (Y 0)).setIfInBounds 64 (.int .u8 ((hexd u).toNat : Int))) 64 [hexd u] (by
  intro j hj;(obtain rfl : j = 0 := by simpa using hj);rw [Array.getElem?_setIfInBounds_self_of_lt (by simp)]; rfl) w 1 1 rfl
 go_enter Tryz.func114, Tryz.ntmps114;go_wp2_with (first | (go_at_call 110; refine (tz16 _ HT.out).mono ?_; rintro e w' ⟨rfl, rfl⟩) | go_in)
 go_rounds 1
 go_ret2
 exact ⟨rfl, (Below.refl w.heap.size w).alloc (Nat.le_refl _) _⟩
theorem ifmt16 (u : Nat) (hu : u < 16) (w : World) (hT : Tab w) (hg : 0 < w.heap.size) :
  Calls Tryz.prog 92 #[.int .u64 u, E 16] w fun e w' => e = .returned (S [hexd u]) ∧ Below w.heap.size w w' := by
 have HC := Lib.hid (fmtBits16 u hu w hT hg);clear hT hg;go_enter Tryz.func92, Tryz.ntmps92;go_wp2_with (go_at_call 114; refine HC.out.mono ?_; rintro e w1 ⟨rfl, hb⟩; have HB := Lib.hid hb; clear hb);go_ret;exact ⟨rfl, HB.out⟩
theorem fmt16 (u : Nat) (hu : u < 16) (w : World) (hT : Tab w) (hg : 0 < w.heap.size) :
  Calls Tryz.prog 66 #[.int .u64 u, E 16] w fun e w' => e = .returned (S [hexd u]) ∧ Below w.heap.size w w' := by
 have HC := Lib.hid (ifmt16 u hu w hT hg);clear hT hg;go_enter Tryz.func66, Tryz.ntmps66;go_wp2_with (go_at_call 92; refine HC.out.mono ?_; rintro e w1 ⟨rfl, hb⟩; have HB := Lib.hid hb; clear hb);go_ret;exact ⟨rfl, HB.out⟩
abbrev SE (n : Int) : Value := .iface 178 (.int .i64 n)
theorem bytes_cell (w : World) (t : List UInt8) (cap : Nat) (fz : Nat × Nat) (j : Nat) (hj : j < t.length) :
  (w.alloc (.cells (bytesRow ⟨t.toArray⟩ cap) 5 fz)).cell? ⟨w.heap.size, j, none⟩ = some (.int .u8 (t[j].toNat : Int)) := by
 rw [Lib.cell_of_heap (heap_alloc_new w _)];unfold bytesRow;rw [Array.getElem?_append_left (by simpa using hj)];simp [List.getElem?_eq_getElem hj]
def hexN (c : Nat) : Option Nat := if 48 ≤ c ∧ c ≤ 57 then some (c - 48) else if 97 ≤ c ∧ c ≤ 102 then some (c - 87) else if 65 ≤ c ∧ c ≤ 70 then some (c - 55) else none
def hexL (acc : Nat) : List UInt8 → Option Nat
 | [] => some acc
 | c :: r => match hexV c with
  | some v => hexL (acc * 16 + v) r
  | none => none
theorem hex_drop {t : List UInt8} {k : Nat} (h : k < t.length) (acc : Nat) : hexL acc (t.drop k) = match hexN t[k].toNat with
  | some v => hexL (acc * 16 + v) (t.drop (k + 1))
  | none => none := by
 rw [List.drop_eq_getElem_cons h]; rfl
theorem low_letter : ∀ c : Nat, c < 256 → 0 ≤ bits .or .u8 (c : Int) 32 ∧ bits .or .u8 (c : Int) 32 ≤ 255 := by decide +kernel
theorem low_hex : ∀ c : Nat, c < 256 → ¬ (48 ≤ c ∧ c ≤ 57) → (97 ≤ (bits .or .u8 (c : Int) 32).toNat ∧ (bits .or .u8 (c : Int) 32).toNat ≤ 102 → hexN c = some ((bits .or .u8 (c : Int) 32).toNat - 97 + 10)) ∧ (¬ (97 ≤ (bits .or .u8 (c : Int) 32).toNat ∧ (bits .or .u8 (c : Int) 32).toNat ≤ 102) → hexN c = none) := by decide +kernel
/-- What ParseUint answers to the base 16, for 8 bits. -/
def Par (t : List UInt8) (e : Ending) : Prop :=
 (∃ x : Nat, hexL 0 t = some x ∧ e = .returned (.tuple #[.int .u64 x, .nilIface])) ∨ (hexL 0 t = none ∧ e = .returned (.tuple #[.int .u64 0, SE 2]))
theorem parse16_any (t : List UInt8) (h1 : 1 ≤ t.length) (h2 : t.length ≤ 2) (w : World) :
  Calls Tryz.prog 103 #[S t, E 16, E 8] w fun e w' =>
   Par t e ∧ Below w.heap.size w w' := by
 (have hne : (t == []) = false := by cases t with | nil => simp at h1 | cons => rfl);have hcv := run_bytes_of_string (P := Tryz.prog) w 9 107 5 ⟨t.toArray⟩ Tryz.underlying9 Tryz.underlying107 Tryz.underlying5;(have hsz : (ByteArray.mk t.toArray).size = t.length := by simp [ByteArray.size]);rw [hsz] at hcv;generalize grownCap w t.length 0 5 = gc at hcv;have HC := Lib.hid (bytes_cell w t gc ((bytesRow ⟨t.toArray⟩ gc).size, (bytesRow ⟨t.toArray⟩ gc).size + 1));have HB := Lib.hid ((Below.refl w.heap.size w).alloc (Nat.le_refl _) (.cells (bytesRow ⟨t.toArray⟩ gc) 5 ((bytesRow ⟨t.toArray⟩ gc).size, (bytesRow ⟨t.toArray⟩ gc).size + 1))).drew;generalize Obj.cells (bytesRow ⟨t.toArray⟩ gc) 5 ((bytesRow ⟨t.toArray⟩ gc).size, (bytesRow ⟨t.toArray⟩ gc).size + 1) = ob at *;go_enter Tryz.func103, Tryz.ntmps103;go_wp2
 go_loop [12, 13, 101] (fun un n i => ∃ k acc : Nat, k ≤ t.length ∧ un = .bool false ∧ i = .int .i64 (k : Nat) ∧ n = .int .u64 (acc : Nat) ∧ Hid (k = 0 ∧ acc = 0 ∨ k = 1 ∧ acc ≤ 15 ∨ k = 2 ∧ acc ≤ 255) ∧ Hid (hexL 0 t = hexL acc (t.drop k))) (fun _ _ i => t.length - (intOf i).toNat)
 (case atStart => exact ⟨0, 0, Nat.zero_le _, rfl, rfl, rfl, Lib.hid (Or.inl ⟨rfl, rfl⟩), Lib.hid (by simp)⟩);case round =>
  obtain ⟨k, acc, hk, rfl, rfl, rfl, HACC, HR⟩ := hrel;by_cases hlt : k < t.length
  ·
   (have hacc : acc ≤ 15 := by rcases HACC.out with ⟨_, h⟩ | ⟨_, h⟩ | ⟨h, _⟩ <;> omega);have hcell := HC.out k hlt;have OD := Lib.hid (hex_drop hlt acc);have hcb := UInt8.toNat_lt t[k];clear HC;generalize t[k].toNat = c at *;have HL := Lib.hid (low_letter c hcb);(have hcut : ¬ (1152921504606846976 : Int) ≤ ((acc : Nat) : Int) := by omega);by_cases hd : 48 ≤ c ∧ c ≤ 57
   ·
    (have d1 : (48 : Int) ≤ c := by omega);(have d2 : (c : Int) ≤ 57 := by omega);(have d3 : ((c : Int) - 48) = ((c - 48 : Nat) : Int) := by omega);(have d4 : ¬ (16 : Int) ≤ ((c - 48 : Nat) : Int) := by omega);have HO := Lib.hid (show hexL 0 t = hexL (acc * 16 + (c - 48)) (t.drop (k + 1)) from by rw [HR.out, OD.out, show hexN c = some (c - 48) from if_pos hd]);(have s1 : ((acc : Nat) : Int) * 16 + ((c - 48 : Nat) : Int) ≤ 255 := by omega);(have hd9 : c - 48 ≤ 15 := by omega);generalize c - 48 = d at *;clear hd OD HR;go_wp2
    go_round
    (case rel => exact ⟨k + 1, acc * 16 + d, by omega, rfl, by go_num, by go_num, Lib.hid (by rcases HACC.out with ⟨h, h'⟩ | ⟨h, h'⟩ | ⟨h, h'⟩ <;> omega), HO⟩);case measure => simp [intOf]; omega
   ·
    have HLX := Lib.hid (low_hex c hcb hd);obtain ⟨l, hl⟩ : ∃ l : Nat, bits .or .u8 (c : Int) 32 = (l : Int) := ⟨(bits .or .u8 (c : Int) 32).toNat, by have := HL.out; omega⟩;(have hl255 : l ≤ 255 := by have := HL.out.2; omega);have HLX2 : Hid ((97 ≤ l ∧ l ≤ 102 → hexN c = some (l - 97 + 10)) ∧ (¬ (97 ≤ l ∧ l ≤ 102) → hexN c = none)) := Lib.hid (by have := HLX.out; rw [hl] at this; exact this);have HLOW := Lib.hid (show ∀ w, Calls Tryz.prog 120 #[.int .u8 (c : Int)] w fun e w' => e = .returned (Y l) ∧ w' = w from fun w => by
     have := Tryz.internal_strconv_lower (c : Int) w;rw [hl] at this;exact this)
    clear hl HL HLX;cases e95 : (((c : Nat) : Int) == 95)
    ·
     by_cases d48 : 48 ≤ c
     ·
      (have d1 : (48 : Int) ≤ c := by omega);(have d2 : ¬ (c : Int) ≤ 57 := by omega);clear hd;by_cases l97 : 97 ≤ l
      ·
       (have l1 : (97 : Int) ≤ l := by omega);by_cases l102 : l ≤ 102
       ·
        have HO := Lib.hid (show hexL 0 t = hexL (acc * 16 + (l - 97 + 10)) (t.drop (k + 1)) from by rw [HR.out, OD.out, HLX2.out.1 ⟨l97, l102⟩]);(have l2 : (l : Int) ≤ 122 := by omega);(have l4 : ¬ (16 : Int) ≤ (l : Int) - 97 + 10 := by omega);(have s1 : ((acc : Nat) : Int) * 16 + ((l : Int) - 97 + 10) ≤ 255 := by omega);have hcutB : decide ((1152921504606846976 : Int) ≤ ((acc : Nat) : Int)) = false := decide_eq_false hcut;have HD15 := Lib.hid (show l - 97 + 10 ≤ 15 by omega);have HL97 := Lib.hid (And.intro l97 hacc);clear OD HR HLX2 l97 l102 hcut;go_wp2_with (go_at_call 120; refine (HLOW.out _).mono ?_; rintro e w' ⟨rfl, rfl⟩; (try clear hcell); (try clear d1); (try clear d2); (try clear e95); (try clear hcb); (try clear hl255); (try clear hcv); (try clear hacc); (try clear hd9))
        go_round
        (case rel => exact ⟨k + 1, acc * 16 + (l - 97 + 10), by omega, rfl, by go_num, congrArg (Value.int .u64) (by have := HL97.out; omega), Lib.hid (by have h5 := HD15.out; have h6 := HL97.out; rcases HACC.out with ⟨h, h'⟩ | ⟨h, h'⟩ | ⟨h, h'⟩ <;> omega), HO⟩);case measure => simp [intOf]; omega
       ·
        have HO := Lib.hid (show hexL 0 t = none from by rw [HR.out, OD.out, HLX2.out.2 (fun q => l102 q.2)]);clear OD HR HLX2;by_cases l122 : l ≤ 122
        ·
         (have l2 : (l : Int) ≤ 122 := by omega);(have l4 : (16 : Int) ≤ (l : Int) - 97 + 10 := by omega);go_wp2_with (go_at_call 120; refine (HLOW.out _).mono ?_; rintro e w' ⟨rfl, rfl⟩; (try clear hcell); (try clear d1); (try clear d2); (try clear e95); (try clear hcb); (try clear hcut); (try clear hacc); (try clear hk); (try clear hl255); (try clear hcv))
         go_ret2
         exact ⟨Or.inr ⟨HO.out, rfl⟩, HB.out⟩
        ·
         (have l2 : ¬ (l : Int) ≤ 122 := by omega);go_wp2_with (go_at_call 120; refine (HLOW.out _).mono ?_; rintro e w' ⟨rfl, rfl⟩; (try clear hcell); (try clear d1); (try clear d2); (try clear e95); (try clear hcb); (try clear hcut); (try clear hacc); (try clear hk); (try clear hl255); (try clear hcv))
         go_ret2
         exact ⟨Or.inr ⟨HO.out, rfl⟩, HB.out⟩
      ·
       (have l1 : ¬ (97 : Int) ≤ l := by omega);have HO := Lib.hid (show hexL 0 t = none from by rw [HR.out, OD.out, HLX2.out.2 (fun q => l97 q.1)]);clear OD HR HLX2;go_wp2_with (go_at_call 120; refine (HLOW.out _).mono ?_; rintro e w' ⟨rfl, rfl⟩; (try clear hcell); (try clear d1); (try clear d2); (try clear e95); (try clear hcb); (try clear hcut); (try clear hacc); (try clear hk); (try clear hl255); (try clear hcv))
       go_ret2
       exact ⟨Or.inr ⟨HO.out, rfl⟩, HB.out⟩
     ·
      (have d1 : ¬ (48 : Int) ≤ c := by omega);clear hd;by_cases l97 : 97 ≤ l
      ·
       (have l1 : (97 : Int) ≤ l := by omega);by_cases l102 : l ≤ 102
       ·
        have HO := Lib.hid (show hexL 0 t = hexL (acc * 16 + (l - 97 + 10)) (t.drop (k + 1)) from by rw [HR.out, OD.out, HLX2.out.1 ⟨l97, l102⟩]);(have l2 : (l : Int) ≤ 122 := by omega);(have l4 : ¬ (16 : Int) ≤ (l : Int) - 97 + 10 := by omega);(have s1 : ((acc : Nat) : Int) * 16 + ((l : Int) - 97 + 10) ≤ 255 := by omega);have hcutB : decide ((1152921504606846976 : Int) ≤ ((acc : Nat) : Int)) = false := decide_eq_false hcut;have HD15 := Lib.hid (show l - 97 + 10 ≤ 15 by omega);have HL97 := Lib.hid (And.intro l97 hacc);clear OD HR HLX2 l97 l102 hcut;go_wp2_with (go_at_call 120; refine (HLOW.out _).mono ?_; rintro e w' ⟨rfl, rfl⟩; (try clear hcell); (try clear d1); (try clear d2); (try clear e95); (try clear hcb); (try clear hl255); (try clear hcv); (try clear hacc); (try clear hd9))
        go_round
        (case rel => exact ⟨k + 1, acc * 16 + (l - 97 + 10), by omega, rfl, by go_num, congrArg (Value.int .u64) (by have := HL97.out; omega), Lib.hid (by have h5 := HD15.out; have h6 := HL97.out; rcases HACC.out with ⟨h, h'⟩ | ⟨h, h'⟩ | ⟨h, h'⟩ <;> omega), HO⟩);case measure => simp [intOf]; omega
       ·
        have HO := Lib.hid (show hexL 0 t = none from by rw [HR.out, OD.out, HLX2.out.2 (fun q => l102 q.2)]);clear OD HR HLX2;by_cases l122 : l ≤ 122
        ·
         (have l2 : (l : Int) ≤ 122 := by omega);(have l4 : (16 : Int) ≤ (l : Int) - 97 + 10 := by omega);go_wp2_with (go_at_call 120; refine (HLOW.out _).mono ?_; rintro e w' ⟨rfl, rfl⟩; (try clear hcell); (try clear d1); (try clear d2); (try clear e95); (try clear hcb); (try clear hcut); (try clear hacc); (try clear hk); (try clear hl255); (try clear hcv))
         go_ret2
         exact ⟨Or.inr ⟨HO.out, rfl⟩, HB.out⟩
        ·
         (have l2 : ¬ (l : Int) ≤ 122 := by omega);go_wp2_with (go_at_call 120; refine (HLOW.out _).mono ?_; rintro e w' ⟨rfl, rfl⟩; (try clear hcell); (try clear d1); (try clear d2); (try clear e95); (try clear hcb); (try clear hcut); (try clear hacc); (try clear hk); (try clear hl255); (try clear hcv))
         go_ret2
         exact ⟨Or.inr ⟨HO.out, rfl⟩, HB.out⟩
      ·
       (have l1 : ¬ (97 : Int) ≤ l := by omega);have HO := Lib.hid (show hexL 0 t = none from by rw [HR.out, OD.out, HLX2.out.2 (fun q => l97 q.1)]);clear OD HR HLX2;go_wp2_with (go_at_call 120; refine (HLOW.out _).mono ?_; rintro e w' ⟨rfl, rfl⟩; (try clear hcell); (try clear d1); (try clear d2); (try clear e95); (try clear hcb); (try clear hcut); (try clear hacc); (try clear hk); (try clear hl255); (try clear hcv))
       go_ret2
       exact ⟨Or.inr ⟨HO.out, rfl⟩, HB.out⟩
    ·
     by_cases d48 : 48 ≤ c
     ·
      (have d1 : (48 : Int) ≤ c := by omega);(have d2 : ¬ (c : Int) ≤ 57 := by omega);clear hd;by_cases l97 : 97 ≤ l
      ·
       (have l1 : (97 : Int) ≤ l := by omega);by_cases l102 : l ≤ 102
       ·
        have HO := Lib.hid (show hexL 0 t = hexL (acc * 16 + (l - 97 + 10)) (t.drop (k + 1)) from by rw [HR.out, OD.out, HLX2.out.1 ⟨l97, l102⟩]);(have l2 : (l : Int) ≤ 122 := by omega);(have l4 : ¬ (16 : Int) ≤ (l : Int) - 97 + 10 := by omega);(have s1 : ((acc : Nat) : Int) * 16 + ((l : Int) - 97 + 10) ≤ 255 := by omega);have hcutB : decide ((1152921504606846976 : Int) ≤ ((acc : Nat) : Int)) = false := decide_eq_false hcut;have HD15 := Lib.hid (show l - 97 + 10 ≤ 15 by omega);have HL97 := Lib.hid (And.intro l97 hacc);clear OD HR HLX2 l97 l102 hcut;go_wp2_with (go_at_call 120; refine (HLOW.out _).mono ?_; rintro e w' ⟨rfl, rfl⟩; (try clear hcell); (try clear d1); (try clear d2); (try clear e95); (try clear hcb); (try clear hl255); (try clear hcv); (try clear hacc); (try clear hd9))
        go_round
        (case rel => exact ⟨k + 1, acc * 16 + (l - 97 + 10), by omega, rfl, by go_num, congrArg (Value.int .u64) (by have := HL97.out; omega), Lib.hid (by have h5 := HD15.out; have h6 := HL97.out; rcases HACC.out with ⟨h, h'⟩ | ⟨h, h'⟩ | ⟨h, h'⟩ <;> omega), HO⟩);case measure => simp [intOf]; omega
       ·
        have HO := Lib.hid (show hexL 0 t = none from by rw [HR.out, OD.out, HLX2.out.2 (fun q => l102 q.2)]);clear OD HR HLX2;by_cases l122 : l ≤ 122
        ·
         (have l2 : (l : Int) ≤ 122 := by omega);(have l4 : (16 : Int) ≤ (l : Int) - 97 + 10 := by omega);go_wp2_with (go_at_call 120; refine (HLOW.out _).mono ?_; rintro e w' ⟨rfl, rfl⟩; (try clear hcell); (try clear d1); (try clear d2); (try clear e95); (try clear hcb); (try clear hcut); (try clear hacc); (try clear hk); (try clear hl255); (try clear hcv))
         go_ret2
         exact ⟨Or.inr ⟨HO.out, rfl⟩, HB.out⟩
        ·
         (have l2 : ¬ (l : Int) ≤ 122 := by omega);go_wp2_with (go_at_call 120; refine (HLOW.out _).mono ?_; rintro e w' ⟨rfl, rfl⟩; (try clear hcell); (try clear d1); (try clear d2); (try clear e95); (try clear hcb); (try clear hcut); (try clear hacc); (try clear hk); (try clear hl255); (try clear hcv))
         go_ret2
         exact ⟨Or.inr ⟨HO.out, rfl⟩, HB.out⟩
      ·
       (have l1 : ¬ (97 : Int) ≤ l := by omega);have HO := Lib.hid (show hexL 0 t = none from by rw [HR.out, OD.out, HLX2.out.2 (fun q => l97 q.1)]);clear OD HR HLX2;go_wp2_with (go_at_call 120; refine (HLOW.out _).mono ?_; rintro e w' ⟨rfl, rfl⟩; (try clear hcell); (try clear d1); (try clear d2); (try clear e95); (try clear hcb); (try clear hcut); (try clear hacc); (try clear hk); (try clear hl255); (try clear hcv))
       go_ret2
       exact ⟨Or.inr ⟨HO.out, rfl⟩, HB.out⟩
     ·
      (have d1 : ¬ (48 : Int) ≤ c := by omega);clear hd;by_cases l97 : 97 ≤ l
      ·
       (have l1 : (97 : Int) ≤ l := by omega);by_cases l102 : l ≤ 102
       ·
        have HO := Lib.hid (show hexL 0 t = hexL (acc * 16 + (l - 97 + 10)) (t.drop (k + 1)) from by rw [HR.out, OD.out, HLX2.out.1 ⟨l97, l102⟩]);(have l2 : (l : Int) ≤ 122 := by omega);(have l4 : ¬ (16 : Int) ≤ (l : Int) - 97 + 10 := by omega);(have s1 : ((acc : Nat) : Int) * 16 + ((l : Int) - 97 + 10) ≤ 255 := by omega);have hcutB : decide ((1152921504606846976 : Int) ≤ ((acc : Nat) : Int)) = false := decide_eq_false hcut;have HD15 := Lib.hid (show l - 97 + 10 ≤ 15 by omega);have HL97 := Lib.hid (And.intro l97 hacc);clear OD HR HLX2 l97 l102 hcut;go_wp2_with (go_at_call 120; refine (HLOW.out _).mono ?_; rintro e w' ⟨rfl, rfl⟩; (try clear hcell); (try clear d1); (try clear d2); (try clear e95); (try clear hcb); (try clear hl255); (try clear hcv); (try clear hacc); (try clear hd9))
        go_round
        (case rel => exact ⟨k + 1, acc * 16 + (l - 97 + 10), by omega, rfl, by go_num, congrArg (Value.int .u64) (by have := HL97.out; omega), Lib.hid (by have h5 := HD15.out; have h6 := HL97.out; rcases HACC.out with ⟨h, h'⟩ | ⟨h, h'⟩ | ⟨h, h'⟩ <;> omega), HO⟩);case measure => simp [intOf]; omega
       ·
        have HO := Lib.hid (show hexL 0 t = none from by rw [HR.out, OD.out, HLX2.out.2 (fun q => l102 q.2)]);clear OD HR HLX2;by_cases l122 : l ≤ 122
        ·
         (have l2 : (l : Int) ≤ 122 := by omega);(have l4 : (16 : Int) ≤ (l : Int) - 97 + 10 := by omega);go_wp2_with (go_at_call 120; refine (HLOW.out _).mono ?_; rintro e w' ⟨rfl, rfl⟩; (try clear hcell); (try clear d1); (try clear d2); (try clear e95); (try clear hcb); (try clear hcut); (try clear hacc); (try clear hk); (try clear hl255); (try clear hcv))
         go_ret2
         exact ⟨Or.inr ⟨HO.out, rfl⟩, HB.out⟩
        ·
         (have l2 : ¬ (l : Int) ≤ 122 := by omega);go_wp2_with (go_at_call 120; refine (HLOW.out _).mono ?_; rintro e w' ⟨rfl, rfl⟩; (try clear hcell); (try clear d1); (try clear d2); (try clear e95); (try clear hcb); (try clear hcut); (try clear hacc); (try clear hk); (try clear hl255); (try clear hcv))
         go_ret2
         exact ⟨Or.inr ⟨HO.out, rfl⟩, HB.out⟩
      ·
       (have l1 : ¬ (97 : Int) ≤ l := by omega);have HO := Lib.hid (show hexL 0 t = none from by rw [HR.out, OD.out, HLX2.out.2 (fun q => l97 q.1)]);clear OD HR HLX2;go_wp2_with (go_at_call 120; refine (HLOW.out _).mono ?_; rintro e w' ⟨rfl, rfl⟩; (try clear hcell); (try clear d1); (try clear d2); (try clear e95); (try clear hcb); (try clear hcut); (try clear hacc); (try clear hk); (try clear hl255); (try clear hcv))
       go_ret2
       exact ⟨Or.inr ⟨HO.out, rfl⟩, HB.out⟩
  ·
   (obtain rfl : k = t.length := by omega);have HO := Lib.hid (show hexL 0 t = some acc from by rw [HR.out, List.drop_of_length_le (by omega)]; rfl);clear HR HC;go_wp2
   go_ret2
   exact ⟨Or.inl ⟨acc, HO.out, rfl⟩, HB.out⟩
/-- The library's two sentinels lie in their variables. -/
structure Errs (w : World) : Prop where
 syn : ∃ ev, w.cell? ⟨2, 0, none⟩ = some ev ∧ (ev = .nilIface ∨ ∃ te pe, ev = .iface te pe)
 rng : ∃ ev, w.cell? ⟨3, 0, none⟩ = some ev ∧ (ev = .nilIface ∨ ∃ te pe, ev = .iface te pe)
 l1 : 2 < w.heap.size
 l2 : 3 < w.heap.size
theorem Errs.below {w w' : World} (h : Errs w) (hb : Below w.heap.size w w') : Errs w' where
 syn := by obtain ⟨ev, h1, h2⟩ := h.syn; exact ⟨ev, (hb.cell (p := ⟨2, 0, none⟩) h.l1).trans h1, h2⟩
 rng := by obtain ⟨ev, h1, h2⟩ := h.rng; exact ⟨ev, (hb.cell (p := ⟨3, 0, none⟩) h.l2).trans h1, h2⟩
 l1 := Nat.lt_of_lt_of_le h.l1 hb.size
 l2 := Nat.lt_of_lt_of_le h.l2 hb.size
/-- What the public ParseUint answers: a number below 256 and no error, or 0 and one. -/
def Pub (t : List UInt8) (e : Ending) : Prop :=
 (∃ x : Nat, hexL 0 t = some x ∧ e = .returned (.tuple #[.int .u64 x, .nilIface])) ∨ (hexL 0 t = none ∧ ∃ (te : TypeId) (pe : Value), e = .returned (.tuple #[.int .u64 0, .iface te pe]))
theorem pub16_any (t : List UInt8) (h1 : 1 ≤ t.length) (h3 : t.length ≤ 2) (w : World) (hE : Errs w) :
  Calls Tryz.prog 81 #[S t, E 16, E 8] w fun e w' => Pub t e ∧ Below w.heap.size w w' := by
 have HP := Lib.hid (parse16_any t h1 h3 w);have HE := Lib.hid hE;clear hE;(have hsz : (ByteArray.mk t.toArray).size ≤ 281474976710656 := by simp [ByteArray.size]; omega);have HSZ := Lib.hid hsz;clear hsz;go_enter Tryz.func81, Tryz.ntmps81;go_wp2_with (go_at_call 103; refine HP.out.mono ?_);rintro e w1 ⟨hp | ⟨ho, he⟩, hb⟩
 ·
  obtain ⟨x, ho, rfl⟩ := hp;(have HO : Hid (∀ e : Ending, e = .returned (.tuple #[.int .u64 x, .nilIface]) → Pub t e) := Lib.hid fun e he => Or.inl ⟨x, ho, he⟩);have HB := Lib.hid hb;clear ho hb;go_wp2
  go_ret2
  exact ⟨HO.out _ rfl, HB.out⟩
 ·
  subst he;(have HO : Hid (∀ (e : Ending) (te : TypeId) (pe : Value), e = .returned (.tuple #[.int .u64 0, .iface te pe]) → Pub t e) := Lib.hid fun e te pe he => Or.inr ⟨ho, te, pe, he⟩);have HB := Lib.hid hb;have HE1 := HE.out.below hb;obtain ⟨es, s1, s2⟩ := HE1.syn;clear ho hb HE1;have HT := Lib.hid (Tryz.strconv_toError_syntax ⟨#[80, 97, 114, 115, 101, 85, 105, 110, 116]⟩ ⟨t.toArray⟩ 16 8 es w1 HSZ.out s1 s2);clear s1 s2;go_wp2_with (go_at_call 104; refine HT.out.mono ?_; rintro e w2 ⟨N, rfl, _, _, hb2⟩; have HB2 := Lib.hid (HB.out.trans (hb2.mono HB.out.size)); clear hb2)
  go_ret2
  exact ⟨HO.out _ _ _ rfl, HB2.out⟩
theorem hexL_pair (c d : UInt8) : (∃ x y, hexV c = some x ∧ hexV d = some y ∧ hexL 0 [c, d] = some (x * 16 + y) ∧ pairV c d = (x * 16 + y, true)) ∨ (hexL 0 [c, d] = none ∧ pairV c d = (0, false)) := by
 unfold pairV;cases h1 : hexV c with
 | none => right; exact ⟨by unfold hexL; rw [h1], rfl⟩
 | some x =>
  cases h2 : hexV d with
  | none => right; exact ⟨by unfold hexL; rw [h1]; show hexL _ [d] = none; unfold hexL; rw [h2], rfl⟩
  | some y => left; exact ⟨x, y, rfl, rfl, by unfold hexL; rw [h1]; show hexL _ [d] = _; unfold hexL; rw [h2]; show some _ = some _; congr 1; omega, rfl⟩
open Go.Proofs.YtlicoffnjphphaaGreatDoor.Ad (cutB cutB_at atoiV dec_len)
open Go.Proofs.YtlicoffnjphphaaGreatDoor.St (Tab)
theorem ibyte (c : UInt8) : ∀ l : List UInt8, (Lib.indexByte l c = -1 ∧ cutB c l = (l, [], false)) ∨ (∃ k : Nat, k < l.length ∧ Lib.indexByte l c = (k : Int) ∧ cutB c l = (l.take k, l.drop (k + 1), true))
 | [] => by left; exact ⟨rfl, rfl⟩
 | b :: r => by
  unfold Lib.indexByte cutB;by_cases h : b = c
  · right;subst h;exact ⟨0, by simp, by simp, by simp⟩
  ·
   (have hB : (b == c) = false := by rw [beq_eq_false_iff_ne]; exact h);rw [hB, if_neg h];rcases ibyte c r with ⟨h1, h2⟩ | ⟨k, h0, h1, h2⟩
   · left;rw [h1, h2];exact ⟨rfl, rfl⟩
   ·
    right;refine ⟨k + 1, by simp; omega, ?_, ?_⟩
    · rw [h1];(have hn : ((k : Int) == -1) = false := by rw [beq_eq_false_iff_ne]; omega);rw [hn];simp
    · rw [h2]; simp
theorem ex_take {l : List UInt8} (k : Nat) : (⟨l.toArray⟩ : ByteArray).extract 0 k = ⟨(l.take k).toArray⟩ := by
 rw [Go.Lib.extract_eq]; simp
theorem ex_drop {l : List UInt8} (k : Nat) : (⟨l.toArray⟩ : ByteArray).extract k l.length = ⟨(l.drop k).toArray⟩ := by
 rw [Go.Lib.extract_eq];simp only;rw [List.take_of_length_le (by simp)]
abbrev CutR (c : UInt8) (l : List UInt8) : Ending := .returned (.tuple #[S (cutB c l).1, S (cutB c l).2.1, .bool (cutB c l).2.2])
theorem scut_any (l : List UInt8) (c : UInt8) (w : World) (hl : l.length ≤ 100000) :
  Calls Tryz.prog 119 #[S l, S [c]] w fun e w' => e = CutR c l ∧ Below w.heap.size w w' := by
 (have hsz : (ByteArray.mk l.toArray).size = l.length := by simp [ByteArray.size]);(have hs1 : (ByteArray.mk #[c]).size = 1 := by rfl);have HI : Hid (∀ w, Calls Tryz.prog 135 #[S l, .string ⟨#[c]⟩] w fun e w' => e = .returned (E (Lib.indexByte l c)) ∧ w' = w) := Lib.hid (fun w => by
  have h := Tryz.stringslite_Index_one ⟨l.toArray⟩ c w;simpa using h)
 rcases ibyte c l with ⟨h1, h2⟩ | ⟨k, h0, h1, h2⟩
 ·
  have HO := Lib.hid h2;clear h2;rw [h1] at HI;go_enter Tryz.func119, Tryz.ntmps119;go_wp2_with (go_at_call 135; refine (HI.out _).mono ?_; rintro e w' ⟨rfl, rfl⟩)
  go_ret3
  exact ⟨by unfold CutR; rw [HO.out]; rfl, Below.refl _ _⟩
 ·
  have HO := Lib.hid h2;clear h2;rw [h1] at HI;have e1 := ex_take (l := l) k;have e2 := ex_drop (l := l) (k + 1);(have hk : ((k : Nat) : Int) ≤ ((l.length : Nat) : Int) := by omega);(have hk1 : ((k : Nat) : Int) + 1 ≤ ((l.length : Nat) : Int) := by omega);(have hk2 : (((k : Nat) : Int) + 1).toNat = k + 1 := by omega);go_enter Tryz.func119, Tryz.ntmps119;go_wp2_with (go_at_call 135; refine (HI.out _).mono ?_; rintro e w' ⟨rfl, rfl⟩);go_region;go_wp2
  go_ret3
  exact ⟨by unfold CutR; rw [HO.out]; rfl, (Below.refl _ _).drew⟩
theorem cut_any (l : List UInt8) (c : UInt8) (w : World) (hl : l.length ≤ 100000) :
  Calls Tryz.prog 102 #[S l, S [c]] w fun e w' => e = CutR c l ∧ Below w.heap.size w w' := by
 have HC := Lib.hid (fun w => scut_any l c w hl);unfold CutR at *;go_enter Tryz.func102, Tryz.ntmps102;go_wp2_with (go_at_call 119; refine (HC.out _).mono ?_; rintro e w' ⟨rfl, hb⟩; have HB := Lib.hid hb; clear hb)
 go_ret3
 exact ⟨rfl, HB.out⟩
/-- What the library's functions find in its variables. -/
structure Lay (w : World) : Prop where
 tab : Tab w
 tl : 0 < w.heap.size
 pow : Go.Lib.TabIs Tryz.prog w "internal/strconv.uint64pow10" .u64 Go.Lib.pow10Tab
 err : Errs w
theorem gPow : Tryz.prog.globalNamed "internal/strconv.uint64pow10" = some 1 := by kernel_rfl
theorem Lay.below {w w' : World} (h : Lay w) (hb : Below w.heap.size w w') : Lay w' :=
 ⟨h.tab.below hb h.tl, Nat.lt_of_lt_of_le h.tl hb.size, Go.Joins.tab_stays gPow h.pow hb (Nat.le_refl _), h.err.below hb⟩
theorem below_grow (w : World) (os : Array Obj) : Below w.heap.size w (Go.Sort.grow w os) := ⟨rfl, rfl, rfl, by simp, fun k hk => Go.Sort.heap_grow_old w os hk⟩
theorem itoa_any (n : Int) (h0 : -1 ≤ n) (h1 : n ≤ 999999999) (w : World) (hL : Lay w) :
  Calls Tryz.prog 67 #[E n] w fun e w' => e = .returned (S (Lib.itoa n)) ∧ Below w.heap.size w w' := by
 refine (Tryz.strconv_Itoa n (by omega) (by omega) w hL.pow).mono ?_;rintro e w' ⟨rfl, k, os, rfl⟩;exact ⟨rfl, (Go.Joins.below_draws w.heap.size w k).trans (below_grow (w.drewN k) os)⟩
/-- The error of Atoi. -/
def ErrIs (ok : Bool) (ev : Value) : Prop := if ok = true then ev = .nilIface else ∃ (te : TypeId) (pe : Value), ev = .iface te pe
theorem atoi_any (l : List UInt8) (w : World) (hL : Lay w) (hl : l.length ≤ 100000) :
  Calls Tryz.prog 84 #[S l] w fun e w' => ∃ ev, ErrIs (atoiK l) ev ∧ e = .returned (.tuple #[E (atoiV l), ev]) ∧ Below w.heap.size w w' := by
 (have hsz : (ByteArray.mk l.toArray).size = l.length := by simp [ByteArray.size]);(have hd : (ByteArray.mk l.toArray).data.toList = l := by simp);unfold atoiV atoiK;cases h : Lib.atoiAll l with
 | ok v =>
  refine (Tryz.strconv_Atoi_ok ⟨l.toArray⟩ (by rw [hsz]; omega) v (by rw [hd]; exact h) w).mono ?_;rintro e w' ⟨rfl, rfl | ⟨t, rfl⟩⟩
  · exact ⟨_, rfl, rfl, Below.refl _ _⟩
  · exact ⟨_, rfl, rfl, Go.Joins.below_bytesWorld _ _ _ _ (Nat.le_refl _)⟩
 | «syntax» =>
  obtain ⟨ev, hv, hev⟩ := hL.err.syn;refine (Tryz.strconv_Atoi_syntax ⟨l.toArray⟩ (by rw [hsz]; omega) (by rw [hd]; exact h) ev w hv hev).mono ?_;rintro e w' ⟨N, rfl, _, _, hb⟩;exact ⟨_, ⟨_, _, rfl⟩, rfl, hb⟩
 | range =>
  obtain ⟨ev, hv, hev⟩ := hL.err.rng;refine (Tryz.strconv_Atoi_range ⟨l.toArray⟩ (by rw [hsz]; omega) (by rw [hd]; exact h) ev w hv hev).mono ?_;rintro e w' ⟨N, rfl, _, _, hb⟩;exact ⟨_, ⟨_, _, rfl⟩, by rw [hd], hb⟩
end Go.Proofs.YtlicoffnjphphaaGreatDoor.Rx
