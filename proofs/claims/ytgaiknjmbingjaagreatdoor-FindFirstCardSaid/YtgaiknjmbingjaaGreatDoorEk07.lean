/- The texts Tk St1 M6t RxGr RxTx StPop SlA RxFmt. -/
import Derived.Deep.RegionHeld
import Derived.Tactics
import Derived.RegionTactic
import Derived.Deep.AppendLies
import Derived.StillTailTactics
import Derived.Lib.Builder
import Derived.BigRegion
import Derived.Laws.Bits128
import Derived.RangeFuncNested
import Derived.RangeFuncBound
import Derived.RangeFuncCalls
import Derived.RangeFuncLeaves
import Derived.Shelf.Abstract
import Derived.Shelf.RegionOpen
import Derived.OwnWalkIn
import Derived.TacticsInMore
import Derived.LoopNIn
import Derived.LoopIn
import Derived.Shelf.Spec.TrailingZeros
import Derived.Test.YtgaiknjmbingjaaGreatDoorEk06
set_option linter.unusedVariables false
set_option linter.unusedSimpArgs false
set_option maxHeartbeats 3200000
set_option maxRecDepth 100000
namespace Go.Proofs.YtgaiknjmbingjaaGreatDoor
theorem Hd {p : Prop} (h : p) : RowKit.Hid p := h
theorem An {a b : Prop} (x : a) (y : b) : a /\ b := ⟨x, y⟩
end Go.Proofs.YtgaiknjmbingjaaGreatDoor
namespace Go.Proofs.YtgaiknjmbingjaaGreatDoor.Tk
section
variable {P : Program} {ops : Array Oper} {Q : Exit -> Act -> World -> Prop} {md : Region.Mode} {S : World -> Prop}
theorem t (i : Nat) {oi : Oper} {v : Value} {fuel : Nat} {listed : Array Bool} {a a' : Act} {w : World} (h : wpAnyH P md ops Q S fuel (listed.setIfInBounds i true) a' w)
  (hi : ops[i]? = some oi := by simp only [List.getElem?_toArray, List.getElem?_cons_succ, List.getElem?_cons_zero]; rfl)
  (hs : Region.noSelect ops = true := by kernel_rfl) (hf : Region.free md ops listed i = true := by kernel_rfl) (hr : (Region.ready md ops listed).contains i = true := by kernel_rfl)
  (hQ : ∀ c a w, Q (.panic c) (a.put oi.dst v) w -> Q (.panic c) a w := by exact fun _ _ _ h => h)
  (hg : Region.wanted oi (yielded ops a.tmps) = true := by rfl)
  (hy : ∀ w, S w -> (execOp a.eval oi).run P w = .ok (.value v) w := by (intro w hSw; (try dsimp only at hSw); go_simp) <;> with_reducible rfl)
  (hS : S w := by assumption)
  (ha : a.put oi.dst v = a' := by simp only [Act.put, List.setIfInBounds_toArray, List.set_cons_zero, List.set_cons_succ] <;> rfl) : wpAnyH P md ops Q S (fuel + 1) listed a w := by
 subst ha;exact wpAnyH_take hi hs hf hr hQ (Or.inl ⟨hg, hy⟩) hS h
theorem p (i : Nat) {oi : Oper} {fuel : Nat} {listed : Array Bool} {a a' : Act} {w : World} (h : wpAnyH P md ops Q S fuel (listed.setIfInBounds i true) a' w)
  (hi : ops[i]? = some oi := by simp only [List.getElem?_toArray, List.getElem?_cons_succ, List.getElem?_cons_zero]; rfl)
  (hs : Region.noSelect ops = true := by kernel_rfl) (hf : Region.free md ops listed i = true := by kernel_rfl) (hr : (Region.ready md ops listed).contains i = true := by kernel_rfl)
  (hQ : ∀ c a w, Q (.panic c) (a.put oi.dst undef) w -> Q (.panic c) a w := by exact fun _ _ _ h => h)
  (hg : Region.wanted oi (yielded ops a.tmps) = false := by rfl)
  (hS : S w := by assumption)
  (ha : a.put oi.dst undef = a' := by simp only [Act.put, List.setIfInBounds_toArray, List.set_cons_zero, List.set_cons_succ] <;> rfl) : wpAnyH P md ops Q S (fuel + 1) listed a w := by
 subst ha;exact wpAnyH_take hi hs hf hr hQ (Or.inr ⟨hg, rfl⟩) hS h
theorem k {F : World -> Prop} (hf : ∀ w, S w -> F w) (i : Nat) {oi : Oper} {v : Value} {fuel : Nat} {listed : Array Bool} {a a' : Act} {w : World} (h : wpAnyH P md ops Q S fuel (listed.setIfInBounds i true) a' w)
  (hi : ops[i]? = some oi := by simp only [List.getElem?_toArray, List.getElem?_cons_succ, List.getElem?_cons_zero]; rfl)
  (hs : Region.noSelect ops = true := by kernel_rfl) (hff : Region.free md ops listed i = true := by kernel_rfl) (hr : (Region.ready md ops listed).contains i = true := by kernel_rfl)
  (hQ : ∀ c a w, Q (.panic c) (a.put oi.dst v) w -> Q (.panic c) a w := by exact fun _ _ _ h => h)
  (hg : Region.wanted oi (yielded ops a.tmps) = true := by rfl)
  (hy : ∀ w, S w -> F w -> (execOp a.eval oi).run P w = .ok (.value v) w := by (intro w hSw hFw; (try dsimp only at hSw); (try dsimp only at hFw); go_simp) <;> with_reducible rfl)
  (hS : S w := by assumption)
  (ha : a.put oi.dst v = a' := by simp only [Act.put, List.setIfInBounds_toArray, List.set_cons_zero, List.set_cons_succ] <;> rfl) : wpAnyH P md ops Q S (fuel + 1) listed a w := by
 subst ha;exact wpAnyH_take hi hs hff hr hQ (Or.inl ⟨hg, fun w h => hy w h (hf w h)⟩) hS h
theorem o (i : Nat) {o : Oper} {fuel : Nat} {listed : Array Bool} {a : Act} {w : World} (h : ∀ K' : Act -> World -> Prop, Shut (∀ a w, S w -> (S w -> wpAnyH P md ops Q S fuel (listed.setIfInBounds i true) a w) -> K' a w) -> if Region.wanted o (yielded ops a.tmps) = true then Oper.wp P o a w K' Q else K' (a.put o.dst undef) w) (hr : Region.ready md ops listed = [i] := by kernel_rfl)
  (ho : ops[i]? = some o := by simp only [List.getElem?_toArray, List.getElem?_cons_succ, List.getElem?_cons_zero]; rfl) : wpAnyH P md ops Q S (fuel + 1) listed a w :=
 wpAnyH_ready hr (List.cons_ne_nil _ _) (AllReadyH.cons ho h AllReadyH.nil)
theorem w {fuel : Nat} {listed : Array Bool} {a a' : Act} {w : World} (h : wpAnyH P md ops Q S fuel listed a' w) (ha : a = a' := by first | (simp only [Act.put, List.setIfInBounds_toArray, List.set_cons_zero, List.set_cons_succ] <;> rfl) | rfl) : wpAnyH P md ops Q S fuel listed a w := ha ▸ h
theorem g {id : Nat} {a : Act} {w : World} {Q : Exit -> Act -> World -> Prop} (S : World -> Prop) (hS : S w.drew)
  (h : S w.drew -> wpAnyH P .any ops (NoPanic fun e a w => Q e a w) S ops.size (Array.replicate ops.size false) a w.drew) (hm : P.follows .mixedOrders = true := by kernel_rfl) : (Code.region id ops true).wp P Q a w :=
 wp_region_noPanic (wp_region_held_drew hm hS h)
theorem y (i j : Nat) {o1 o2 : Oper} {fuel : Nat} {listed : Array Bool} {a : Act} {w : World} (h1 : ∀ K' : Act -> World -> Prop, Shut (∀ a w, S w -> (S w -> wpAnyH P md ops Q S fuel (listed.setIfInBounds i true) a w) -> K' a w) -> if Region.wanted o1 (yielded ops a.tmps) = true then Oper.wp P o1 a w K' Q else K' (a.put o1.dst undef) w)
  (h2 : ∀ K' : Act -> World -> Prop, Shut (∀ a w, S w -> (S w -> wpAnyH P md ops Q S fuel (listed.setIfInBounds j true) a w) -> K' a w) -> if Region.wanted o2 (yielded ops a.tmps) = true then Oper.wp P o2 a w K' Q else K' (a.put o2.dst undef) w) (hr : Region.ready md ops listed = [i, j] := by kernel_rfl)
  (ho1 : ops[i]? = some o1 := by simp only [List.getElem?_toArray, List.getElem?_cons_succ, List.getElem?_cons_zero]; rfl) (ho2 : ops[j]? = some o2 := by simp only [List.getElem?_toArray, List.getElem?_cons_succ, List.getElem?_cons_zero]; rfl) : wpAnyH P md ops Q S (fuel + 1) listed a w :=
 wpAnyH_ready hr (List.cons_ne_nil _ _) (AllReadyH.cons ho1 h1 (AllReadyH.cons ho2 h2 AllReadyH.nil))
theorem d {R : Exit -> Act -> World -> Prop} {listed : Array Bool} {a : Act} {w : World} {fuel : Nat} (h : R .normal a w) (hr : Region.ready md ops listed = [] := by kernel_rfl) : wpAnyH P md ops (NoPanic R) S fuel listed a w := wpAnyH_done hr (NoPanic.normal h) _
end
end Go.Proofs.YtgaiknjmbingjaaGreatDoor.Tk
namespace Go.Proofs.YtgaiknjmbingjaaGreatDoor.St
open Go.RowKit
abbrev wc (ws : List Nat) : Array Value := (ws.map fun n : Nat => Value.int .u64 (n : Int)).toArray
abbrev SV (ws : List Nat) : Value := .agg (wc ws)
abbrev SB (w : World) (b : Nat) (ws : List Nat) : Prop := w.heap[b]? = some (.cells (wc ws) 44 (0, 0))
theorem SB.cell {w : World} {b : Nat} {ws : List Nat} (h : SB w b ws) (hw : Wf ws) {i : Nat} (hi : i < 4) : w.cell? ⟨b, i, none⟩ = some (.int .u64 (word ws i : Int)) := by
 rw [Lib.cell_of_heap h]; simp [word_get hw hi]
theorem heap_set_at {w : World} {b : Nat} {c : Array Value} {t : TypeId} {f : Nat × Nat} (h : w.heap[b]? = some (.cells c t f)) (i : Nat) (v : Value) : (w.setCell ⟨b, i, none⟩ v).heap[b]? = some (.cells (c.setIfInBounds i v) t f) := by
 simp only [World.setCell, Array.getElem?_modify, if_true, h]; rfl
theorem heap_set_other {w : World} {b b' : Nat} {o : Obj} (h : w.heap[b']? = some o) (hb : b ≠ b') (i : Nat) (v : Value) : (w.setCell ⟨b, i, none⟩ v).heap[b']? = some o := by
 simp only [World.setCell, Array.getElem?_modify, h];rw [if_neg hb]
theorem SB.set {w : World} {b : Nat} {ws : List Nat} (h : SB w b ws) (i v : Nat) : SB (w.setCell ⟨b, i, none⟩ (.int .u64 (v : Int))) b (ws.set i v) := by
 unfold SB;rw [heap_set_at h];simp [wc, List.map_set]
theorem SV_eq {ws : List Nat} (h : Wf ws) : SV ws = .agg #[.int .u64 (word ws 0 : Int), .int .u64 (word ws 1 : Int), .int .u64 (word ws 2 : Int), .int .u64 (word ws 3 : Int)] := by
 obtain ⟨hl, _⟩ := h
 match ws, hl with
 | [a, b, c, d], _ => rfl
theorem SB.drew {w : World} {b : Nat} {ws : List Nat} (h : SB w b ws) : SB w.drew b ws := h
theorem pow64 (c : Nat) : 2 ^ (c % 64) < 18446744073709551616 := Nat.pow_lt_pow_right (a := 2) (n := 64) (by decide) (Nat.mod_lt _ (by decide))
theorem wrap_pow (c : Nat) : IntKind.u64.wrap (2 ^ (c % 64)) = ((2 ^ (c % 64) : Nat) : Int) := by
 rw [IntKind.wrap_u64];have : (2 ^ (c % 64) : Nat) < 18446744073709551616 := pow64 c;(have e : ((2 ^ (c % 64) : Nat) : Int) = (2 : Int) ^ (c % 64) := by simp);rw [<- e];generalize 2 ^ (c % 64) = p at *;omega
theorem or_word {ws : List Nat} (h : Wf ws) (i c : Nat) : bits BinOp.or IntKind.u64 (word ws i : Int) (IntKind.u64.wrap (2 ^ (c % 64))) = ((word ws i ||| 2 ^ (c % 64) : Nat) : Int) := by
 rw [wrap_pow];exact u64_or_nat _ _ (word_lt h i) (pow64 c)
theorem SB.same {w : World} {b : Nat} {ws : List Nat} (h : SB w b ws) (hw : Wf ws) {i : Nat} (hi : i < 4) : SB (w.setCell ⟨b, i, none⟩ (.int .u64 (word ws i : Int))) b ws := by
 have h1 := h.set i (word ws i);have : ws.set i (word ws i) = ws := by
  apply List.ext_getElem?;intro k;rw [List.getElem?_set];by_cases hk : i = k
  · subst hk;rw [if_pos rfl, if_pos (by rw [hw.len]; exact hi), word_get hw hi]
  · rw [if_neg hk]
 rwa [this] at h1
theorem SB.again {w : World} {b : Nat} {ws : List Nat} (h : SB w b ws) (hw : Wf ws) :
  SB ((((w.setCell ⟨b, 0, none⟩ (.int .u64 (word ws 0 : Int))).setCell ⟨b, 1, none⟩ (.int .u64 (word ws 1 : Int))).setCell ⟨b, 2, none⟩ (.int .u64 (word ws 2 : Int))).setCell ⟨b, 3, none⟩ (.int .u64 (word ws 3 : Int))) b ws :=
 (((h.same hw (by omega)).same hw (by omega)).same hw (by omega)).same hw (by omega)
theorem below_again {B : Nat} {w0 w : World} {b : Nat} (h : Below B w0 w) (hb : B <= b) (x0 x1 x2 x3 : Value) :
  Below B w0 ((((w.setCell ⟨b, 0, none⟩ x0).setCell ⟨b, 1, none⟩ x1).setCell ⟨b, 2, none⟩ x2).setCell ⟨b, 3, none⟩ x3) :=
 (((h.setCell (p := ⟨b, 0, none⟩) hb _).setCell (p := ⟨b, 1, none⟩) hb _).setCell (p := ⟨b, 2, none⟩) hb _).setCell (p := ⟨b, 3, none⟩) hb _
theorem of_any (l : List UInt8) (w : World) (hl : l.length <= 1000000) :
  Calls Tryz.prog 66 #[.string ⟨l.toArray⟩] w fun e w' => e = .returned (SV (ofL l)) /\ Below w.heap.size w w' := by
 go_enter Tryz.func66, Tryz.ntmps66;go_wp2;go_loopw [3, 6] (fun _ i wr => ∃ k : Nat, k <= l.length /\ i = .int .i64 k /\ SB wr w.heap.size (ofL (l.take k)) /\ Below w.heap.size w wr) (fun _ i _ => l.length - (intOf i).toNat);(case atStart => exact ⟨0, Nat.zero_le _, rfl, heap_alloc_new w _, (Below.refl _ w).alloc (Nat.le_refl _) _⟩);case round =>
  obtain ⟨k, hk, rfl, hS, hB⟩ := hrel;by_cases hlt : k < l.length
  · have hcell : ((ByteArray.mk l.toArray)[k]'hlt) = l[k] := rfl;have hw := wf_ofL (l.take k);(have hsn : ofL (l.take (k + 1)) = add1 (ofL (l.take k)) l[k].toNat := by rw [List.take_succ_eq_append_getElem hlt, ofL_snoc]);have HSN := Lib.hid hsn;clear hsn;generalize ofL (l.take k) = ws at *;have hc0 := UInt8.toNat_lt l[k];(have en : ((l[k].toNat : Int) / 64).toNat = l[k].toNat / 64 := by omega);have c1 := hS.cell hw (i := ((l[k].toNat : Int) / 64).toNat) (by omega);have f1 := Lib.frozen_of_heap hS ((l[k].toNat : Int) / 64).toNat;have c1' := hS.cell hw (i := l[k].toNat / 64) (by omega);have f1' := Lib.frozen_of_heap hS (l[k].toNat / 64);clear en;(have h0 : 0 <= (l[k].toNat : Int) / 64 := by omega);(have h1 : (l[k].toNat : Int) / 64 < 4 := by omega);generalize l[k] = c at *;have ho := or_word hw (c.toNat / 64) c.toNat;go_wp2;go_region;go_wp2;go_roundw;(case rel => exact ⟨k + 1, by omega, by go_num, by rw [HSN.out]; exact SB.set hS _ _, hB.drew.setCell (Nat.le_refl _) _⟩);case measure => simp [intOf]; omega
  · (obtain rfl : k = l.length := by omega);have hw := wf_ofL (l.take l.length);have g0 := hS.cell hw (i := 0) (by omega);have g1 := hS.cell hw (i := 1) (by omega);have g2 := hS.cell hw (i := 2) (by omega);have g3 := hS.cell hw (i := 3) (by omega);have f0 := Lib.frozen_of_heap hS 0;have f1 := Lib.frozen_of_heap hS 1;have f2 := Lib.frozen_of_heap hS 2;have f3 := Lib.frozen_of_heap hS 3;have hSV := SV_eq hw;rw [List.take_of_length_le (Nat.le_refl _)] at *;have HSV := Lib.hid hSV;generalize hws : ofL l = ws at *;have HWS := Lib.hid hws;clear hws;have hS4 := hS.again hw;have hB4 := below_again hB (Nat.le_refl _) (.int .u64 (word ws 0 : Int)) (.int .u64 (word ws 1 : Int)) (.int .u64 (word ws 2 : Int)) (.int .u64 (word ws 3 : Int));clear hS hSV;go_wp2;generalize (((wr.setCell { block := w.heap.size, off := 0 } (Value.int IntKind.u64 ↑(word ws 0))).setCell { block := w.heap.size, off := 1 } (Value.int IntKind.u64 ↑(word ws 1))).setCell { block := w.heap.size, off := 2 } (Value.int IntKind.u64 ↑(word ws 2))).setCell { block := w.heap.size, off := 3 } (Value.int IntKind.u64 ↑(word ws 3)) = W at *;have k0 := hS4.cell hw (i := 0) (by omega);have k1 := hS4.cell hw (i := 1) (by omega);have k2 := hS4.cell hw (i := 2) (by omega);have k3 := hS4.cell hw (i := 3) (by omega);exact bodyPost_ret (v := SV ws) (by rw [HSV.out]; simp [results, Tryz.results66, go_sem, k0, k1, k2, k3]) rfl ⟨by rw [HWS.out], hB4⟩
end Go.Proofs.YtgaiknjmbingjaaGreatDoor.St
namespace Go.Proofs.YtgaiknjmbingjaaGreatDoor.Mt
open Go.RowKit Go.Shelf
open Rx
open Rx.Tr
open St (Wf word mem SV SV_eq)
def R3 (w : World) (gv : Value) (m k n : Nat) (F : Nat -> Nat -> Nat -> Bool) : Prop :=
 ∃ b cap, gv = .slice (some ⟨b, 0, none⟩) m cap /\ m <= cap /\ b < w.heap.size /\ ∀ x, x < k -> ∃ rv, w.cell? ⟨b, x, none⟩ = some rv /\ R2 w rv n n (F x)
theorem R3.below {w w' : World} {gv : Value} {m k n : Nat} {F : Nat -> Nat -> Nat -> Bool} (h : R3 w gv m k n F) (hb : Below w.heap.size w w') : R3 w' gv m k n F := by
 obtain ⟨b, cap, h1, h2, h3, h4⟩ := h;refine ⟨b, cap, h1, h2, Nat.lt_of_lt_of_le h3 hb.size, fun x hx => ?_⟩;obtain ⟨rv, h5, h6⟩ := h4 x hx;exact ⟨rv, (hb.cell h3).trans h5, h6.below hb⟩
theorem R3.row {w : World} {b m cap k n : Nat} {F : Nat -> Nat -> Nat -> Bool} (h : R3 w (.slice (some ⟨b, 0, none⟩) m cap) m k n F) {x : Nat} (hx : x < k) : ∃ rv, w.cell? ⟨b, x, none⟩ = some rv /\ R2 w rv n n (F x) := by
 obtain ⟨b', cap', h1, h2, h3, h4⟩ := h;simp only [Value.slice.injEq, Option.some.injEq, Addr.mk.injEq, and_true, true_and] at h1;obtain ⟨rfl, rfl⟩ := h1;exact h4 x hx
theorem R3.at {w : World} {b m cap k n : Nat} {F : Nat -> Nat -> Nat -> Bool} (h : R3 w (.slice (some ⟨b, 0, none⟩) m cap) m k n F) {x i j : Nat} (hx : x < k) (hi : i < n) (hj : j < n) :
  ∃ ra ca q, w.cell? ⟨b, x, none⟩ = some (.slice (some ⟨ra, 0, none⟩) n ca) /\ w.cell? ⟨ra, i, none⟩ = some (SL q n) /\ w.cell? ⟨q, j, none⟩ = some (.bool (F x i j)) := by
 obtain ⟨rv, h1, ra, ca, rfl, h2, h3, h4⟩ := h.row hx;obtain ⟨q, h5, h6⟩ := h4 i hi;exact ⟨ra, ca, q, h1, h5, h6.cell hj⟩
theorem node_cellsR {w : World} {g : Nat} {nd : Nd} (h : w.heap[g]? = some (.cells (NC nd) 60 (0, 0))) : NCell w g 0 nd :=
 ⟨(Lib.cell_of_heap h 0).trans rfl, (Lib.cell_of_heap h 1).trans rfl, (Lib.cell_of_heap h 2).trans rfl, (Lib.cell_of_heap h 3).trans rfl, (Lib.cell_of_heap h 4).trans rfl, (Lib.cell_of_heap h 5).trans rfl, (Lib.cell_of_heap h 6).trans rfl, (Lib.cell_of_heap h 7).trans rfl, (Lib.cell_of_heap h 8).trans rfl, (Lib.cell_of_heap h 9).trans rfl⟩
def ToldOk : Prop := ∀ ws, Wf ws -> ∃ bc : Array Value, bc.size = 256 /\ (∀ b, b < 256 -> bc[b]? = some (.bool (mem ws b))) /\ ∀ w : World, Calls Tryz.prog 86 #[SV ws] w fun e w' => e = .returned (.agg bc) /\ Below w.heap.size w w'
structure PW (w : World) (nb no at0 : Nat) (nd : Nd) (gb M gc n : Nat) (F : Nat -> Nat -> Nat -> Bool) : Prop where
 nc : NCell w nb (no + at0 * 10) nd
 g : R3 w (.slice (some ⟨gb, 0, none⟩) M gc) M at0 n F
theorem PW.box {w : World} {nb no at0 : Nat} {nd : Nd} {gb M gc n : Nat} {F : Nat -> Nat -> Nat -> Bool} (h : PW w nb no at0 nd gb M gc n F) :
  NCell (w.alloc (.cells (NC nd) 60)) w.heap.size 0 nd /\ R3 (w.alloc (.cells (NC nd) 60)) (.slice (some ⟨gb, 0, none⟩) M gc) M at0 n F :=
 ⟨node_cellsR (heap_alloc_new _ _), h.g.below ((Below.refl _ _).alloc (Nat.le_refl _) _)⟩
theorem part_0 (w : World) (nb no L lc at0 : Nat) (hat : at0 < L) (z : List Nat) (a b : Nat) (mn mx m : Int) (gb M gc n : Nat) (F : Nat -> Nat -> Nat -> Bool) (h : PW w nb no at0 ⟨0, z, (a : Nat), (b : Nat), mn, mx, m⟩ gb M gc n F) (hM : at0 < M) (T : List UInt8) (hn : n = T.length + 1) (i j : Nat) (hij : i <= j) (hj : j <= T.length) (hj2 : j <= 100000) :
  Calls Tryz.prog 61 #[.slice (some ⟨nb, no, none⟩) L lc, .slice (some ⟨gb, 0, none⟩) M gc, E (at0 : Nat), S T, E (i : Nat), E (j : Nat)] w fun e w' => e = .returned (.bool (decide (i = j))) /\ Below w.heap.size w w' := by
 obtain ⟨q0, q1, q2, q3, q4, q5, q6, q7, q8, q9⟩ := h.nc;obtain ⟨⟨x0, x1, x2, x3, x4, x5, x6, x7, x8, x9⟩, hg⟩ := h.box;(try dsimp only at q0 q1 q2 q3 q4 q5 q6 q7 q8 q9 x0 x1 x2 x3 x4 x5 x6 x7 x8 x9);simp only [Nat.zero_add] at x0 x1 x2 x3 x4 x5 x6 x7 x8 x9;have HB := Hd ((Below.refl w.heap.size w).alloc (Nat.le_refl _) (Obj.cells (NC ⟨0, z, (a : Nat), (b : Nat), mn, mx, m⟩) 60));(have ha0 : (0 : Int) <= (at0 : Int) := by omega);(have ha1 : (at0 : Int) < (L : Int) := by omega);(have hv : ((i : Int) == (j : Int)) = decide (i = j) := by by_cases e : i = j <;> simp [e, Int.ofNat_inj]);clear h hg hn hij hat;go_enter Tryz.func61, Tryz.ntmps61;go_wp2;go_ret;exact ⟨rfl, HB.out⟩
theorem part_2 (w : World) (nb no L lc at0 : Nat) (hat : at0 < L) (z : List Nat) (a b : Nat) (mn mx m : Int) (gb M gc n : Nat) (F : Nat -> Nat -> Nat -> Bool) (h : PW w nb no at0 ⟨2, z, (a : Nat), (b : Nat), mn, mx, m⟩ gb M gc n F) (hM : at0 < M) (T : List UInt8) (hn : n = T.length + 1) (i j : Nat) (hij : i <= j) (hj : j <= T.length) (hj2 : j <= 100000) :
  Calls Tryz.prog 61 #[.slice (some ⟨nb, no, none⟩) L lc, .slice (some ⟨gb, 0, none⟩) M gc, E (at0 : Nat), S T, E (i : Nat), E (j : Nat)] w fun e w' => e = .returned (.bool (decide (j = 0))) /\ Below w.heap.size w w' := by
 obtain ⟨q0, q1, q2, q3, q4, q5, q6, q7, q8, q9⟩ := h.nc;obtain ⟨⟨x0, x1, x2, x3, x4, x5, x6, x7, x8, x9⟩, hg⟩ := h.box;(try dsimp only at q0 q1 q2 q3 q4 q5 q6 q7 q8 q9 x0 x1 x2 x3 x4 x5 x6 x7 x8 x9);simp only [Nat.zero_add] at x0 x1 x2 x3 x4 x5 x6 x7 x8 x9;have HB := Hd ((Below.refl w.heap.size w).alloc (Nat.le_refl _) (Obj.cells (NC ⟨2, z, (a : Nat), (b : Nat), mn, mx, m⟩) 60));(have ha0 : (0 : Int) <= (at0 : Int) := by omega);(have ha1 : (at0 : Int) < (L : Int) := by omega);(have hv : ((j : Int) == 0) = decide (j = 0) := by by_cases e : j = 0 <;> simp [e]);clear h hg hn hij hat;go_enter Tryz.func61, Tryz.ntmps61;go_wp2;go_ret;exact ⟨rfl, HB.out⟩
theorem part_3 (w : World) (nb no L lc at0 : Nat) (hat : at0 < L) (z : List Nat) (a b : Nat) (mn mx m : Int) (gb M gc n : Nat) (F : Nat -> Nat -> Nat -> Bool) (h : PW w nb no at0 ⟨3, z, (a : Nat), (b : Nat), mn, mx, m⟩ gb M gc n F) (hM : at0 < M) (T : List UInt8) (hn : n = T.length + 1) (i j : Nat) (hij : i <= j) (hj : j <= T.length) (hj2 : j <= 100000) :
  Calls Tryz.prog 61 #[.slice (some ⟨nb, no, none⟩) L lc, .slice (some ⟨gb, 0, none⟩) M gc, E (at0 : Nat), S T, E (i : Nat), E (j : Nat)] w fun e w' => e = .returned (.bool (decide (i = T.length))) /\ Below w.heap.size w w' := by
 obtain ⟨q0, q1, q2, q3, q4, q5, q6, q7, q8, q9⟩ := h.nc;obtain ⟨⟨x0, x1, x2, x3, x4, x5, x6, x7, x8, x9⟩, hg⟩ := h.box;(try dsimp only at q0 q1 q2 q3 q4 q5 q6 q7 q8 q9 x0 x1 x2 x3 x4 x5 x6 x7 x8 x9);simp only [Nat.zero_add] at x0 x1 x2 x3 x4 x5 x6 x7 x8 x9;have HB := Hd ((Below.refl w.heap.size w).alloc (Nat.le_refl _) (Obj.cells (NC ⟨3, z, (a : Nat), (b : Nat), mn, mx, m⟩) 60));(have ha0 : (0 : Int) <= (at0 : Int) := by omega);(have ha1 : (at0 : Int) < (L : Int) := by omega);(have hsz : (ByteArray.mk T.toArray).size = T.length := by simp [ByteArray.size]);(have hv : ((i : Int) == (T.length : Int)) = decide (i = T.length) := by by_cases e : i = T.length <;> simp [e, Int.ofNat_inj]);clear h hg hn hij hat;go_enter Tryz.func61, Tryz.ntmps61;go_wp2;go_ret;exact ⟨rfl, HB.out⟩
theorem part_7 (w : World) (nb no L lc at0 : Nat) (hat : at0 < L) (z : List Nat) (a b : Nat) (mn mx m : Int) (gb M gc n : Nat) (F : Nat -> Nat -> Nat -> Bool) (h : PW w nb no at0 ⟨7, z, (a : Nat), (b : Nat), mn, mx, m⟩ gb M gc n F) (hM : at0 < M) (T : List UInt8) (hn : n = T.length + 1) (i j : Nat) (hij : i <= j) (hj : j <= T.length) (hj2 : j <= 100000) (hca : a < at0) :
  Calls Tryz.prog 61 #[.slice (some ⟨nb, no, none⟩) L lc, .slice (some ⟨gb, 0, none⟩) M gc, E (at0 : Nat), S T, E (i : Nat), E (j : Nat)] w fun e w' => e = .returned (.bool (F a i j)) /\ Below w.heap.size w w' := by
 obtain ⟨q0, q1, q2, q3, q4, q5, q6, q7, q8, q9⟩ := h.nc;obtain ⟨⟨x0, x1, x2, x3, x4, x5, x6, x7, x8, x9⟩, hg⟩ := h.box;(try dsimp only at q0 q1 q2 q3 q4 q5 q6 q7 q8 q9 x0 x1 x2 x3 x4 x5 x6 x7 x8 x9);simp only [Nat.zero_add] at x0 x1 x2 x3 x4 x5 x6 x7 x8 x9;have HB := Hd ((Below.refl w.heap.size w).alloc (Nat.le_refl _) (Obj.cells (NC ⟨7, z, (a : Nat), (b : Nat), mn, mx, m⟩) 60));(have ha0 : (0 : Int) <= (at0 : Int) := by omega);(have ha1 : (at0 : Int) < (L : Int) := by omega);obtain ⟨ra, ca, q, y1, y2, y3⟩ := hg.at (x := a) (i := i) (j := j) hca (by omega) (by omega);(have hc0 : (0 : Int) <= (a : Int) := by omega);(have hc1 : (a : Int) < (M : Int) := by omega);(have hi0 : (0 : Int) <= (i : Int) := by omega);(have hi1 : (i : Int) < (n : Int) := by omega);(have hj0 : (0 : Int) <= (j : Int) := by omega);(have hj1 : (j : Int) < (n : Int) := by omega);clear h hg hn hij hat;go_enter Tryz.func61, Tryz.ntmps61;go_wp2;go_ret;exact ⟨rfl, HB.out⟩
theorem part_5 (w : World) (nb no L lc at0 : Nat) (hat : at0 < L) (z : List Nat) (a b : Nat) (mn mx m : Int) (gb M gc n : Nat) (F : Nat -> Nat -> Nat -> Bool) (h : PW w nb no at0 ⟨5, z, (a : Nat), (b : Nat), mn, mx, m⟩ gb M gc n F) (hM : at0 < M) (T : List UInt8) (hn : n = T.length + 1) (i j : Nat) (hij : i <= j) (hj : j <= T.length) (hj2 : j <= 100000) (hca : a < at0) (hcb : b < at0) :
  Calls Tryz.prog 61 #[.slice (some ⟨nb, no, none⟩) L lc, .slice (some ⟨gb, 0, none⟩) M gc, E (at0 : Nat), S T, E (i : Nat), E (j : Nat)] w fun e w' => e = .returned (.bool (F a i j || F b i j)) /\ Below w.heap.size w w' := by
 obtain ⟨q0, q1, q2, q3, q4, q5, q6, q7, q8, q9⟩ := h.nc;obtain ⟨⟨x0, x1, x2, x3, x4, x5, x6, x7, x8, x9⟩, hg⟩ := h.box;(try dsimp only at q0 q1 q2 q3 q4 q5 q6 q7 q8 q9 x0 x1 x2 x3 x4 x5 x6 x7 x8 x9);simp only [Nat.zero_add] at x0 x1 x2 x3 x4 x5 x6 x7 x8 x9;have HB := Hd ((Below.refl w.heap.size w).alloc (Nat.le_refl _) (Obj.cells (NC ⟨5, z, (a : Nat), (b : Nat), mn, mx, m⟩) 60));(have ha0 : (0 : Int) <= (at0 : Int) := by omega);(have ha1 : (at0 : Int) < (L : Int) := by omega);obtain ⟨ra, ca, q, y1, y2, y3⟩ := hg.at (x := a) (i := i) (j := j) hca (by omega) (by omega);obtain ⟨rb, cb, p, z1, z2, z3⟩ := hg.at (x := b) (i := i) (j := j) hcb (by omega) (by omega);(have hc0 : (0 : Int) <= (a : Int) := by omega);(have hc1 : (a : Int) < (M : Int) := by omega);(have hb0 : (0 : Int) <= (b : Int) := by omega);(have hb1 : (b : Int) < (M : Int) := by omega);(have hi0 : (0 : Int) <= (i : Int) := by omega);(have hi1 : (i : Int) < (n : Int) := by omega);(have hj0 : (0 : Int) <= (j : Int) := by omega);(have hj1 : (j : Int) < (n : Int) := by omega);clear h hg hn hij hat;go_enter Tryz.func61, Tryz.ntmps61;cases hf : F a i j
 · rw [hf] at y3;go_wp2;go_ret;exact ⟨rfl, HB.out⟩
 · rw [hf] at y3;go_wp2;go_ret;exact ⟨rfl, HB.out⟩
theorem idx_told {bc : Array Value} {f : Nat -> Bool} (h0 : bc.size = 256) (hb : ∀ b, b < 256 -> bc[b]? = some (.bool (f b))) {a : Nat} (ha : a < 256) (w : World) : (Instr.index 141 (.agg bc) (.int .u8 (a : Int))).run Tryz.prog w = .ok (.bool (f a)) w := by
 have h1 := Tryz.isAgg4;have h2 := Tryz.sizeOf4;have h3 := hb a ha;(have h4 : (0 : Int) <= (a : Int) /\ (a : Int) < 256 := by omega);(have h5 : (0 : Int) <= (a : Int) /\ (a : Int) < ((256 : Nat) : Int) := by omega);(have h6 : a < bc.size := by rw [h0]; exact ha);simp [Instr.index, Sem.run_bind, asIntOf, run_underlying Tryz.underlying141, h1, h2, h3, h4, h5, h6, part, Result.andThen, h0];intro q;omega
theorem part_1 (w : World) (nb no L lc at0 : Nat) (hat : at0 < L) (z : List Nat) (a b : Nat) (mn mx m : Int) (gb M gc n : Nat) (F : Nat -> Nat -> Nat -> Bool) (h : PW w nb no at0 ⟨1, z, (a : Nat), (b : Nat), mn, mx, m⟩ gb M gc n F) (hM : at0 < M) (T : List UInt8) (hn : n = T.length + 1) (i j : Nat) (hij : i <= j) (hj : j <= T.length) (hj2 : j <= 100000) (hTo : ToldOk) (hz : Wf z) :
  Calls Tryz.prog 61 #[.slice (some ⟨nb, no, none⟩) L lc, .slice (some ⟨gb, 0, none⟩) M gc, E (at0 : Nat), S T, E (i : Nat), E (j : Nat)] w fun e w' => e = .returned (.bool (decide (j = i + 1) && hasAt z T i)) /\ Below w.heap.size w w' := by
 obtain ⟨q0, q1, q2, q3, q4, q5, q6, q7, q8, q9⟩ := h.nc;obtain ⟨⟨x0, x1, x2, x3, x4, x5, x6, x7, x8, x9⟩, hg⟩ := h.box;(try dsimp only at q0 q1 q2 q3 q4 q5 q6 q7 q8 q9 x0 x1 x2 x3 x4 x5 x6 x7 x8 x9);simp only [Nat.zero_add] at x0 x1 x2 x3 x4 x5 x6 x7 x8 x9;have HB := Hd ((Below.refl w.heap.size w).alloc (Nat.le_refl _) (Obj.cells (NC ⟨1, z, (a : Nat), (b : Nat), mn, mx, m⟩) 60));(have ha0 : (0 : Int) <= (at0 : Int) := by omega);(have ha1 : (at0 : Int) < (L : Int) := by omega);(have hw1 : IntKind.i64.wrap ((i : Int) + 1) = (i : Int) + 1 := by rw [IntKind.wrap_i64]; omega);(have hi0 : (0 : Int) <= (i : Int) := by omega);(have hsz : (ByteArray.mk T.toArray).size = T.length := by simp [ByteArray.size]);have HX := Hd (show NCell (w.alloc (.cells (NC ⟨1, z, (a : Nat), (b : Nat), mn, mx, m⟩) 60)) w.heap.size 0 ⟨1, z, (a : Nat), (b : Nat), mn, mx, m⟩ from h.box.1);clear h hg hn hij hat;go_enter Tryz.func61, Tryz.ntmps61;by_cases hji : j = i + 1
 ·
  (have hq : ((j : Int) == (i : Int) + 1) = true := by rw [hji]; simp);(have hlt : i < T.length := by omega);(have hlt' : (i : Int) < (T.length : Int) := by omega);have hg := (show (ByteArray.mk T.toArray)[i]'(by rw [hsz]; exact hlt) = T[i] from rfl);have HHA := Hd (show hasAt z T i = mem z (T[i]).toNat from by unfold hasAt; rw [List.getElem?_eq_getElem hlt]);generalize T[i] = by0 at *;obtain ⟨bc, hb1, hb2, hb3⟩ := hTo z hz;(have hix := fun W => idx_told hb1 hb2 (a := by0.toNat) (UInt8.toNat_lt by0) W);have HTC := Hd (fun W => (by have h1 := hb3 W; rw [SV_eq hz] at h1; exact h1 : Calls Tryz.prog 86 #[.agg #[U (word z 0), U (word z 1), U (word z 2), U (word z 3)]] W fun e w' => e = .returned (.agg bc) /\ Below W.heap.size W w'));have HJI := Hd hji;clear hji hb1 hb2 hb3 hTo hz;go_wp2;have HD := Hd (HX.out.below (Below.refl _ _).drew);have HB2 := Hd (HB.out.trans ((Below.refl (w.alloc (.cells (NC ⟨1, z, (a : Nat), (b : Nat), mn, mx, m⟩) 60)).heap.size _).drew.mono HB.out.size));clear x0 x1 x2 x3 x4 x5 x6 x7 x8 x9 q0 q1 q2 q3 q4 q5 q6 q7 q8 q9 HX HB;(refine Tk.g (fun w' => NCell w' w.heap.size 0 ⟨1, z, (a : Nat), (b : Nat), mn, mx, m⟩) (by exact HD.out) fun hH => ?_);generalize World.drew _ = W4 at HD HB2 hH ⊢;refine Tk.t 0 ?_;refine Tk.t 1 ?_;refine Tk.t 2 ?_;refine Tk.t 3 ?_;refine Tk.t 4 ?_;refine Tk.t 5 ?_;refine Tk.t 6 (hy := by (intro wv hSw; (try dsimp only at hSw); obtain ⟨k0, k1, k2, k3, k4, k5, k6, k7, k8, k9⟩ := hSw; (try dsimp only at k0 k1 k2 k3 k4 k5 k6 k7 k8 k9); simp only [Nat.zero_add] at k0 k1 k2 k3 k4 k5 k6 k7 k8 k9; go_simp) <;> with_reducible rfl) ?_;refine Tk.t 8 ?_;refine Tk.t 9 ?_;refine Tk.t 10 ?_;refine Tk.o 7 (fun K hK => ?_);go_simp
  (go_at_call 86; refine (HTC.out _).mono ?_; rintro e w6 ⟨rfl, hbl⟩; have HD2 := Hd (HD.out.below hbl); have HB3 := Hd (HB2.out.trans (hbl.mono HB2.out.size)); clear HD HB2)
  (refine hK.out _ _ (by exact HD2.out) fun hH => Tk.w ?_);clear hK K;refine Tk.t 11 ?_;refine Tk.t 12 ?_;refine Tk.t 13 ?_;refine Tk.d ?_;clear hH;go_wp2;go_ret;exact ⟨by rw [HHA.out, decide_eq_true HJI.out]; rfl, HB3.out⟩
 · (have hq : ((j : Int) == (i : Int) + 1) = false := by rw [beq_eq_false_iff_ne]; omega);have HJI := Hd hji;clear hji hTo hz;go_wp2;have HD := Hd (HX.out.below (Below.refl _ _).drew);have HB2 := Hd (HB.out.trans ((Below.refl (w.alloc (.cells (NC ⟨1, z, (a : Nat), (b : Nat), mn, mx, m⟩) 60)).heap.size _).drew.mono HB.out.size));clear x0 x1 x2 x3 x4 x5 x6 x7 x8 x9 q0 q1 q2 q3 q4 q5 q6 q7 q8 q9 HX HB;(refine Tk.g (fun w' => NCell w' w.heap.size 0 ⟨1, z, (a : Nat), (b : Nat), mn, mx, m⟩) (by exact HD.out) fun hH => ?_);generalize World.drew _ = W4 at HD HB2 hH ⊢;refine Tk.t 0 ?_;refine Tk.t 1 ?_;refine Tk.t 2 ?_;refine Tk.t 3 ?_;refine Tk.t 4 ?_;refine Tk.p 5 ?_;refine Tk.p 6 ?_;refine Tk.p 7 ?_;refine Tk.p 8 ?_;refine Tk.p 9 ?_;refine Tk.p 10 ?_;refine Tk.p 11 ?_;refine Tk.t 12 ?_;refine Tk.t 13 ?_;refine Tk.d ?_;clear hH;go_wp2;go_ret;exact ⟨by rw [decide_eq_false HJI.out]; rfl, HB2.out⟩
theorem part_4 (w : World) (nb no L lc at0 : Nat) (hat : at0 < L) (z : List Nat) (a b : Nat) (mn mx m : Int) (gb M gc n : Nat) (F : Nat -> Nat -> Nat -> Bool) (h : PW w nb no at0 ⟨4, z, (a : Nat), (b : Nat), mn, mx, m⟩ gb M gc n F) (hM : at0 < M) (T : List UInt8) (hn : n = T.length + 1) (i j : Nat) (hij : i <= j) (hj : j <= T.length) (hj2 : j <= 100000) (hca : a < at0) (hcb : b < at0) (V : Bool) (hV : V = (List.range (j + 1)).any fun k => decide (i <= k) && F a i k && F b k j) :
  Calls Tryz.prog 61 #[.slice (some ⟨nb, no, none⟩) L lc, .slice (some ⟨gb, 0, none⟩) M gc, E (at0 : Nat), S T, E (i : Nat), E (j : Nat)] w fun e w' => e = .returned (.bool (V)) /\ Below w.heap.size w w' := by
 obtain ⟨q0, q1, q2, q3, q4, q5, q6, q7, q8, q9⟩ := h.nc;obtain ⟨⟨x0, x1, x2, x3, x4, x5, x6, x7, x8, x9⟩, hg⟩ := h.box;(try dsimp only at q0 q1 q2 q3 q4 q5 q6 q7 q8 q9 x0 x1 x2 x3 x4 x5 x6 x7 x8 x9);simp only [Nat.zero_add] at x0 x1 x2 x3 x4 x5 x6 x7 x8 x9;have HB := Hd ((Below.refl w.heap.size w).alloc (Nat.le_refl _) (Obj.cells (NC ⟨4, z, (a : Nat), (b : Nat), mn, mx, m⟩) 60));(have ha0 : (0 : Int) <= (at0 : Int) := by omega);(have ha1 : (at0 : Int) < (L : Int) := by omega);(have hc0 : (0 : Int) <= (a : Int) := by omega);(have hc1 : (a : Int) < (M : Int) := by omega);(have hb0 : (0 : Int) <= (b : Int) := by omega);(have hb1 : (b : Int) < (M : Int) := by omega);(have hi0 : (0 : Int) <= (i : Int) := by omega);(have hi1 : (i : Int) < (n : Int) := by omega);(have hj0 : (0 : Int) <= (j : Int) := by omega);(have hj1 : (j : Int) < (n : Int) := by omega);have HG := Hd hg;have HJ := Hd (An hij (An hj (An hj2 hn)));have HC := Hd (An hca hcb);have HV := Hd hV;clear hV;clear h hg hn hij hat;go_enter Tryz.func61, Tryz.ntmps61;clear hca hcb hj hj2;go_wp2;clear q0 q1 q2 q3 q4 q5 q6 q7 q8 q9;go_loopw [14] (fun kv wr => ∃ K : Nat, i <= K /\ K <= j + 1 /\ kv = .int .i64 (K : Nat) /\ wr = w.alloc (.cells (NC ⟨4, z, (a : Nat), (b : Nat), mn, mx, m⟩) 60) /\ Hid (∀ k, i <= k -> k < K -> (F a i k && F b k j) = false)) (fun kv _ => j + 1 - (intOf kv).toNat);(case atStart => exact ⟨i, Nat.le_refl _, by have := HJ.out.1; omega, rfl, rfl, Hd (fun k h1 h2 => by omega)⟩);case round =>
  obtain ⟨K, hK1, hK2, rfl, rfl, HN⟩ := hrel;by_cases hKj : K <= j
  ·
   (have hkj : (K : Int) <= (j : Int) := by omega);(have hK0 : (0 : Int) <= (K : Int) := by omega);(have hKn : (K : Int) < (n : Int) := by have := HJ.out; omega);(have hwK : IntKind.i64.wrap ((K : Int) + 1) = (K : Int) + 1 := by rw [IntKind.wrap_i64]; have := HJ.out; omega);obtain ⟨ra, ca, q, y1, y2, y3⟩ := HG.out.at (x := a) (i := i) (j := K) HC.out.1 (by have := HJ.out; omega) (by have := HJ.out; omega);obtain ⟨rb, cb, p, z1, z2, z3⟩ := HG.out.at (x := b) (i := K) (j := j) HC.out.2 (by have := HJ.out; omega) (by have := HJ.out; omega);have HKK := Hd (An hK1 hKj);clear hK1 hK2 hKj;cases hf : F a i K with
   | false =>
    rw [hf] at y3;have HF := Hd hf;clear hf;go_wp2;go_roundw;case rel => exact ⟨K + 1, by have := HKK.out; omega, by have := HKK.out; omega, by go_num, trivial, Hd (fun k h1 h2 => by
     by_cases e : k = K
     · rw [e, HF.out]; rfl
     · exact HN.out k h1 (by omega))⟩
    case measure => have := HKK.out; simp [intOf]; omega
   | true =>
    rw [hf] at y3;have HF := Hd hf;clear hf;cases hf2 : F b K j with
    | false =>
     rw [hf2] at z3;have HF2 := Hd hf2;clear hf2;go_wp2;go_roundw;case rel => exact ⟨K + 1, by have := HKK.out; omega, by have := HKK.out; omega, by go_num, trivial, Hd (fun k h1 h2 => by
      by_cases e : k = K
      · rw [e, HF2.out, Bool.and_false]
      · exact HN.out k h1 (by omega))⟩
     case measure => have := HKK.out; simp [intOf]; omega
    | true =>
     rw [hf2] at z3;have HF2 := Hd hf2;clear hf2;go_wp2;go_ret;refine ⟨congrArg Ending.returned (congrArg Value.bool ?_), HB.out⟩;rw [HV.out]
     symm
     rw [List.any_eq_true];exact ⟨K, List.mem_range.2 (by have := HKK.out; omega), by rw [HF.out, HF2.out, decide_eq_true HKK.out.1]; rfl⟩
  ·
   (obtain rfl : K = j + 1 := by omega);(have hkj : ¬ ((j + 1 : Nat) : Int) <= (j : Int) := by omega);clear hK1 hK2 hKj;go_wp2;go_ret;refine ⟨congrArg Ending.returned (congrArg Value.bool ?_), HB.out⟩;rw [HV.out]
   symm
   rw [List.any_eq_false];intro k hk;have := List.mem_range.1 hk;by_cases e : i <= k
   · have h5 := HN.out k e this;rw [decide_eq_true e, Bool.true_and, h5]; decide
   · rw [decide_eq_false e]; simp
end Go.Proofs.YtgaiknjmbingjaaGreatDoor.Mt
namespace Go.Proofs.YtgaiknjmbingjaaGreatDoor.Rx
open Tr
open St (Wf bytesL)
theorem text_len (em : Prop) : ∀ t : Tr, t.Fine em -> (textT t).length <= 514 * t.size := by
 have hx : ∀ l : List UInt8, (l.flatMap hexB).length = 2 * l.length := by
  intro l
  induction l with
  | nil => rfl
  | cons b r ih => rw [List.flatMap_cons, List.length_append, ih]; simp [hexB]; omega
 have hi : ∀ {n : Int}, -1 <= n -> n <= 255 -> (Lib.itoa n).length <= 10 := by
  intro n h0 h;unfold Lib.itoa;split
  · have := Ad.dec_len n.natAbs (by omega);simp; omega
  · have := Ad.dec_len n.toNat (by omega);omega
 intro t
 induction t with
 | e | beg | fin => intro _; simp [textT, size]
 | set s =>
  intro _;(have h1 : (bytesL s).length <= 256 := by rw [St.bytesL_len]; exact St.bytesN_len s);simp only [textT, size, List.length_cons, List.length_append, hx, List.length_nil];omega
 | ref n =>
  intro hf;have := hi (show -1 <= n by have := hf.1; omega) (by have := hf.2; omega);simp only [textT, size, List.length_cons];omega
 | cat x y ihx ihy | alt x y ihx ihy =>
  intro hf;have h1 := ihx hf.1;have h2 := ihy hf.2.1;simp only [textT, size, List.length_cons, List.length_append];omega
 | times mn mx x ihx =>
  intro hf;have h1 := ihx hf.1;have h2 := hi (show -1 <= mn by have := hf.2.1; omega) hf.2.2.1;have h3 := hi (show -1 <= mx by have := hf.2.2.2.1; omega) (by have := hf.2.2.2.1; omega);simp only [textT, size, List.length_cons, List.length_append];omega
 | grp n x ihx =>
  intro hf;have h1 := ihx hf.1;simp only [textT, size, List.length_cons, List.length_append, List.length_nil];omega
def nodeS (n : Nd) (b : List UInt8) : List UInt8 :=
 if n.k = 0 then [101] else if n.k = 1 then 91 :: ((bytesL n.s).flatMap hexB ++ [93]) else if n.k = 2 then [94] else if n.k = 3 then [36]
 else if n.k = 4 then 38 :: b else if n.k = 5 then 124 :: b else if n.k = 6 then 42 :: (Lib.itoa n.mn ++ 44 :: (Lib.itoa n.mx ++ 59 :: b))
 else if n.k = 7 then 40 :: (b ++ [41]) else 92 :: Lib.itoa n.n
theorem texts_step {n : Nd} {ts : List Tr} (hok : OneN n) (hp : parts n <= ts.length) :
  (build n ts).map textT = (ts.map textT).take (ts.length - parts n) ++ [nodeS n ((ts.map textT).drop (ts.length - parts n)).flatten] := by
 obtain ⟨k, s, a, b, mn, mx, m⟩ := n;have leaf : ∀ (t : Tr), parts ⟨k, s, a, b, mn, mx, m⟩ = 0 -> build ⟨k, s, a, b, mn, mx, m⟩ ts = ts ++ [t] -> (∀ z, textT t = nodeS ⟨k, s, a, b, mn, mx, m⟩ z) -> (build ⟨k, s, a, b, mn, mx, m⟩ ts).map textT = (ts.map textT).take (ts.length - parts ⟨k, s, a, b, mn, mx, m⟩) ++ [nodeS ⟨k, s, a, b, mn, mx, m⟩ ((ts.map textT).drop (ts.length - parts ⟨k, s, a, b, mn, mx, m⟩)).flatten] := by
  intro t h1 h2 h3;rw [h1, h2, Nat.sub_zero, List.take_of_length_le (by simp), <- h3, List.map_append];rfl
 have one : parts ⟨k, s, a, b, mn, mx, m⟩ = 1 -> ∃ us x, ts = us ++ [x] := by
  intro h;rw [h] at hp;obtain ⟨us, x, rfl, _⟩ := split_one (show ts.length = (ts.length - 1) + 1 by omega);exact ⟨us, x, rfl⟩
 have two : parts ⟨k, s, a, b, mn, mx, m⟩ = 2 -> ∃ us x y, ts = us ++ [x, y] := by
  intro h;rw [h] at hp;obtain ⟨p, y, rfl, hpl⟩ := split_one (show ts.length = (ts.length - 1) + 1 by omega);obtain ⟨us, x, rfl, _⟩ := split_one (show p.length = (p.length - 1) + 1 by simp at hp; omega);exact ⟨us, x, y, by simp⟩
 have fin : ∀ (us vs : List Tr) (t : Tr), ts = us ++ vs -> parts ⟨k, s, a, b, mn, mx, m⟩ = vs.length -> build ⟨k, s, a, b, mn, mx, m⟩ ts = us ++ [t] -> textT t = nodeS ⟨k, s, a, b, mn, mx, m⟩ (vs.map textT).flatten ->
   (build ⟨k, s, a, b, mn, mx, m⟩ ts).map textT = (ts.map textT).take (ts.length - parts ⟨k, s, a, b, mn, mx, m⟩) ++ [nodeS ⟨k, s, a, b, mn, mx, m⟩ ((ts.map textT).drop (ts.length - parts ⟨k, s, a, b, mn, mx, m⟩)).flatten] := by
  rintro us vs t rfl h1 h2 h3;(have e : (us ++ vs).length - vs.length = (us.map textT).length := by simp);rw [h2, h1, e, List.map_append, List.map_append, List.take_left, List.drop_left, <- h3];rfl
 simp only [OneN] at hok;rcases hok with ⟨hk, rfl, rfl, rfl, rfl, rfl, rfl⟩ | ⟨rfl, hs, rfl, rfl, rfl, rfl, rfl⟩ | ⟨hk, rfl, rfl, rfl, rfl⟩ | ⟨rfl, rfl, rfl, rfl, h6, h7, h8⟩ | ⟨rfl, rfl, rfl, rfl, rfl, h6, h7⟩ | ⟨rfl, rfl, rfl, rfl, rfl, rfl, h6, h7⟩
 ·
  rcases hk with rfl | rfl | rfl
  · exact leaf .e rfl rfl (fun _ => rfl)
  · exact leaf .beg rfl rfl (fun _ => rfl)
  · exact leaf .fin rfl rfl (fun _ => rfl)
 · exact leaf (.set s) rfl rfl (fun _ => rfl)
 ·
  rcases hk with rfl | rfl
  · obtain ⟨us, x, y, rfl⟩ := two rfl;exact fin us [x, y] (.cat x y) rfl rfl (by simp [build]) (by simp [textT, nodeS])
  · obtain ⟨us, x, y, rfl⟩ := two rfl;exact fin us [x, y] (.alt x y) rfl rfl (by simp [build]) (by simp [textT, nodeS])
 · obtain ⟨us, x, rfl⟩ := one rfl;exact fin us [x] (.times mn mx x) rfl rfl (by simp [build]) (by simp [textT, nodeS])
 · obtain ⟨us, x, rfl⟩ := one rfl;exact fin us [x] (.grp m x) rfl rfl (by simp [build]) (by simp [textT, nodeS])
 · exact leaf (.ref m) rfl rfl (fun _ => rfl)
def tx (l : List Nd) (k : Nat) : List (List UInt8) := (treesRun l k).map textT
theorem ord_at {l : List Nd} {st : List Nat} (h : ordRun l l.length = some st) : ∀ k, k <= l.length -> ∃ st', ordRun l k = some st' := by
 intro k hk;cases e : ordRun l k with
 | some s => exact ⟨s, rfl⟩
 | none =>
  exfalso;have : ∀ j, ordRun l (k + j) = none := by
   intro j
   induction j with
   | zero => exact e
   | succ j ih =>
    show (ordRun l (k + j)).bind _ = none;rw [ih]; rfl
  have h2 := this (l.length - k);rw [show k + (l.length - k) = l.length by omega, h] at h2;cases h2
theorem rootsL_len' (ts : List Tr) : (rootsL ts 0).length = ts.length := rootsL_len ts 0
theorem texts_len (em : Prop) : ∀ ts : List Tr, (∀ t ∈ ts, t.Fine em) -> (ts.map textT).flatten.length <= 514 * sizeL ts
 | [], _ => by simp [sizeL]
 | t :: ts, h => by
  have h1 := text_len em t (h t (by simp));have h2 := texts_len em ts (fun u hu => h u (by simp [hu]));simp only [List.map_cons, List.flatten_cons, List.length_append, sizeL];omega
theorem tx_step {l : List Nd} {st : List Nat} (h : ordRun l l.length = some st) {k : Nat} (hk : k < l.length) :
  OneN l[k] /\ parts l[k] <= (tx l k).length /\ tx l (k + 1) = (tx l k).take ((tx l k).length - parts l[k]) ++ [nodeS l[k] ((tx l k).drop ((tx l k).length - parts l[k])).flatten] /\ (tx l k).flatten.length <= 514 * k /\ (tx l k).length <= k := by
 obtain ⟨s1, h1⟩ := ord_at h k (by omega);obtain ⟨s2, h2⟩ := ord_at h (k + 1) (by omega);obtain ⟨hf, hn, hr⟩ := run_trees l k s1 h1;have hl : l[k]? = some l[k] := List.getElem?_eq_getElem hk;have hok : StepOk l l[k] s1 := by
  have h2' : (ordRun l k).bind _ = some s2 := h2;rw [h1] at h2';rw [show (some s1).bind _ = (match l[k]? with | none => none | some n => if StepOk l n s1 then some (push n k s1) else none) from rfl, hl] at h2';dsimp only at h2';split at h2'
  · assumption
  · cases h2'
 (have hlen : (treesRun l k).length = s1.length := by rw [hr, rootsL_len']);(have e : treesRun l (k + 1) = build l[k] (treesRun l k) := by simp only [treesRun, hl]);have hsz : sizeL (treesRun l k) = k := by
  have := congrArg List.length hn;rw [List.length_take, nodesL_len] at this;omega
 have hb : ∀ ts : List Tr, ts.length <= sizeL ts := by
  intro ts
  induction ts with
  | nil => simp [sizeL]
  | cons t ts ih => have := size_pos t; simp only [List.length_cons, sizeL]; omega
 refine ⟨hok.1, by unfold tx; rw [List.length_map, hlen]; exact hok.2.1, ?_, ?_, ?_⟩
 · unfold tx;rw [e, texts_step hok.1 (by rw [hlen]; exact hok.2.1), List.length_map]
 · have := texts_len _ _ hf;rw [hsz] at this;exact this
 · unfold tx;rw [List.length_map];have := hb (treesRun l k);omega
theorem tx_end {t : Tr} (h : Good t) : tx (t.nodes 0) t.size = [textT t] := by
 obtain ⟨i, hi⟩ := (ordered_iff (t.nodes 0)).2 ⟨t, h.1, rfl⟩;obtain ⟨hf, hn, hr⟩ := run_trees _ _ _ hi;rw [List.take_length] at hn;rw [nodes_len] at hr hn hi;unfold tx;generalize treesRun (t.nodes 0) t.size = ts at *
 match ts, hr with
 | [u], hr =>
  (have e : t.nodes 0 = u.nodes 0 := by rw [hn]; simp [nodesL]);obtain rfl := nodes_inj t u 0 e;rfl
 | [], hr => simp [rootsL] at hr
 | _ :: _ :: _, hr => simp [rootsL] at hr
theorem flat_drop (X : List (List UInt8)) (m : Nat) : (X.drop m).flatten.length <= X.flatten.length := by
 have := congrArg List.length (congrArg List.flatten (List.take_append_drop m X));rw [List.flatten_append, List.length_append] at this;omega
end Go.Proofs.YtgaiknjmbingjaaGreatDoor.Rx
namespace Go.Proofs.YtgaiknjmbingjaaGreatDoor.St
def val : List Nat -> Nat
 | [] => 0
 | b :: r => b + 256 * val r
def s1 (b : Nat) : Nat := (b / 2 &&& 85) + (b &&& 85)
def s2 (b : Nat) : Nat := (b / 4 &&& 51) + (b &&& 51)
def s3 (b : Nat) : Nat := (b / 16 + b) &&& 15
open Go.RowKit
theorem has_bits {ws : List Nat} (h : Wf ws) (b : Nat) : (bits BinOp.and IntKind.u64 ((word ws (b / 64) : Int) / 2 ^ (b % 64)) 1 == 1) = mem ws b := by
 have hx := word_lt h (b / 64);generalize hxe : word ws (b / 64) = x at *;(have e1 : ((x : Int) / 2 ^ (b % 64)) = ((x / 2 ^ (b % 64) : Nat) : Int) := by simp);have h2 : x / 2 ^ (b % 64) < 18446744073709551616 := Nat.lt_of_le_of_lt (Nat.div_le_self _ _) hx;rw [e1, show (1 : Int) = ((1 : Nat) : Int) from rfl, u64_and_nat _ _ h2 (by decide), nat_mask1];unfold mem;rw [Nat.testBit_eq_decide_div_mod_eq];rw [show word ws (b / 64) = x from hxe];generalize x / 2 ^ (b % 64) = t;rw [Bool.eq_iff_iff];simp only [beq_iff_eq, decide_eq_true_eq];omega
theorem two_new (w : World) (a b : Obj) : ((w.alloc a).alloc b).heap[w.heap.size]? = some a /\ ((w.alloc a).alloc b).heap[w.heap.size + 1]? = some b := by
 (have hs : (w.alloc a).heap.size = w.heap.size + 1 := by show (w.heap.push a).size = _; simp);refine ⟨?_, ?_⟩
 · rw [@heap_alloc_old _ _ _ (by rw [hs]; exact Nat.lt_succ_self _)]; exact heap_alloc_new w a
 · rw [<- hs]; exact heap_alloc_new _ b
def put4 (w : World) (b : Nat) (vs : List Nat) : World :=
 ((((w.setCell ⟨b, 0, none⟩ (.int .u64 (word vs 0 : Int))).setCell ⟨b, 1, none⟩ (.int .u64 (word vs 1 : Int))).setCell ⟨b, 2, none⟩ (.int .u64 (word vs 2 : Int))).setCell ⟨b, 3, none⟩ (.int .u64 (word vs 3 : Int)))
theorem put4_eq (w : World) (b : Nat) (vs : List Nat) : ((((w.setCell ⟨b, 0, none⟩ (.int .u64 (word vs 0 : Int))).setCell ⟨b, 1, none⟩ (.int .u64 (word vs 1 : Int))).setCell ⟨b, 2, none⟩ (.int .u64 (word vs 2 : Int))).setCell ⟨b, 3, none⟩ (.int .u64 (word vs 3 : Int))) = put4 w b vs := rfl
theorem SB.put {w : World} {b : Nat} {zs vs : List Nat} (h : SB w b zs) (hz : Wf zs) (hv : Wf vs) : SB (put4 w b vs) b vs := by
 have hq : (((zs.set 0 (word vs 0)).set 1 (word vs 1)).set 2 (word vs 2)).set 3 (word vs 3) = vs := by
  obtain ⟨hl, _⟩ := hz;obtain ⟨hl', _⟩ := hv
  match zs, vs, hl, hl' with
  | [_, _, _, _], [_, _, _, _], _, _ => rfl
 have e := SB.set (SB.set (SB.set (SB.set h 0 (word vs 0)) 1 (word vs 1)) 2 (word vs 2)) 3 (word vs 3);rw [hq] at e;unfold put4;exact e
theorem put4_below {B : Nat} {w0 w : World} {b : Nat} (h : Below B w0 w) (hb : B <= b) (vs : List Nat) : Below B w0 (put4 w b vs) := below_again h hb _ _ _ _
def Ls (w : World) (b : Nat) (l : List (List Nat)) : Prop := ∀ k (h : k < l.length), ∀ j, j < 4 -> w.cell? ⟨b, k * 4 + j, none⟩ = some (.int .u64 (word l[k] j : Int))
theorem wc_eq {ws : List Nat} (h : Wf ws) : wc ws = #[.int .u64 (word ws 0 : Int), .int .u64 (word ws 1 : Int), .int .u64 (word ws 2 : Int), .int .u64 (word ws 3 : Int)] := by
 obtain ⟨hl, _⟩ := h
 match ws, hl with
 | [a, b, c, d], _ => rfl
theorem or_any (l : List (List Nat)) (bk : Nat) (w : World) (h : ∀ v ∈ l, Wf v) (hl : l.length <= 4) (hb : bk < w.heap.size) (hc : Ls w bk l) :
  Calls Tryz.prog 65 #[.slice (some ⟨bk, 0, none⟩) l.length l.length] w fun e w' => e = .returned (SV (orL l)) /\ Below w.heap.size w w' := by
 go_enter Tryz.func65, Tryz.ntmps65;go_wp2;go_loopw [4, 5, 8] (fun _ _ i wr => ∃ k : Nat, k <= l.length /\ i = .int .i64 (k : Int) /\ SB wr w.heap.size (orL (l.take k)) /\ Below w.heap.size w wr) (fun _ _ i _ => l.length - (intOf i).toNat);(case atStart => exact ⟨0, Nat.zero_le _, rfl, heap_alloc_new w _, (Below.refl _ w).alloc (Nat.le_refl _) _⟩);case round =>
  obtain ⟨k, hk, rfl, hS, hB⟩ := hrel;have hw := wf_orL (l := l.take k) (fun v hv => h v (List.mem_of_mem_take hv));by_cases hlt : k < l.length
  ·
   have hv := h l[k] (List.getElem_mem hlt);have HSN := Lib.hid (show orL (l.take (k + 1)) = or2 (orL (l.take k)) l[k] by unfold orL; rw [List.take_succ_eq_append_getElem hlt, List.foldl_append]; rfl);have d0 := (hB.cell (p := ⟨bk, k * 4, none⟩) hb).trans (hc k hlt 0 (by omega));have d1 := (hB.cell (p := ⟨bk, k * 4 + 1, none⟩) hb).trans (hc k hlt 1 (by omega));have d2 := (hB.cell (p := ⟨bk, k * 4 + 2, none⟩) hb).trans (hc k hlt 2 (by omega));have d3 := (hB.cell (p := ⟨bk, k * 4 + 3, none⟩) hb).trans (hc k hlt 3 (by omega));have HL := Lib.hid (show w.heap.size < wr.heap.size from (Array.getElem?_eq_some_iff.1 hS).1);(have hI : (k : Int) < (l.length : Int) := by omega);generalize orL (l.take k) = ws at *;generalize hvs : l[k] = vs at *;clear hvs hc;go_wp2;go_loopw [5, 12] (fun _ i wv => ∃ j : Nat, j <= 4 /\ i = .int .i64 (j : Int) /\ SB wv w.heap.size (orK ws vs j) /\ SB wv wr.heap.size vs /\ Below w.heap.size w wv) (fun _ i _ => 4 - (intOf i).toNat);case atStart =>
    refine ⟨0, Nat.zero_le _, rfl, ?_, ?_, hB.alloc hB.size _⟩
    · exact (@heap_alloc_old _ _ _ HL.out).trans hS
    · show (wr.alloc _).heap[wr.heap.size]? = some (.cells (wc vs) _ _);rw [heap_alloc_new, wc_eq hv]
   case round =>
    clear hS d0 d1 d2 d3;obtain ⟨j, hj, rfl, hS, hV, hB'⟩ := hrel;have hwj := (orK_spec hw hv j hj).1;have HSJ := Lib.hid (show orK ws vs (j + 1) = (orK ws vs j).set j (word (orK ws vs j) j ||| word vs j) from rfl);have HO4 := Lib.hid (orK_four hw hv);by_cases hjl : j < 4
    · have c1 := hS.cell hwj hjl;have f1 := Lib.frozen_of_heap hS j;have c2 := SB.cell hV hv hjl;have hx := u64_or_nat _ _ (word_lt hwj j) (word_lt hv j);(have hJ : (j : Int) < 4 := by omega);have hj' : ((j : Int)).toNat < 4 := hjl;generalize hq : orK ws vs j = qs at *;clear hq;go_wp2;go_region;go_wp2;go_roundw;(case rel => exact ⟨j + 1, by omega, by go_num, by rw [HSJ.out]; exact (SB.set hS _ _).drew, (heap_set_other hV (Nat.ne_of_lt HL.out) _ _), (hB'.setCell (Nat.le_refl _) _).drew⟩);case measure => simp [intOf]; omega
    · (obtain rfl : j = 4 := by omega);have HS := Lib.hid hS;clear hS hV hB;go_wp2;go_roundw;(case rel => exact ⟨k + 1, by omega, by go_num, by rw [HSN.out, <- HO4.out]; exact HS.out, hB'⟩);case measure => simp [intOf]; omega
  · (obtain rfl : k = l.length := by omega);rw [List.take_of_length_le (Nat.le_refl _)] at *;generalize hws : orL l = WS at *;have HWS := Lib.hid hws;clear hws;have g0 := hS.cell hw (i := 0) (by omega);have g1 := hS.cell hw (i := 1) (by omega);have g2 := hS.cell hw (i := 2) (by omega);have g3 := hS.cell hw (i := 3) (by omega);have f0 := Lib.frozen_of_heap hS 0;have f1 := Lib.frozen_of_heap hS 1;have f2 := Lib.frozen_of_heap hS 2;have f3 := Lib.frozen_of_heap hS 3;have HSV := Lib.hid (SV_eq hw);have hS4 := hS.put hw hw;have hB4 := put4_below hB (Nat.le_refl _) WS;clear hS;go_wp2;rw [put4_eq];generalize put4 wr w.heap.size WS = W at *;have k0 := hS4.cell hw (i := 0) (by omega);have k1 := hS4.cell hw (i := 1) (by omega);have k2 := hS4.cell hw (i := 2) (by omega);have k3 := hS4.cell hw (i := 3) (by omega);exact bodyPost_ret (v := SV WS) (by rw [HSV.out]; simp [results, Tryz.results65, go_sem, k0, k1, k2, k3]) rfl ⟨by rw [HWS.out], hB4⟩
theorem idx_run (a b c d : Value) (w : World) : 
  (Instr.index 44 (.agg #[a, b, c, d]) (.int .i64 0)).run Tryz.prog w = .ok a w /\ (Instr.index 44 (.agg #[a, b, c, d]) (.int .i64 1)).run Tryz.prog w = .ok b w /\ (Instr.index 44 (.agg #[a, b, c, d]) (.int .i64 2)).run Tryz.prog w = .ok c w /\ (Instr.index 44 (.agg #[a, b, c, d]) (.int .i64 3)).run Tryz.prog w = .ok d w := ⟨by kernel_rfl, by kernel_rfl, by kernel_rfl, by kernel_rfl⟩
theorem idx_word (ws : List Nat) {k : Nat} (hk : k < 4) (w : World) : (Instr.index 44 (.agg #[.int .u64 (word ws 0 : Int), .int .u64 (word ws 1 : Int), .int .u64 (word ws 2 : Int), .int .u64 (word ws 3 : Int)]) (.int .i64 (k : Int))).run Tryz.prog w = .ok (.int .u64 (word ws k : Int)) w := by
 obtain ⟨h0, h1, h2, h3⟩ := idx_run (.int .u64 (word ws 0 : Int)) (.int .u64 (word ws 1 : Int)) (.int .u64 (word ws 2 : Int)) (.int .u64 (word ws 3 : Int)) w
 match k, hk with
 | 0, _ => exact h0
 | 1, _ => exact h1
 | 2, _ => exact h2
 | 3, _ => exact h3
open Go.RowKit Go.Shelf
attribute [local go_sem] Oper.semAt_some
def Tab (w : World) : Prop := TabAt 0 Lib.deBruijn64tab w
theorem Tab.below {w w' : World} (h : Tab w) {B : Nat} (hb : Below B w w') (hB : 0 < B) : Tab w' := fun j hj => (hb.cell (p := ⟨0, j, none⟩) hB).trans (h j hj)
theorem tz_core (x k idx : Nat) (w : World) (hx0 : ((x : Int) == 0) = false)
  (key : IntKind.u64.wrap (bits BinOp.and IntKind.u64 (x : Int) (IntKind.u64.wrap (-(x : Int))) * 285870213051353865) / 288230376151711744 = (idx : Int))
  (hi : idx < 64) (hk : k < 64) (hcell : w.cell? ⟨0, idx, none⟩ = some (.int .u8 k)) :
  Calls Tryz.prog 98 #[.int .u64 x] w fun e w' => e = .returned (.int .i64 k) /\ w' = w := by
 go_enter Tryz.func98, Tryz.ntmps98;go_wp2_with (simp only [key]);go_ret;exact ⟨rfl, rfl⟩
theorem tz_any (x : Nat) (hx : x < 18446744073709551616) (hx0 : x ≠ 0) (w : World) (hT : Tab w) :
  Calls Tryz.prog 98 #[.int .u64 x] w fun e w' => e = .returned (.int .i64 (Lib.ctz 64 x : Int)) /\ w' = w := by
 obtain ⟨hlow, hk⟩ := Lib.lowest_bit 64 x hx0 hx;obtain ⟨hi, htab⟩ := Lib.deBruijn64_at _ hk;have hcell := hT _ hi;rw [htab] at hcell;exact tz_core x _ _ w (by simp; omega) (tz64_key x _ hx hx0 hlow) hi hk hcell
theorem all_any (ws : List Nat) (w : World) (h : Wf ws) :
  Calls Tryz.prog 76 #[SV ws] w fun e w' => e = .returned (.func (.func 97) #[] #[.pointer (some ⟨w.heap.size, 0, none⟩)]) /\ w' = w.alloc (.cells (wc ws) 44) := by
 go_enter Tryz.func76, Tryz.ntmps76;go_wp2;go_ret;exact ⟨rfl, rfl⟩
end Go.Proofs.YtgaiknjmbingjaaGreatDoor.St
namespace Go.Proofs.YtgaiknjmbingjaaGreatDoor.Rx
open Go.RowKit Go.Shelf
open St (Tab tz_any)
abbrev Y (n : Nat) : Value := .int .u8 (n : Int)
theorem zero_65 : (∀ w, (zeroValue 183).run Tryz.prog w = .ok (.agg (Array.replicate 65 (Y 0))) w) /\ (Tryz.prog.info? 183).map (·.size) = some 65 :=
 zero_of_info (P := Tryz.prog) (t := 183) (v := .agg (Array.replicate 65 (Y 0))) (n := 65) (by kernel_rfl)
theorem hex_at : ∀ j : Nat, j < 16 -> ∀ h, ((⟨#[48, 49, 50, 51, 52, 53, 54, 55, 56, 57, 97, 98, 99, 100, 101, 102, 103, 104, 105, 106, 107, 108, 109, 110, 111, 112, 113, 114, 115, 116, 117, 118, 119, 120, 121, 122]⟩ : ByteArray)[j]'h) = hexd j := by decide
theorem conv_at (row : Array Value) (o : Nat) (l : List UInt8) (hl : ∀ j (hj : j < l.length), row[o + j]? = some (.int .u8 (l[j].toNat : Int))) (w : World) (n c : Nat) (hn : n = l.length) :
  (convert 90 9 (.slice (some ⟨w.heap.size, o, none⟩) n c)).run Tryz.prog (w.alloc (.cells row 183)) = .ok (S l) (w.alloc (.cells row 183)) := by
 subst hn;exact run_convert_bytes_back (P := Tryz.prog) _ 90 9 5 ⟨w.heap.size, o, none⟩ c l Tryz.underlying90 Tryz.underlying5 Tryz.underlying9 (by
  intro j hj;rw [Addr.add_lit, Lib.cell_of_heap (heap_alloc_new w _)];exact hl j hj)
theorem tz16 (w : World) (hT : Tab w) : Calls Tryz.prog 98 #[.int .u64 16] w fun e w' => e = .returned (.int .i64 4) /\ w = w' := by
 have h := tz_any 16 (by decide) (by decide) w hT;refine h.mono ?_;rintro e w' ⟨rfl, rfl⟩;exact ⟨by rw [show Lib.ctz 64 16 = 4 from by decide]; rfl, rfl⟩
theorem fmtBits16 (u : Nat) (hu : u < 16) (w : World) (hT : Tab w) (hg : 0 < w.heap.size) :
  Calls Tryz.prog 102 #[.slice none 0 0, .int .u64 u, E 16, .bool false, .bool false] w fun e w' => e = .returned (.tuple #[.slice none 0 0, S [hexd u]]) /\ Below w.heap.size w w' := by
 have hz := zero_65.1;have hsz := zero_65.2;have HT := Lib.hid (hT.below ((Below.refl w.heap.size w).alloc (Nat.le_refl _) (.cells (Array.replicate 65 (Y 0)) 183)) hg);(have hp2 : (bits BinOp.and IntKind.i64 16 15 == 0) = true := by decide);have hd1 := hex_at u hu;have hcv := conv_at ((Array.replicate 65 (Y 0)).setIfInBounds 64 (.int .u8 ((hexd u).toNat : Int))) 64 [hexd u] (by
  intro j hj;(obtain rfl : j = 0 := by simpa using hj);rw [Array.getElem?_setIfInBounds_self_of_lt (by simp)]; rfl) w 1 1 rfl
 go_enter Tryz.func102, Tryz.ntmps102;go_wp2_with (first | (go_at_call 98; refine (tz16 _ HT.out).mono ?_; rintro e w' ⟨rfl, rfl⟩) | go_in)
 go_rounds 1
 go_ret2
 exact ⟨rfl, (Below.refl w.heap.size w).alloc (Nat.le_refl _) _⟩
theorem ifmt16 (u : Nat) (hu : u < 16) (w : World) (hT : Tab w) (hg : 0 < w.heap.size) :
  Calls Tryz.prog 77 #[.int .u64 u, E 16] w fun e w' => e = .returned (S [hexd u]) /\ Below w.heap.size w w' := by
 have HC := Lib.hid (fmtBits16 u hu w hT hg);clear hT hg;go_enter Tryz.func77, Tryz.ntmps77;go_wp2_with (go_at_call 102; refine HC.out.mono ?_; rintro e w1 ⟨rfl, hb⟩; have HB := Lib.hid hb; clear hb);go_ret;exact ⟨rfl, HB.out⟩
theorem fmt16 (u : Nat) (hu : u < 16) (w : World) (hT : Tab w) (hg : 0 < w.heap.size) :
  Calls Tryz.prog 50 #[.int .u64 u, E 16] w fun e w' => e = .returned (S [hexd u]) /\ Below w.heap.size w w' := by
 have HC := Lib.hid (ifmt16 u hu w hT hg);clear hT hg;go_enter Tryz.func50, Tryz.ntmps50;go_wp2_with (go_at_call 77; refine HC.out.mono ?_; rintro e w1 ⟨rfl, hb⟩; have HB := Lib.hid hb; clear hb);go_ret;exact ⟨rfl, HB.out⟩
end Go.Proofs.YtgaiknjmbingjaaGreatDoor.Rx
