/- The reference's Class at every name. -/
import Derived.Test.YtmlgbjdohijlnaaDoorSr8
import Derived.Test.YtmlgbjdohijlnaaDoorStA
import Derived.Deep.RegionHeld3
namespace Go.Proofs.YtmlgbjdohijlnaaDoor.St
open Go.RowKit
set_option linter.unusedVariables false
set_option linter.unusedSimpArgs false
theorem bb_below {X Y : World} {b : Nat} {f : Nat → Bool} (h : BB X b f) (hb : Below X.heap.size X Y) : BB Y b f := (hb.block b (Array.getElem?_eq_some_iff.1 h).1).trans h
theorem bb_alloc {X : World} {b : Nat} {f : Nat → Bool} (h : BB X b f) (o : Obj) : BB (X.alloc o) b f := (heap_alloc_old _ _ (Array.getElem?_eq_some_iff.1 h).1).trans h
/-- Which names there are, and what their classes are. -/
def Named (s : ByteArray) (c : List Nat) (b : Bool) : Prop := (s = ⟨#[117, 112, 112, 101, 114]⟩ ∧ c = rangeW 65 90 ∧ b = true) ∨ (s = ⟨#[108, 111, 119, 101, 114]⟩ ∧ c = rangeW 97 122 ∧ b = true) ∨ (s = ⟨#[97, 108, 112, 104, 97]⟩ ∧ c = orL [rangeW 65 90, rangeW 97 122] ∧ b = true) ∨ (s = ⟨#[100, 105, 103, 105, 116]⟩ ∧ c = rangeW 48 57 ∧ b = true) ∨ (s = ⟨#[97, 108, 110, 117, 109]⟩ ∧ c = orL [rangeW 65 90, rangeW 97 122, rangeW 48 57] ∧ b = true) ∨ (s = ⟨#[120, 100, 105, 103, 105, 116]⟩ ∧ c = orL [rangeW 48 57, rangeW 65 70, rangeW 97 102] ∧ b = true) ∨ (s = ⟨#[98, 108, 97, 110, 107]⟩ ∧ c = ofL [32, 9] ∧ b = true) ∨ (s = ⟨#[115, 112, 97, 99, 101]⟩ ∧ c = ofL [32, 9, 10, 11, 12, 13] ∧ b = true) ∨ (s = ⟨#[99, 110, 116, 114, 108]⟩ ∧ c = orL [rangeW 0 31, ofL [127]] ∧ b = true) ∨ (s = ⟨#[103, 114, 97, 112, 104]⟩ ∧ c = rangeW 33 126 ∧ b = true) ∨ (s = ⟨#[112, 114, 105, 110, 116]⟩ ∧ c = rangeW 32 126 ∧ b = true) ∨ (s = ⟨#[112, 117, 110, 99, 116]⟩ ∧ c = orL [rangeW 33 47, rangeW 58 64, rangeW 91 96, rangeW 123 126] ∧ b = true) ∨ (((s.toList == [117, 112, 112, 101, 114]) = false ∧ (s.toList == [108, 111, 119, 101, 114]) = false ∧ (s.toList == [97, 108, 112, 104, 97]) = false ∧ (s.toList == [100, 105, 103, 105, 116]) = false ∧ (s.toList == [97, 108, 110, 117, 109]) = false ∧ (s.toList == [120, 100, 105, 103, 105, 116]) = false ∧ (s.toList == [98, 108, 97, 110, 107]) = false ∧ (s.toList == [115, 112, 97, 99, 101]) = false ∧ (s.toList == [99, 110, 116, 114, 108]) = false ∧ (s.toList == [103, 114, 97, 112, 104]) = false ∧ (s.toList == [112, 114, 105, 110, 116]) = false ∧ (s.toList == [112, 117, 110, 99, 116]) = false) ∧ c = zeroW ∧ b = false)
def Rg (b4 b5 b6 : Nat) (w0 w : World) : Prop := BB w b4 (mem (rangeW 65 90)) ∧ BB w b5 (mem (rangeW 97 122)) ∧ BB w b6 (mem (rangeW 48 57)) ∧ Below w0.heap.size w0 w
theorem Rg.below {b4 b5 b6 : Nat} {w0 w w' : World} (h : Rg b4 b5 b6 w0 w) (hb : Below w.heap.size w w') : Rg b4 b5 b6 w0 w' := ⟨bb_below h.1 hb, bb_below h.2.1 hb, bb_below h.2.2.1 hb, h.2.2.2.trans (hb.mono h.2.2.2.size)⟩
theorem Rg.alloc {b4 b5 b6 : Nat} {w0 w : World} (h : Rg b4 b5 b6 w0 w) (o : Obj) : Rg b4 b5 b6 w0 (w.alloc o) := h.below ((Below.refl _ w).alloc (Nat.le_refl _) o)
theorem Rg.drew {b4 b5 b6 : Nat} {w0 w : World} (h : Rg b4 b5 b6 w0 w) : Rg b4 b5 b6 w0 w.drew := h.below (Below.refl _ w).drew
theorem Rg.row {b4 b5 b6 n : Nat} {w0 w : World} (h : Rg b4 b5 b6 w0 w) (h4 : b4 < w0.heap.size) (h5 : b5 < w0.heap.size) (h6 : b6 < w0.heap.size) (hn : w0.heap.size ≤ n) (c : Array Value) : Rg b4 b5 b6 w0 (w.setRow n c) :=
  ⟨heap_row_other h.1 (by omega) c, heap_row_other h.2.1 (by omega) c, heap_row_other h.2.2.1 (by omega) c, below_setRow h.2.2.2 hn c⟩
theorem rg_of {b4 b5 b6 : Nat} {w0 W : World} {f : Nat → Bool} (h : Rg b4 b5 b6 w0 (W.alloc (.cells (bc f) 29))) : BB (W.alloc (.cells (bc f) 29)) W.heap.size f := bb_new W f
theorem yl {o : Oper} {a : Act} {w : World} {b : Nat} {f : Nat → Bool} (x : Operand) (ho : o.op = .load 29 x) (hx : a.eval x = .pointer (some ⟨b, 0, none⟩)) (hg : BB w b f) : (execOp a.eval o).run Tryd.prog w = .ok (.value (BV f)) w := by
  unfold execOp
  simp only [ho, hx, Instr.loadAt, Instr.sureAddr, Sem.run_bind, Sem.run_pure, Result.andThen_ok, run_loadVar_row w b 29 _ (bc f) (0, 0) (.array 256 4) hg Tryd.underlying29 rfl (by rw [bc_size]; exact size_at)]
def Rs (b4 b5 b6 b7 : Nat) (w W : World) : Prop := BB W w.heap.size FF ∧ BB W b4 (mem (rangeW 65 90)) ∧ BB W b5 (mem (rangeW 97 122)) ∧ BB W b6 (mem (rangeW 48 57)) ∧ BB W b7 (mem (orL [orL [rangeW 65 90, rangeW 97 122], rangeW 48 57])) ∧ Below w.heap.size w W
    theorem Rs.below {b4 b5 b6 b7 : Nat} {w0 w w' : World} (h : Rs b4 b5 b6 b7 w0 w) (hb : Below w.heap.size w w') : Rs b4 b5 b6 b7 w0 w' := ⟨bb_below h.1 hb, bb_below h.2.1 hb, bb_below h.2.2.1 hb, bb_below h.2.2.2.1 hb, bb_below h.2.2.2.2.1 hb, h.2.2.2.2.2.trans (hb.mono h.2.2.2.2.2.size)⟩
    theorem Rs.alloc {b4 b5 b6 b7 : Nat} {w0 w : World} (h : Rs b4 b5 b6 b7 w0 w) (o : Obj) : Rs b4 b5 b6 b7 w0 (w.alloc o) := h.below ((Below.refl _ w).alloc (Nat.le_refl _) o)
    theorem Rs.drew {b4 b5 b6 b7 : Nat} {w0 w : World} (h : Rs b4 b5 b6 b7 w0 w) : Rs b4 b5 b6 b7 w0 w.drew := h.below (Below.refl _ w).drew
    theorem Rs.row {b4 b5 b6 b7 n : Nat} {w0 w : World} (h : Rs b4 b5 b6 b7 w0 w) (h2 : w0.heap.size < n) (h4 : b4 < n) (h5 : b5 < n) (h6 : b6 < n) (h7 : b7 < n) (c : Array Value) : Rs b4 b5 b6 b7 w0 (w.setRow n c) :=
      ⟨heap_row_other h.1 (by omega) c, heap_row_other h.2.1 (by omega) c, heap_row_other h.2.2.1 (by omega) c, heap_row_other h.2.2.2.1 (by omega) c, heap_row_other h.2.2.2.2.1 (by omega) c, below_setRow h.2.2.2.2.2 (by omega) c⟩
    theorem Rs.cell {b4 b5 b6 b7 n : Nat} {w0 w : World} (h : Rs b4 b5 b6 b7 w0 w) (h2 : w0.heap.size < n) (h4 : b4 < n) (h5 : b5 < n) (h6 : b6 < n) (h7 : b7 < n) (i : Nat) (v : Value) : Rs b4 b5 b6 b7 w0 (w.setCell ⟨n, i, none⟩ v) :=
  ⟨heap_set_other h.1 (by omega) _ _, heap_set_other h.2.1 (by omega) _ _, heap_set_other h.2.2.1 (by omega) _ _, heap_set_other h.2.2.2.1 (by omega) _ _, heap_set_other h.2.2.2.2.1 (by omega) _ _, h.2.2.2.2.2.setCell (p := ⟨n, i, none⟩) (by show w0.heap.size ≤ n; omega) _⟩
def pnB (k : Nat) : Nat → Bool := fun i => if i < k then mem (rangeW 33 126) i && !mem (orL [orL [rangeW 65 90, rangeW 97 122], rangeW 48 57]) i else mem (rangeW 33 126) i
    theorem pn_all : ((List.range 256).all fun i => (mem (rangeW 33 126) i && !mem (orL [orL [rangeW 65 90, rangeW 97 122], rangeW 48 57]) i) == mem (orL [rangeW 33 47, rangeW 58 64, rangeW 91 96, rangeW 123 126]) i) = true := by decide +kernel
    theorem answer2 {fn : Func} {p q : Tmp} (h : fn.results = #[.cell p 29, .tmp q]) {tmps : Array Value} {w : World} {g : Nat} {f : Nat → Bool} {v : Value} (hp : tmps.getD p undef = .pointer (some ⟨g, 0, none⟩)) (hq : tmps.getD q undef = v) (hg : BB w g f) : (results fn tmps).run Tryd.prog w = .ok (.tuple #[BV f, v]) w := by
      have hld := run_loadVar_row (P := Tryd.prog) w g 29 29 (bc f) (0, 0) (.array 256 4) hg Tryd.underlying29 rfl (by rw [bc_size]; exact size_at)
      have hp' : tmps[p]?.getD undef = .pointer (some ⟨g, 0, none⟩) := by simpa using hp
      have hq' : tmps[q]?.getD undef = v := by simpa using hq
      simp [results, h, hp', hq', asAddr, hld, Result.andThen]
    def Fz (n : Nat) := Code.region n
set_option maxRecDepth 100000 in
set_option maxHeartbeats 4000000 in
theorem refClass_any (s : ByteArray) (c : List Nat) (b : Bool) (h : Named s c b) (w : World) :
    Calls Tryd.prog 12 #[.string s] w fun e w' => e = .returned (.tuple #[BV (mem c), .bool b]) ∧ Below w.heap.size w w' := by
  have hz := zero_at
  have HN := Lib.hid h
  clear h
  go_enter Tryd.func12, Tryd.ntmps12
  refine wp_seq_k fun K0 hK => ?_
  have HK := Lib.hid hK; clear hK
  go_wp2
  refine HK.out _ _ ?_
  clear HK K0
  have H2 := Lib.hid (show BB (w.alloc (Obj.cells (bc fun x => false) 29)) w.heap.size FF from bb_new w FF)
  have HB := Lib.hid ((Below.refl w.heap.size w).alloc (Nat.le_refl _) (Obj.cells (bc fun x => false) 29))
  generalize w.alloc (Obj.cells (bc fun x => false) 29) = W0 at *
  refine wp_seq_k fun K1 hK => ?_
  have HK := Lib.hid hK; clear hK
  go_wp2_with (first
    | (go_at_call 22; refine (refRange_lit _ _ _ (by omega) (by omega)).mono ?_; rintro e w' ⟨he, hb⟩; simp only [Int.reduceToNat] at he; subst he
       have hsc := run_storeCells_new (P := Tryd.prog) w' 29 (bc FF) (bc (mem (rangeW 65 90))) (by rw [bc_size]; exact size_at) (by rw [bc_size, bc_size]) (bc_one _)
       have hn := bc_size (mem (rangeW 65 90))))
  refine HK.out _ _ ?_
  clear HK K1 hsc hn
  have H4 := Lib.hid (bb_new w' (mem (rangeW 65 90)))
  replace H2 := Lib.hid (bb_alloc (bb_below H2.out hb) (Obj.cells (bc (mem (rangeW 65 90))) 29))
  replace HB := Lib.hid (HB.out.trans (show Below w.heap.size W0 (w'.alloc (Obj.cells (bc (mem (rangeW 65 90))) 29)) from (hb.mono HB.out.size).alloc (Nat.le_trans HB.out.size hb.size) _))
  clear hb
  generalize w'.alloc (Obj.cells (bc (mem (rangeW 65 90))) 29) = W1 at *
  generalize w'.heap.size = b4 at *
  refine wp_seq_k fun K2 hK => ?_
  have HK := Lib.hid hK; clear hK
  go_wp2_with (first
    | (go_at_call 22; refine (refRange_lit _ _ _ (by omega) (by omega)).mono ?_; rintro e w' ⟨he, hb⟩; simp only [Int.reduceToNat] at he; subst he
       have hsc := run_storeCells_new (P := Tryd.prog) w' 29 (bc FF) (bc (mem (rangeW 97 122))) (by rw [bc_size]; exact size_at) (by rw [bc_size, bc_size]) (bc_one _)
       have hn := bc_size (mem (rangeW 97 122))))
  refine HK.out _ _ ?_
  clear HK K2 hsc hn
  have H5 := Lib.hid (bb_new w' (mem (rangeW 97 122)))
  replace H2 := Lib.hid (bb_alloc (bb_below H2.out hb) (Obj.cells (bc (mem (rangeW 97 122))) 29))
  replace H4 := Lib.hid (bb_alloc (bb_below H4.out hb) (Obj.cells (bc (mem (rangeW 97 122))) 29))
  replace HB := Lib.hid (HB.out.trans (show Below w.heap.size W1 (w'.alloc (Obj.cells (bc (mem (rangeW 97 122))) 29)) from (hb.mono HB.out.size).alloc (Nat.le_trans HB.out.size hb.size) _))
  clear hb
  generalize w'.alloc (Obj.cells (bc (mem (rangeW 97 122))) 29) = W2 at *
  generalize w'.heap.size = b5 at *
  refine wp_seq_k fun K3 hK => ?_
  have HK := Lib.hid hK; clear hK
  go_wp2_with (first
    | (go_at_call 22; refine (refRange_lit _ _ _ (by omega) (by omega)).mono ?_; rintro e w' ⟨he, hb⟩; simp only [Int.reduceToNat] at he; subst he
       have hsc := run_storeCells_new (P := Tryd.prog) w' 29 (bc FF) (bc (mem (rangeW 48 57))) (by rw [bc_size]; exact size_at) (by rw [bc_size, bc_size]) (bc_one _)
       have hn := bc_size (mem (rangeW 48 57))))
  refine HK.out _ _ ?_
  clear HK K3 hsc hn
  have H6 := Lib.hid (bb_new w' (mem (rangeW 48 57)))
  replace H2 := Lib.hid (bb_alloc (bb_below H2.out hb) (Obj.cells (bc (mem (rangeW 48 57))) 29))
  replace H4 := Lib.hid (bb_alloc (bb_below H4.out hb) (Obj.cells (bc (mem (rangeW 48 57))) 29))
  replace H5 := Lib.hid (bb_alloc (bb_below H5.out hb) (Obj.cells (bc (mem (rangeW 48 57))) 29))
  replace HB := Lib.hid (HB.out.trans (show Below w.heap.size W2 (w'.alloc (Obj.cells (bc (mem (rangeW 48 57))) 29)) from (hb.mono HB.out.size).alloc (Nat.le_trans HB.out.size hb.size) _))
  clear hb
  generalize w'.alloc (Obj.cells (bc (mem (rangeW 48 57))) 29) = W3 at *
  generalize w'.heap.size = b6 at *
  have h4 : b4 < W3.heap.size := (Array.getElem?_eq_some_iff.1 H4.out).1
  have h5 : b5 < W3.heap.size := (Array.getElem?_eq_some_iff.1 H5.out).1
  have h6 : b6 < W3.heap.size := (Array.getElem?_eq_some_iff.1 H6.out).1
  have h2 : w.heap.size < W3.heap.size := (Array.getElem?_eq_some_iff.1 H2.out).1
  refine wp_seq_k fun K4 hK => ?_
  have HK := Lib.hid hK; clear hK
  have HREST : ∀ (n : Nat) (x13 x14 x15 x16 x17 : Value) (W : World), BB W n (mem (orL [orL [rangeW 65 90, rangeW 97 122], rangeW 48 57])) → Rg b4 b5 b6 W3 W → K4 { tmps := #[Value.string s, undef, Value.pointer (some { block := w.heap.size, off := 0 }), Value.bool false, Value.pointer (some { block := b4, off := 0 }), Value.pointer (some { block := b5, off := 0 }), Value.pointer (some { block := b6, off := 0 }), Value.pointer (some { block := n, off := 0 }), undef, undef, BV (mem (rangeW 65 90)), BV (mem (rangeW 97 122)), BV (mem (rangeW 48 57)), x13, x14, x15, x16, x17, undef, undef, undef, undef, undef, undef, undef, undef, undef, undef, undef, undef, undef, undef, undef, undef, undef, undef, undef, undef, undef, undef, undef, undef, undef, undef, undef, undef, undef, undef, undef, undef, undef, undef, undef, undef, undef, undef, undef, undef, undef, undef, undef, undef, undef, undef, undef, undef, undef, undef, undef, undef, undef, undef, undef, undef, undef, undef, undef, undef, undef, undef, undef, undef, undef], defers := [] } W := by
    intro n x13 x14 x15 x16 x17 W hN hRg
    refine HK.out _ _ ?_
    clear HK K4
    have HS := Lib.hid (show Rs b4 b5 b6 n w W from ⟨bb_below H2.out hRg.2.2.2, hRg.1, hRg.2.1, hRg.2.2.1, hN, HB.out.trans (hRg.2.2.2.mono HB.out.size)⟩)
    clear hRg hN H2 H4 H5 H6 HB h4 h5 h6 h2
    refine wp_seq_k fun K5 hK => ?_
    have HK := Lib.hid hK; clear hK
    have hsc := run_storeCells_new (P := Tryd.prog) W 29 (bc FF) (bc FF) (by rw [bc_size]; exact size_at) rfl (bc_one _)
    have hn := bc_size FF
    go_wp2
    refine HK.out _ _ ?_
    clear HK K5 hsc hn
    have H8 := Lib.hid (bb_new W FF)
    have l2 : w.heap.size < W.heap.size := (Array.getElem?_eq_some_iff.1 HS.out.1).1
    have l4 : b4 < W.heap.size := (Array.getElem?_eq_some_iff.1 HS.out.2.1).1
    have l5 : b5 < W.heap.size := (Array.getElem?_eq_some_iff.1 HS.out.2.2.1).1
    have l6 : b6 < W.heap.size := (Array.getElem?_eq_some_iff.1 HS.out.2.2.2.1).1
    have l7 : n < W.heap.size := (Array.getElem?_eq_some_iff.1 HS.out.2.2.2.2.1).1
    replace HS := Lib.hid (Rs.alloc HS.out (Obj.cells (bc FF) 29))
    generalize W.alloc (Obj.cells (bc FF) 29) = WW at *
    generalize W.heap.size = b8 at *
    rw [show Code.region 9 = Fz 9 from rfl, show Code.region 11 = Fz 11 from rfl, show Code.region 13 = Fz 13 from rfl, show Code.region 15 = Fz 15 from rfl, show Code.region 17 = Fz 17 from rfl, show Code.region 19 = Fz 19 from rfl, show Code.region 36 = Fz 36 from rfl]
    have h := HN.out
    unfold Named at h
    clear HN
    rcases h with ⟨rfl, rfl, rfl⟩ | ⟨rfl, rfl, rfl⟩ | ⟨rfl, rfl, rfl⟩ | ⟨rfl, rfl, rfl⟩ | ⟨rfl, rfl, rfl⟩ | ⟨rfl, rfl, rfl⟩ | ⟨rfl, rfl, rfl⟩ | ⟨rfl, rfl, rfl⟩ | ⟨rfl, rfl, rfl⟩ | ⟨rfl, rfl, rfl⟩ | ⟨rfl, rfl, rfl⟩ | ⟨rfl, rfl, rfl⟩ | ⟨hnn, rfl, rfl⟩
    · go_wp2
      rw [show Fz 9 = Code.region 9 from rfl]
      refine tail_row rfl rfl rfl rfl rfl rfl rfl rfl rfl HS.out.2.1 H8.out ?_
      simp only [Act.put, List.setIfInBounds_toArray, List.set_cons_zero, List.set_cons_succ]
      go_wp2
      have HF := Lib.hid (BB.row H8.out (mem (rangeW 65 90)))
      have HG := Lib.hid (Rs.row HS.out l2 l4 l5 l6 l7 (bc (mem (rangeW 65 90))))
      clear HS H8
      generalize WW.setRow b8 (bc (mem (rangeW 65 90))) = X at *
      have HP := Lib.hid (BB.row HG.out.1 (mem (rangeW 65 90)))
      have HBX := Lib.hid (below_setRow HG.out.2.2.2.2.2 (Nat.le_refl _) (bc (mem (rangeW 65 90))))
      rw [show Fz 36 = Code.region 36 from rfl]
      refine wp_region_list ?_
      refine wpList_load_row rfl 29 (.tmp 8) rfl b8 rfl _ (bc (mem (rangeW 65 90))) (0, 0) (.array 256 4) HF.out Tryd.underlying29 rfl (by rw [bc_size]; exact size_at) ?_
      simp only [Act.put, List.setIfInBounds_toArray, List.set_cons_zero, List.set_cons_succ]
      refine wpList_store_row rfl 29 (.tmp 2) (.tmp 82) rfl w.heap.size (bc (mem (rangeW 65 90))) rfl rfl _ (bc FF) HG.out.1 (by rw [bc_size]; exact size_at) (by rw [bc_size, bc_size]) (bc_one _) ?_
      simp only [Act.put, List.setIfInBounds_toArray, List.set_cons_zero, List.set_cons_succ]
      go_wp2
      refine bodyPost_ret (v := .tuple #[BV (mem (rangeW 65 90)), .bool true]) ?_ ?_ ?_
      · exact answer2 rfl rfl rfl HP.out
      · rfl
      · exact ⟨rfl, HBX.out⟩
    · go_wp2
      rw [show Fz 11 = Code.region 11 from rfl]
      refine tail_row rfl rfl rfl rfl rfl rfl rfl rfl rfl HS.out.2.2.1 H8.out ?_
      simp only [Act.put, List.setIfInBounds_toArray, List.set_cons_zero, List.set_cons_succ]
      go_wp2
      have HF := Lib.hid (BB.row H8.out (mem (rangeW 97 122)))
      have HG := Lib.hid (Rs.row HS.out l2 l4 l5 l6 l7 (bc (mem (rangeW 97 122))))
      clear HS H8
      generalize WW.setRow b8 (bc (mem (rangeW 97 122))) = X at *
      have HP := Lib.hid (BB.row HG.out.1 (mem (rangeW 97 122)))
      have HBX := Lib.hid (below_setRow HG.out.2.2.2.2.2 (Nat.le_refl _) (bc (mem (rangeW 97 122))))
      rw [show Fz 36 = Code.region 36 from rfl]
      refine wp_region_list ?_
      refine wpList_load_row rfl 29 (.tmp 8) rfl b8 rfl _ (bc (mem (rangeW 97 122))) (0, 0) (.array 256 4) HF.out Tryd.underlying29 rfl (by rw [bc_size]; exact size_at) ?_
      simp only [Act.put, List.setIfInBounds_toArray, List.set_cons_zero, List.set_cons_succ]
      refine wpList_store_row rfl 29 (.tmp 2) (.tmp 82) rfl w.heap.size (bc (mem (rangeW 97 122))) rfl rfl _ (bc FF) HG.out.1 (by rw [bc_size]; exact size_at) (by rw [bc_size, bc_size]) (bc_one _) ?_
      simp only [Act.put, List.setIfInBounds_toArray, List.set_cons_zero, List.set_cons_succ]
      go_wp2
      refine bodyPost_ret (v := .tuple #[BV (mem (rangeW 97 122)), .bool true]) ?_ ?_ ?_
      · exact answer2 rfl rfl rfl HP.out
      · rfl
      · exact ⟨rfl, HBX.out⟩
    · go_wp2
      rw [show Fz 13 = Code.region 13 from rfl]
      refine wp_region_list ?_
      refine wpList_load_row rfl 29 (.tmp 4) rfl b4 rfl _ (bc (mem (rangeW 65 90))) (0, 0) (.array 256 4) HS.out.2.1 Tryd.underlying29 rfl (by rw [bc_size]; exact size_at) ?_
      simp only [Act.put, List.setIfInBounds_toArray, List.set_cons_zero, List.set_cons_succ]
      refine wpList_load_row rfl 29 (.tmp 5) rfl b5 rfl _ (bc (mem (rangeW 97 122))) (0, 0) (.array 256 4) HS.out.2.2.1 Tryd.underlying29 rfl (by rw [bc_size]; exact size_at) ?_
      simp only [Act.put, List.setIfInBounds_toArray, List.set_cons_zero, List.set_cons_succ]
      go_wp2_with (first
         | (go_at_call 23; refine (refOr_set (rangeW 65 90) (rangeW 97 122) _ (wf_rangeW (by decide) (by decide)) (wf_rangeW (by decide) (by decide))).mono ?_; rintro e w' ⟨rfl, hbl⟩; replace H8 := Lib.hid (bb_below H8.out hbl); replace HS := Lib.hid (Rs.below HS.out hbl); have hsc := fun f => row_store (P := Tryd.prog) H8.out (c' := bc f) (by rw [bc_size, bc_size]) (bc_one f); have hn := fun f => bc_size f))
      have HF := Lib.hid (BB.row H8.out (mem (orL [rangeW 65 90, rangeW 97 122])))
      have HG := Lib.hid (Rs.row HS.out l2 l4 l5 l6 l7 (bc (mem (orL [rangeW 65 90, rangeW 97 122]))))
      clear HS H8
      generalize w'.setRow b8 (bc (mem (orL [rangeW 65 90, rangeW 97 122]))) = X at *
      have HP := Lib.hid (BB.row HG.out.1 (mem (orL [rangeW 65 90, rangeW 97 122])))
      have HBX := Lib.hid (below_setRow HG.out.2.2.2.2.2 (Nat.le_refl _) (bc (mem (orL [rangeW 65 90, rangeW 97 122]))))
      rw [show Fz 36 = Code.region 36 from rfl]
      refine wp_region_list ?_
      refine wpList_load_row rfl 29 (.tmp 8) rfl b8 rfl _ (bc (mem (orL [rangeW 65 90, rangeW 97 122]))) (0, 0) (.array 256 4) HF.out Tryd.underlying29 rfl (by rw [bc_size]; exact size_at) ?_
      simp only [Act.put, List.setIfInBounds_toArray, List.set_cons_zero, List.set_cons_succ]
      refine wpList_store_row rfl 29 (.tmp 2) (.tmp 82) rfl w.heap.size (bc (mem (orL [rangeW 65 90, rangeW 97 122]))) rfl rfl _ (bc FF) HG.out.1 (by rw [bc_size]; exact size_at) (by rw [bc_size, bc_size]) (bc_one _) ?_
      simp only [Act.put, List.setIfInBounds_toArray, List.set_cons_zero, List.set_cons_succ]
      go_wp2
      refine bodyPost_ret (v := .tuple #[BV (mem (orL [rangeW 65 90, rangeW 97 122])), .bool true]) ?_ ?_ ?_
      · exact answer2 rfl rfl rfl HP.out
      · rfl
      · exact ⟨rfl, HBX.out⟩
    · go_wp2
      rw [show Fz 15 = Code.region 15 from rfl]
      refine tail_row rfl rfl rfl rfl rfl rfl rfl rfl rfl HS.out.2.2.2.1 H8.out ?_
      simp only [Act.put, List.setIfInBounds_toArray, List.set_cons_zero, List.set_cons_succ]
      go_wp2
      have HF := Lib.hid (BB.row H8.out (mem (rangeW 48 57)))
      have HG := Lib.hid (Rs.row HS.out l2 l4 l5 l6 l7 (bc (mem (rangeW 48 57))))
      clear HS H8
      generalize WW.setRow b8 (bc (mem (rangeW 48 57))) = X at *
      have HP := Lib.hid (BB.row HG.out.1 (mem (rangeW 48 57)))
      have HBX := Lib.hid (below_setRow HG.out.2.2.2.2.2 (Nat.le_refl _) (bc (mem (rangeW 48 57))))
      rw [show Fz 36 = Code.region 36 from rfl]
      refine wp_region_list ?_
      refine wpList_load_row rfl 29 (.tmp 8) rfl b8 rfl _ (bc (mem (rangeW 48 57))) (0, 0) (.array 256 4) HF.out Tryd.underlying29 rfl (by rw [bc_size]; exact size_at) ?_
      simp only [Act.put, List.setIfInBounds_toArray, List.set_cons_zero, List.set_cons_succ]
      refine wpList_store_row rfl 29 (.tmp 2) (.tmp 82) rfl w.heap.size (bc (mem (rangeW 48 57))) rfl rfl _ (bc FF) HG.out.1 (by rw [bc_size]; exact size_at) (by rw [bc_size, bc_size]) (bc_one _) ?_
      simp only [Act.put, List.setIfInBounds_toArray, List.set_cons_zero, List.set_cons_succ]
      go_wp2
      refine bodyPost_ret (v := .tuple #[BV (mem (rangeW 48 57)), .bool true]) ?_ ?_ ?_
      · exact answer2 rfl rfl rfl HP.out
      · rfl
      · exact ⟨rfl, HBX.out⟩
    · go_wp2
      rw [show Fz 17 = Code.region 17 from rfl]
      refine tail_row rfl rfl rfl rfl rfl rfl rfl rfl rfl HS.out.2.2.2.2.1 H8.out ?_
      simp only [Act.put, List.setIfInBounds_toArray, List.set_cons_zero, List.set_cons_succ]
      go_wp2
      have HF := Lib.hid (BB.row H8.out (mem (orL [orL [rangeW 65 90, rangeW 97 122], rangeW 48 57])))
      have HG := Lib.hid (Rs.row HS.out l2 l4 l5 l6 l7 (bc (mem (orL [orL [rangeW 65 90, rangeW 97 122], rangeW 48 57]))))
      clear HS H8
      generalize WW.setRow b8 (bc (mem (orL [orL [rangeW 65 90, rangeW 97 122], rangeW 48 57]))) = X at *
      rw [BB, show bc (mem (orL [orL [rangeW 65 90, rangeW 97 122], rangeW 48 57])) = bc (mem (orL [rangeW 65 90, rangeW 97 122, rangeW 48 57])) from by rw [show orL [orL [rangeW 65 90, rangeW 97 122], rangeW 48 57] = orL [rangeW 65 90, rangeW 97 122, rangeW 48 57] from by decide +kernel]] at HF
      have HP := Lib.hid (BB.row HG.out.1 (mem (orL [rangeW 65 90, rangeW 97 122, rangeW 48 57])))
      have HBX := Lib.hid (below_setRow HG.out.2.2.2.2.2 (Nat.le_refl _) (bc (mem (orL [rangeW 65 90, rangeW 97 122, rangeW 48 57]))))
      rw [show Fz 36 = Code.region 36 from rfl]
      refine wp_region_list ?_
      refine wpList_load_row rfl 29 (.tmp 8) rfl b8 rfl _ (bc (mem (orL [rangeW 65 90, rangeW 97 122, rangeW 48 57]))) (0, 0) (.array 256 4) HF.out Tryd.underlying29 rfl (by rw [bc_size]; exact size_at) ?_
      simp only [Act.put, List.setIfInBounds_toArray, List.set_cons_zero, List.set_cons_succ]
      refine wpList_store_row rfl 29 (.tmp 2) (.tmp 82) rfl w.heap.size (bc (mem (orL [rangeW 65 90, rangeW 97 122, rangeW 48 57]))) rfl rfl _ (bc FF) HG.out.1 (by rw [bc_size]; exact size_at) (by rw [bc_size, bc_size]) (bc_one _) ?_
      simp only [Act.put, List.setIfInBounds_toArray, List.set_cons_zero, List.set_cons_succ]
      go_wp2
      refine bodyPost_ret (v := .tuple #[BV (mem (orL [rangeW 65 90, rangeW 97 122, rangeW 48 57])), .bool true]) ?_ ?_ ?_
      · exact answer2 rfl rfl rfl HP.out
      · rfl
      · exact ⟨rfl, HBX.out⟩
    · go_wp2
      rw [show Fz 19 = Code.region 19 from rfl]
      refine wp_region_noPanic ?_
      refine wp_region_held_drew (S := Rs b4 b5 b6 n w) (by kernel_rfl) ?_ (fun hHeld => ?_)
      · exact Rs.drew HS.out
      replace HS := Lib.hid (Rs.drew HS.out)
      replace H8 := Lib.hid (BB.drew H8.out)
      generalize WW.drew = W2 at *
      refine wpAnyH_take (i := 0) (oi := ?o0x) (v := BV (mem (rangeW 48 57))) ?hi0x (by kernel_rfl) (by kernel_rfl) (by kernel_rfl) (fun _ _ _ h => h) ?hy0x (by assumption) ?r0x
      case hi0x => simp only [List.getElem?_toArray, List.getElem?_cons_succ, List.getElem?_cons_zero]; rfl
      case hy0x => exact Or.inl ⟨by rfl, fun w hSw => yl (.tmp 6) rfl rfl hSw.2.2.2.1⟩
      try simp only [Act.put, List.setIfInBounds_toArray, List.set_cons_zero, List.set_cons_succ]
      refine wpAnyH_ready (rs := [1]) (by kernel_rfl) (by simp) ?_
      refine AllReadyH.cons (o := ?o1x) ?hi1x (fun K hK => ?st1x) AllReadyH.nil
      case hi1x => simp only [List.getElem?_toArray, List.getElem?_cons_succ, List.getElem?_cons_zero]; rfl
      go_simp
      (go_at_call 22; refine (refRange_lit _ _ _ (by omega) (by omega)).mono ?_; rintro e w' ⟨he, hbl⟩; simp only [Int.reduceToNat] at he; subst he; replace H8 := Lib.hid (bb_below H8.out hbl); replace HS := Lib.hid (Rs.below HS.out hbl))
      refine hK.out _ _ ?_ (fun hHeld => ?_)
      · (try dsimp only); (first | exact HS.out)
      clear hK K
      try simp only [Act.put, List.setIfInBounds_toArray, List.set_cons_zero, List.set_cons_succ]
      refine wpAnyH_ready (rs := [2]) (by kernel_rfl) (by simp) ?_
      refine AllReadyH.cons (o := ?o2x) ?hi2x (fun K hK => ?st2x) AllReadyH.nil
      case hi2x => simp only [List.getElem?_toArray, List.getElem?_cons_succ, List.getElem?_cons_zero]; rfl
      go_simp
      (go_at_call 22; refine (refRange_lit _ _ _ (by omega) (by omega)).mono ?_; rintro e w' ⟨he, hbl⟩; simp only [Int.reduceToNat] at he; subst he; replace H8 := Lib.hid (bb_below H8.out hbl); replace HS := Lib.hid (Rs.below HS.out hbl))
      refine hK.out _ _ ?_ (fun hHeld => ?_)
      · (try dsimp only); (first | exact HS.out)
      clear hK K
      try simp only [Act.put, List.setIfInBounds_toArray, List.set_cons_zero, List.set_cons_succ]
      refine wpAnyH_ready (rs := [3]) (by kernel_rfl) (by simp) ?_
      refine AllReadyH.cons (o := ?o3x) ?hi3x (fun K hK => ?st3x) AllReadyH.nil
      case hi3x => simp only [List.getElem?_toArray, List.getElem?_cons_succ, List.getElem?_cons_zero]; rfl
      go_simp
      (go_at_call 23; refine (refOr_set (rangeW 65 70) (rangeW 97 102) _ (wf_rangeW (by decide) (by decide)) (wf_rangeW (by decide) (by decide))).mono ?_; rintro e w' ⟨rfl, hbl⟩; replace H8 := Lib.hid (bb_below H8.out hbl); replace HS := Lib.hid (Rs.below HS.out hbl))
      refine hK.out _ _ ?_ (fun hHeld => ?_)
      · (try dsimp only); (first | exact HS.out)
      clear hK K
      try simp only [Act.put, List.setIfInBounds_toArray, List.set_cons_zero, List.set_cons_succ]
      refine wpAnyH_ready (rs := [4]) (by kernel_rfl) (by simp) ?_
      refine AllReadyH.cons (o := ?o4x) ?hi4x (fun K hK => ?st4x) AllReadyH.nil
      case hi4x => simp only [List.getElem?_toArray, List.getElem?_cons_succ, List.getElem?_cons_zero]; rfl
      go_simp
      (go_at_call 23; refine (refOr_set (rangeW 48 57) (orL [rangeW 65 70, rangeW 97 102]) _ (wf_rangeW (by decide) (by decide)) (wf_orL (wf_all (by simp [wf_rangeW, wf_ofL])))).mono ?_; rintro e w' ⟨rfl, hbl⟩; replace H8 := Lib.hid (bb_below H8.out hbl); replace HS := Lib.hid (Rs.below HS.out hbl))
      refine hK.out _ _ ?_ (fun hHeld => ?_)
      · (try dsimp only); (first | exact HS.out)
      clear hK K
      try simp only [Act.put, List.setIfInBounds_toArray, List.set_cons_zero, List.set_cons_succ]
      have hsc := row_store (P := Tryd.prog) H8.out (c' := bc (mem (orL [rangeW 48 57, orL [rangeW 65 70, rangeW 97 102]]))) (by rw [bc_size, bc_size]) (bc_one _)
      have hn := bc_size (mem (orL [rangeW 48 57, orL [rangeW 65 70, rangeW 97 102]]))
      refine wpAnyH_ready (rs := [5]) (by kernel_rfl) (by simp) ?_
      refine AllReadyH.cons (o := ?ozx) ?hizx (fun K hK => ?stzx) AllReadyH.nil
      case hizx => simp only [List.getElem?_toArray, List.getElem?_cons_succ, List.getElem?_cons_zero]; rfl
      go_simp
      refine hK.out _ _ ?_ (fun hHeld => ?_)
      · (try dsimp only); exact Rs.row HS.out l2 l4 l5 l6 l7 _
      clear hK K
      try simp only [Act.put, List.setIfInBounds_toArray, List.set_cons_zero, List.set_cons_succ]
      refine wpAnyH_done (by kernel_rfl) ?_ _
      refine NoPanic.normal ?_
      clear hsc hn
      go_wp2
      have HF := Lib.hid (BB.row H8.out (mem (orL [rangeW 48 57, orL [rangeW 65 70, rangeW 97 102]])))
      have HG := Lib.hid (Rs.row HS.out l2 l4 l5 l6 l7 (bc (mem (orL [rangeW 48 57, orL [rangeW 65 70, rangeW 97 102]]))))
      clear HS H8
      generalize w'.setRow b8 (bc (mem (orL [rangeW 48 57, orL [rangeW 65 70, rangeW 97 102]]))) = X at *
      rw [BB, show bc (mem (orL [rangeW 48 57, orL [rangeW 65 70, rangeW 97 102]])) = bc (mem (orL [rangeW 48 57, rangeW 65 70, rangeW 97 102])) from by rw [show orL [rangeW 48 57, orL [rangeW 65 70, rangeW 97 102]] = orL [rangeW 48 57, rangeW 65 70, rangeW 97 102] from by decide +kernel]] at HF
      have HP := Lib.hid (BB.row HG.out.1 (mem (orL [rangeW 48 57, rangeW 65 70, rangeW 97 102])))
      have HBX := Lib.hid (below_setRow HG.out.2.2.2.2.2 (Nat.le_refl _) (bc (mem (orL [rangeW 48 57, rangeW 65 70, rangeW 97 102]))))
      rw [show Fz 36 = Code.region 36 from rfl]
      refine wp_region_list ?_
      refine wpList_load_row rfl 29 (.tmp 8) rfl b8 rfl _ (bc (mem (orL [rangeW 48 57, rangeW 65 70, rangeW 97 102]))) (0, 0) (.array 256 4) HF.out Tryd.underlying29 rfl (by rw [bc_size]; exact size_at) ?_
      simp only [Act.put, List.setIfInBounds_toArray, List.set_cons_zero, List.set_cons_succ]
      refine wpList_store_row rfl 29 (.tmp 2) (.tmp 82) rfl w.heap.size (bc (mem (orL [rangeW 48 57, rangeW 65 70, rangeW 97 102]))) rfl rfl _ (bc FF) HG.out.1 (by rw [bc_size]; exact size_at) (by rw [bc_size, bc_size]) (bc_one _) ?_
      simp only [Act.put, List.setIfInBounds_toArray, List.set_cons_zero, List.set_cons_succ]
      go_wp2
      refine bodyPost_ret (v := .tuple #[BV (mem (orL [rangeW 48 57, rangeW 65 70, rangeW 97 102])), .bool true]) ?_ ?_ ?_
      · exact answer2 rfl rfl rfl HP.out
      · rfl
      · exact ⟨rfl, HBX.out⟩
    · go_wp2_with (first
         | (go_at_call 19; refine (refOf_any [9, 32] _ (by decide)).mono ?_; rintro e w' ⟨rfl, hbl⟩; replace H8 := Lib.hid (bb_below H8.out hbl); replace HS := Lib.hid (Rs.below HS.out hbl); have hsc := fun f => row_store (P := Tryd.prog) H8.out (c' := bc f) (by rw [bc_size, bc_size]) (bc_one f); have hn := fun f => bc_size f))
      have HF := Lib.hid (BB.row H8.out (mem (ofL [9, 32])))
      have HG := Lib.hid (Rs.row HS.out l2 l4 l5 l6 l7 (bc (mem (ofL [9, 32]))))
      clear HS H8
      generalize w'.setRow b8 (bc (mem (ofL [9, 32]))) = X at *
      rw [BB, show bc (mem (ofL [9, 32])) = bc (mem (ofL [32, 9])) from by rw [show ofL [9, 32] = ofL [32, 9] from by decide +kernel]] at HF
      have HP := Lib.hid (BB.row HG.out.1 (mem (ofL [32, 9])))
      have HBX := Lib.hid (below_setRow HG.out.2.2.2.2.2 (Nat.le_refl _) (bc (mem (ofL [32, 9]))))
      rw [show Fz 36 = Code.region 36 from rfl]
      refine wp_region_list ?_
      refine wpList_load_row rfl 29 (.tmp 8) rfl b8 rfl _ (bc (mem (ofL [32, 9]))) (0, 0) (.array 256 4) HF.out Tryd.underlying29 rfl (by rw [bc_size]; exact size_at) ?_
      simp only [Act.put, List.setIfInBounds_toArray, List.set_cons_zero, List.set_cons_succ]
      refine wpList_store_row rfl 29 (.tmp 2) (.tmp 82) rfl w.heap.size (bc (mem (ofL [32, 9]))) rfl rfl _ (bc FF) HG.out.1 (by rw [bc_size]; exact size_at) (by rw [bc_size, bc_size]) (bc_one _) ?_
      simp only [Act.put, List.setIfInBounds_toArray, List.set_cons_zero, List.set_cons_succ]
      go_wp2
      refine bodyPost_ret (v := .tuple #[BV (mem (ofL [32, 9])), .bool true]) ?_ ?_ ?_
      · exact answer2 rfl rfl rfl HP.out
      · rfl
      · exact ⟨rfl, HBX.out⟩
    · go_wp2_with (first
         | (go_at_call 22; refine (refRange_lit _ _ _ (by omega) (by omega)).mono ?_; rintro e w' ⟨he, hbl⟩; simp only [Int.reduceToNat] at he; subst he; replace H8 := Lib.hid (bb_below H8.out hbl); replace HS := Lib.hid (Rs.below HS.out hbl); have hsc := fun f => row_store (P := Tryd.prog) H8.out (c' := bc f) (by rw [bc_size, bc_size]) (bc_one f); have hn := fun f => bc_size f)
         | (go_at_call 19; refine (refOf_any [32] _ (by decide)).mono ?_; rintro e w' ⟨rfl, hbl⟩; replace H8 := Lib.hid (bb_below H8.out hbl); replace HS := Lib.hid (Rs.below HS.out hbl); have hsc := fun f => row_store (P := Tryd.prog) H8.out (c' := bc f) (by rw [bc_size, bc_size]) (bc_one f); have hn := fun f => bc_size f)
         | (go_at_call 23; refine (refOr_set (rangeW 9 13) (ofL [32]) _ (wf_rangeW (by decide) (by decide)) (wf_ofL _)).mono ?_; rintro e w' ⟨rfl, hbl⟩; replace H8 := Lib.hid (bb_below H8.out hbl); replace HS := Lib.hid (Rs.below HS.out hbl); have hsc := fun f => row_store (P := Tryd.prog) H8.out (c' := bc f) (by rw [bc_size, bc_size]) (bc_one f); have hn := fun f => bc_size f))
      have HF := Lib.hid (BB.row H8.out (mem (orL [rangeW 9 13, ofL [32]])))
      have HG := Lib.hid (Rs.row HS.out l2 l4 l5 l6 l7 (bc (mem (orL [rangeW 9 13, ofL [32]]))))
      clear HS H8
      generalize w'.setRow b8 (bc (mem (orL [rangeW 9 13, ofL [32]]))) = X at *
      rw [BB, show bc (mem (orL [rangeW 9 13, ofL [32]])) = bc (mem (ofL [32, 9, 10, 11, 12, 13])) from by rw [show orL [rangeW 9 13, ofL [32]] = ofL [32, 9, 10, 11, 12, 13] from by decide +kernel]] at HF
      have HP := Lib.hid (BB.row HG.out.1 (mem (ofL [32, 9, 10, 11, 12, 13])))
      have HBX := Lib.hid (below_setRow HG.out.2.2.2.2.2 (Nat.le_refl _) (bc (mem (ofL [32, 9, 10, 11, 12, 13]))))
      rw [show Fz 36 = Code.region 36 from rfl]
      refine wp_region_list ?_
      refine wpList_load_row rfl 29 (.tmp 8) rfl b8 rfl _ (bc (mem (ofL [32, 9, 10, 11, 12, 13]))) (0, 0) (.array 256 4) HF.out Tryd.underlying29 rfl (by rw [bc_size]; exact size_at) ?_
      simp only [Act.put, List.setIfInBounds_toArray, List.set_cons_zero, List.set_cons_succ]
      refine wpList_store_row rfl 29 (.tmp 2) (.tmp 82) rfl w.heap.size (bc (mem (ofL [32, 9, 10, 11, 12, 13]))) rfl rfl _ (bc FF) HG.out.1 (by rw [bc_size]; exact size_at) (by rw [bc_size, bc_size]) (bc_one _) ?_
      simp only [Act.put, List.setIfInBounds_toArray, List.set_cons_zero, List.set_cons_succ]
      go_wp2
      refine bodyPost_ret (v := .tuple #[BV (mem (ofL [32, 9, 10, 11, 12, 13])), .bool true]) ?_ ?_ ?_
      · exact answer2 rfl rfl rfl HP.out
      · rfl
      · exact ⟨rfl, HBX.out⟩
    · go_wp2_with (first
         | (go_at_call 22; refine (refRange_lit _ _ _ (by omega) (by omega)).mono ?_; rintro e w' ⟨he, hbl⟩; simp only [Int.reduceToNat] at he; subst he; replace H8 := Lib.hid (bb_below H8.out hbl); replace HS := Lib.hid (Rs.below HS.out hbl); have hsc := fun f => row_store (P := Tryd.prog) H8.out (c' := bc f) (by rw [bc_size, bc_size]) (bc_one f); have hn := fun f => bc_size f)
         | (go_at_call 23; refine (refOr_set (rangeW 0 31) (rangeW 127 127) _ (wf_rangeW (by decide) (by decide)) (wf_rangeW (by decide) (by decide))).mono ?_; rintro e w' ⟨rfl, hbl⟩; replace H8 := Lib.hid (bb_below H8.out hbl); replace HS := Lib.hid (Rs.below HS.out hbl); have hsc := fun f => row_store (P := Tryd.prog) H8.out (c' := bc f) (by rw [bc_size, bc_size]) (bc_one f); have hn := fun f => bc_size f))
      have HF := Lib.hid (BB.row H8.out (mem (orL [rangeW 0 31, rangeW 127 127])))
      have HG := Lib.hid (Rs.row HS.out l2 l4 l5 l6 l7 (bc (mem (orL [rangeW 0 31, rangeW 127 127]))))
      clear HS H8
      generalize w'.setRow b8 (bc (mem (orL [rangeW 0 31, rangeW 127 127]))) = X at *
      rw [BB, show bc (mem (orL [rangeW 0 31, rangeW 127 127])) = bc (mem (orL [rangeW 0 31, ofL [127]])) from by rw [show orL [rangeW 0 31, rangeW 127 127] = orL [rangeW 0 31, ofL [127]] from by decide +kernel]] at HF
      have HP := Lib.hid (BB.row HG.out.1 (mem (orL [rangeW 0 31, ofL [127]])))
      have HBX := Lib.hid (below_setRow HG.out.2.2.2.2.2 (Nat.le_refl _) (bc (mem (orL [rangeW 0 31, ofL [127]]))))
      rw [show Fz 36 = Code.region 36 from rfl]
      refine wp_region_list ?_
      refine wpList_load_row rfl 29 (.tmp 8) rfl b8 rfl _ (bc (mem (orL [rangeW 0 31, ofL [127]]))) (0, 0) (.array 256 4) HF.out Tryd.underlying29 rfl (by rw [bc_size]; exact size_at) ?_
      simp only [Act.put, List.setIfInBounds_toArray, List.set_cons_zero, List.set_cons_succ]
      refine wpList_store_row rfl 29 (.tmp 2) (.tmp 82) rfl w.heap.size (bc (mem (orL [rangeW 0 31, ofL [127]]))) rfl rfl _ (bc FF) HG.out.1 (by rw [bc_size]; exact size_at) (by rw [bc_size, bc_size]) (bc_one _) ?_
      simp only [Act.put, List.setIfInBounds_toArray, List.set_cons_zero, List.set_cons_succ]
      go_wp2
      refine bodyPost_ret (v := .tuple #[BV (mem (orL [rangeW 0 31, ofL [127]])), .bool true]) ?_ ?_ ?_
      · exact answer2 rfl rfl rfl HP.out
      · rfl
      · exact ⟨rfl, HBX.out⟩
    · go_wp2_with (first
         | (go_at_call 22; refine (refRange_lit _ _ _ (by omega) (by omega)).mono ?_; rintro e w' ⟨he, hbl⟩; simp only [Int.reduceToNat] at he; subst he; replace H8 := Lib.hid (bb_below H8.out hbl); replace HS := Lib.hid (Rs.below HS.out hbl); have hsc := fun f => row_store (P := Tryd.prog) H8.out (c' := bc f) (by rw [bc_size, bc_size]) (bc_one f); have hn := fun f => bc_size f))
      have HF := Lib.hid (BB.row H8.out (mem (rangeW 33 126)))
      have HG := Lib.hid (Rs.row HS.out l2 l4 l5 l6 l7 (bc (mem (rangeW 33 126))))
      clear HS H8
      generalize w'.setRow b8 (bc (mem (rangeW 33 126))) = X at *
      have HP := Lib.hid (BB.row HG.out.1 (mem (rangeW 33 126)))
      have HBX := Lib.hid (below_setRow HG.out.2.2.2.2.2 (Nat.le_refl _) (bc (mem (rangeW 33 126))))
      rw [show Fz 36 = Code.region 36 from rfl]
      refine wp_region_list ?_
      refine wpList_load_row rfl 29 (.tmp 8) rfl b8 rfl _ (bc (mem (rangeW 33 126))) (0, 0) (.array 256 4) HF.out Tryd.underlying29 rfl (by rw [bc_size]; exact size_at) ?_
      simp only [Act.put, List.setIfInBounds_toArray, List.set_cons_zero, List.set_cons_succ]
      refine wpList_store_row rfl 29 (.tmp 2) (.tmp 82) rfl w.heap.size (bc (mem (rangeW 33 126))) rfl rfl _ (bc FF) HG.out.1 (by rw [bc_size]; exact size_at) (by rw [bc_size, bc_size]) (bc_one _) ?_
      simp only [Act.put, List.setIfInBounds_toArray, List.set_cons_zero, List.set_cons_succ]
      go_wp2
      refine bodyPost_ret (v := .tuple #[BV (mem (rangeW 33 126)), .bool true]) ?_ ?_ ?_
      · exact answer2 rfl rfl rfl HP.out
      · rfl
      · exact ⟨rfl, HBX.out⟩
    · go_wp2_with (first
         | (go_at_call 22; refine (refRange_lit _ _ _ (by omega) (by omega)).mono ?_; rintro e w' ⟨he, hbl⟩; simp only [Int.reduceToNat] at he; subst he; replace H8 := Lib.hid (bb_below H8.out hbl); replace HS := Lib.hid (Rs.below HS.out hbl); have hsc := fun f => row_store (P := Tryd.prog) H8.out (c' := bc f) (by rw [bc_size, bc_size]) (bc_one f); have hn := fun f => bc_size f))
      have HF := Lib.hid (BB.row H8.out (mem (rangeW 32 126)))
      have HG := Lib.hid (Rs.row HS.out l2 l4 l5 l6 l7 (bc (mem (rangeW 32 126))))
      clear HS H8
      generalize w'.setRow b8 (bc (mem (rangeW 32 126))) = X at *
      have HP := Lib.hid (BB.row HG.out.1 (mem (rangeW 32 126)))
      have HBX := Lib.hid (below_setRow HG.out.2.2.2.2.2 (Nat.le_refl _) (bc (mem (rangeW 32 126))))
      rw [show Fz 36 = Code.region 36 from rfl]
      refine wp_region_list ?_
      refine wpList_load_row rfl 29 (.tmp 8) rfl b8 rfl _ (bc (mem (rangeW 32 126))) (0, 0) (.array 256 4) HF.out Tryd.underlying29 rfl (by rw [bc_size]; exact size_at) ?_
      simp only [Act.put, List.setIfInBounds_toArray, List.set_cons_zero, List.set_cons_succ]
      refine wpList_store_row rfl 29 (.tmp 2) (.tmp 82) rfl w.heap.size (bc (mem (rangeW 32 126))) rfl rfl _ (bc FF) HG.out.1 (by rw [bc_size]; exact size_at) (by rw [bc_size, bc_size]) (bc_one _) ?_
      simp only [Act.put, List.setIfInBounds_toArray, List.set_cons_zero, List.set_cons_succ]
      go_wp2
      refine bodyPost_ret (v := .tuple #[BV (mem (rangeW 32 126)), .bool true]) ?_ ?_ ?_
      · exact answer2 rfl rfl rfl HP.out
      · rfl
      · exact ⟨rfl, HBX.out⟩
    · go_wp2_with (first
         | (go_at_call 22; refine (refRange_lit _ _ _ (by omega) (by omega)).mono ?_; rintro e w' ⟨he, hbl⟩; simp only [Int.reduceToNat] at he; subst he; replace H8 := Lib.hid (bb_below H8.out hbl); replace HS := Lib.hid (Rs.below HS.out hbl); have hsc := fun f => row_store (P := Tryd.prog) H8.out (c' := bc f) (by rw [bc_size, bc_size]) (bc_one f); have hn := fun f => bc_size f))
      have H9 := Lib.hid (BB.row H8.out (mem (rangeW 33 126)))
      have HG0 := Lib.hid (Rs.row HS.out l2 l4 l5 l6 l7 (bc (mem (rangeW 33 126))))
      clear HS H8 hsc hn
      generalize w'.setRow b8 (bc (mem (rangeW 33 126))) = X0 at *
      go_loopw [9] (fun i wr => ∃ k : Nat, k ≤ 256 ∧ i = .int .i64 k ∧ BB wr b8 (pnB k) ∧ Rs b4 b5 b6 n w wr) (fun i _ => 256 - (intOf i).toNat)
      case atStart => exact ⟨0, Nat.zero_le _, rfl, by rw [show pnB 0 = mem (rangeW 33 126) from by funext i; simp [pnB]]; exact H9.out, HG0.out⟩
      case round =>
        obtain ⟨k, hk, rfl, hO, hR⟩ := hrel
        by_cases hlt : k < 256
        · have c1 := hO.cell hlt
          have e1 : pnB k k = mem (rangeW 33 126) k := by simp [pnB]
          rw [e1] at c1
          have f1 := Lib.frozen_of_heap hO k
          have c2 := BB.cell hR.2.2.2.2.1 hlt
          have HP := Lib.hid (show ∀ v, v = (mem (rangeW 33 126) k && !mem (orL [orL [rangeW 65 90, rangeW 97 122], rangeW 48 57]) k) → ∀ i, i < 256 → pnB (k + 1) i = if i = k then v else pnB k i from fun v hv i hi => by
           unfold pnB
           by_cases he : i = k
           · subst he; simp [hv]
           · rw [if_neg he]
             by_cases h2 : i < k
             · rw [if_pos h2, if_pos (by omega)]
             · rw [if_neg h2, if_neg (by omega)])
          have HO3 := Lib.hid hO
          have HR3 := Lib.hid hR
          clear hO hR e1 hz
          cases hf : mem (rangeW 33 126) k
          all_goals
           rw [hf] at c1
           have HF := Lib.hid hf
           clear hf
           go_wp2
           go_roundw
          all_goals first | (simp [intOf]; omega) | skip
          all_goals
           refine ⟨k + 1, by omega, by go_num, ?_, ?_⟩
           · exact BB.put HO3.out (HP.out _ (by simp [HF.out]))
           · exact Rs.cell HR3.out l2 l4 l5 l6 l7 _ _
        · obtain rfl : k = 256 := by omega
          have H8 := Lib.hid hO
          have HS := Lib.hid hR
          clear hO hR H9 HG0
          go_wp2
          have HF := H8
          have HG := HS
          rw [BB, show bc (pnB 256) = bc (mem (orL [rangeW 33 47, rangeW 58 64, rangeW 91 96, rangeW 123 126])) from bc_congr fun i hi => by rw [pnB, if_pos hi]; exact beq_iff_eq.1 (List.all_eq_true.1 pn_all i (List.mem_range.2 hi))] at HF
          have HP := Lib.hid (BB.row HG.out.1 (mem (orL [rangeW 33 47, rangeW 58 64, rangeW 91 96, rangeW 123 126])))
          have HBX := Lib.hid (below_setRow HG.out.2.2.2.2.2 (Nat.le_refl _) (bc (mem (orL [rangeW 33 47, rangeW 58 64, rangeW 91 96, rangeW 123 126]))))
          rw [show Fz 36 = Code.region 36 from rfl]
          refine wp_region_list ?_
          refine wpList_load_row rfl 29 (.tmp 8) rfl b8 rfl _ (bc (mem (orL [rangeW 33 47, rangeW 58 64, rangeW 91 96, rangeW 123 126]))) (0, 0) (.array 256 4) HF.out Tryd.underlying29 rfl (by rw [bc_size]; exact size_at) ?_
          simp only [Act.put, List.setIfInBounds_toArray, List.set_cons_zero, List.set_cons_succ]
          refine wpList_store_row rfl 29 (.tmp 2) (.tmp 82) rfl w.heap.size (bc (mem (orL [rangeW 33 47, rangeW 58 64, rangeW 91 96, rangeW 123 126]))) rfl rfl _ (bc FF) HG.out.1 (by rw [bc_size]; exact size_at) (by rw [bc_size, bc_size]) (bc_one _) ?_
          simp only [Act.put, List.setIfInBounds_toArray, List.set_cons_zero, List.set_cons_succ]
          go_wp2
          refine bodyPost_ret (v := .tuple #[BV (mem (orL [rangeW 33 47, rangeW 58 64, rangeW 91 96, rangeW 123 126])), .bool true]) ?_ ?_ ?_
          · exact answer2 rfl rfl rfl HP.out
          · rfl
          · exact ⟨rfl, HBX.out⟩
    · have n0 := hnn.1
      have n1 := hnn.2.1
      have n2 := hnn.2.2.1
      have n3 := hnn.2.2.2.1
      have n4 := hnn.2.2.2.2.1
      have n5 := hnn.2.2.2.2.2.1
      have n6 := hnn.2.2.2.2.2.2.1
      have n7 := hnn.2.2.2.2.2.2.2.1
      have n8 := hnn.2.2.2.2.2.2.2.2.1
      have n9 := hnn.2.2.2.2.2.2.2.2.2.1
      have n10 := hnn.2.2.2.2.2.2.2.2.2.2.1
      have n11 := hnn.2.2.2.2.2.2.2.2.2.2.2
      clear hnn
      have hsc := row_store (P := Tryd.prog) HS.out.1 (c' := bc FF) rfl (bc_one FF)
      have hn := bc_size FF
      have HP := Lib.hid (BB.row HS.out.1 FF)
      have HBX := Lib.hid (below_setRow HS.out.2.2.2.2.2 (Nat.le_refl _) (bc FF))
      go_wp2
      refine bodyPost_ret (v := .tuple #[BV FF, .bool false]) ?_ ?_ ?_
      · exact answer2 rfl rfl rfl HP.out
      · rfl
      · exact ⟨by rw [BV_congr (f := FF) (g := mem zeroW) (fun i _ => (mem_zero i).symm)], HBX.out⟩
  clear HK
  refine wp_region_noPanic ?_
  refine wp_region_held_drew (S := Rg b4 b5 b6 W3) (by kernel_rfl) ?_ (fun hHeld => ?_)
  · exact Rg.drew ⟨H4.out, H5.out, H6.out, Below.refl _ _⟩
  generalize W3.drew = v0 at *
  refine wpAnyH_take (i := 0) (oi := ?o0q) (v := BV (mem (rangeW 65 90))) ?hi0q (by kernel_rfl) (by kernel_rfl) (by kernel_rfl) (fun _ _ _ h => h) ?hy0q (by assumption) ?r0q
  case hi0q => simp only [List.getElem?_toArray, List.getElem?_cons_succ, List.getElem?_cons_zero]; rfl
  case hy0q => exact Or.inl ⟨by rfl, fun w hSw => yl (.tmp 4) rfl rfl hSw.1⟩
  try simp only [Act.put, List.setIfInBounds_toArray, List.set_cons_zero, List.set_cons_succ]
  refine wpAnyH_take (i := 1) (oi := ?o1q) (v := BV (mem (rangeW 97 122))) ?hi1q (by kernel_rfl) (by kernel_rfl) (by kernel_rfl) (fun _ _ _ h => h) ?hy1q (by assumption) ?r1q
  case hi1q => simp only [List.getElem?_toArray, List.getElem?_cons_succ, List.getElem?_cons_zero]; rfl
  case hy1q => exact Or.inl ⟨by rfl, fun w hSw => yl (.tmp 5) rfl rfl hSw.2.1⟩
  try simp only [Act.put, List.setIfInBounds_toArray, List.set_cons_zero, List.set_cons_succ]
  refine wpAnyH_take (i := 3) (oi := ?o3q) (v := BV (mem (rangeW 48 57))) ?hi3q (by kernel_rfl) (by kernel_rfl) (by kernel_rfl) (fun _ _ _ h => h) ?hy3q (by assumption) ?r3q
  case hi3q => simp only [List.getElem?_toArray, List.getElem?_cons_succ, List.getElem?_cons_zero]; rfl
  case hy3q => exact Or.inl ⟨by rfl, fun w hSw => yl (.tmp 6) rfl rfl hSw.2.2.1⟩
  try simp only [Act.put, List.setIfInBounds_toArray, List.set_cons_zero, List.set_cons_succ]
  refine wpAnyH_ready (rs := [2, 5]) (by kernel_rfl) (by simp) ?_
  refine AllReadyH.cons (o := ?o2_1) ?hi2_1 (fun K hK => ?st2_1) (AllReadyH.cons (o := ?o5_1) ?hi5_1 (fun K hK => ?st5_1) AllReadyH.nil)
  case hi2_1 => simp only [List.getElem?_toArray, List.getElem?_cons_succ, List.getElem?_cons_zero]; rfl
  case hi5_1 => simp only [List.getElem?_toArray, List.getElem?_cons_succ, List.getElem?_cons_zero]; rfl
  case st2_1 =>
    go_simp
    (go_at_call 23; refine (refOr_set (rangeW 65 90) (rangeW 97 122) _ (wf_rangeW (by decide) (by decide)) (wf_rangeW (by decide) (by decide))).mono ?_; rintro e v2 ⟨rfl, hbl⟩)
    have hPrev := hHeld
    refine hK.out _ _ ?_ (fun hHeld => ?_)
    · (try dsimp only); (first | assumption | exact Rg.alloc hHeld _ | exact Rg.below hHeld hbl)
    clear hK K
    try simp only [Act.put, List.setIfInBounds_toArray, List.set_cons_zero, List.set_cons_succ]
    clear hPrev
    refine wpAnyH_ready (rs := [4, 5]) (by kernel_rfl) (by simp) ?_
    refine AllReadyH.cons (o := ?o4_3) ?hi4_3 (fun K hK => ?st4_3) (AllReadyH.cons (o := ?o5_3) ?hi5_3 (fun K hK => ?st5_3) AllReadyH.nil)
    case hi4_3 => simp only [List.getElem?_toArray, List.getElem?_cons_succ, List.getElem?_cons_zero]; rfl
    case hi5_3 => simp only [List.getElem?_toArray, List.getElem?_cons_succ, List.getElem?_cons_zero]; rfl
    case st4_3 =>
      go_simp
      (go_at_call 23; refine (refOr_set (orL [rangeW 65 90, rangeW 97 122]) (rangeW 48 57) _ (wf_orL (wf_all (by simp [wf_rangeW]))) (wf_rangeW (by decide) (by decide))).mono ?_; rintro e v4 ⟨rfl, hbl⟩)
      have hPrev := hHeld
      refine hK.out _ _ ?_ (fun hHeld => ?_)
      · (try dsimp only); (first | assumption | exact Rg.alloc hHeld _ | exact Rg.below hHeld hbl)
      clear hK K
      try simp only [Act.put, List.setIfInBounds_toArray, List.set_cons_zero, List.set_cons_succ]
      clear hPrev
      refine wpAnyH_ready (rs := [5]) (by kernel_rfl) (by simp) ?_
      refine AllReadyH.cons (o := ?o5_5) ?hi5_5 (fun K hK => ?st5_5) AllReadyH.nil
      case hi5_5 => simp only [List.getElem?_toArray, List.getElem?_cons_succ, List.getElem?_cons_zero]; rfl
      case st5_5 =>
        go_simp
        have hPrev := hHeld
        refine hK.out _ _ ?_ (fun hHeld => ?_)
        · (try dsimp only); (first | assumption | exact Rg.alloc hHeld _ | exact Rg.below hHeld hbl)
        clear hK K
        try simp only [Act.put, List.setIfInBounds_toArray, List.set_cons_zero, List.set_cons_succ]
        have HZ := Lib.hid (And.intro (rg_of (f := FF) hHeld) hPrev.2.2.2.size)
        clear hPrev
        generalize v4.alloc (Obj.cells (bc fun x => false) 29) = v6 at *
        have hsc := row_store (P := Tryd.prog) HZ.out.1 (by rw [bc_size, bc_size]) (bc_one (mem (orL [orL [rangeW 65 90, rangeW 97 122], rangeW 48 57])))
        have hn := bc_size (mem (orL [orL [rangeW 65 90, rangeW 97 122], rangeW 48 57]))
        refine wpAnyH_ready (rs := [6]) (by kernel_rfl) (by simp) ?_
        refine AllReadyH.cons (o := ?oz7) ?hiz7 (fun K hK => ?stz7) AllReadyH.nil
        case hiz7 => simp only [List.getElem?_toArray, List.getElem?_cons_succ, List.getElem?_cons_zero]; rfl
        go_simp
        refine hK.out _ _ ?_ (fun hHeld => ?_)
        · (try dsimp only); exact Rg.row hHeld h4 h5 h6 HZ.out.2 _
        clear hK K
        try simp only [Act.put, List.setIfInBounds_toArray, List.set_cons_zero, List.set_cons_succ]
        refine wpAnyH_done (by kernel_rfl) ?_ _
        refine NoPanic.normal ?_
        exact HREST _ _ _ _ _ _ _ (BB.row HZ.out.1 _) hHeld
    case st5_3 =>
      go_simp
      have hPrev := hHeld
      refine hK.out _ _ ?_ (fun hHeld => ?_)
      · (try dsimp only); (first | assumption | exact Rg.alloc hHeld _ | exact Rg.below hHeld hbl)
      clear hK K
      try simp only [Act.put, List.setIfInBounds_toArray, List.set_cons_zero, List.set_cons_succ]
      have HZ := Lib.hid (And.intro (rg_of (f := FF) hHeld) hPrev.2.2.2.size)
      clear hPrev
      generalize v2.alloc (Obj.cells (bc fun x => false) 29) = v8 at *
      refine wpAnyH_ready (rs := [4]) (by kernel_rfl) (by simp) ?_
      refine AllReadyH.cons (o := ?o4_9) ?hi4_9 (fun K hK => ?st4_9) AllReadyH.nil
      case hi4_9 => simp only [List.getElem?_toArray, List.getElem?_cons_succ, List.getElem?_cons_zero]; rfl
      case st4_9 =>
        go_simp
        (go_at_call 23; refine (refOr_set (orL [rangeW 65 90, rangeW 97 122]) (rangeW 48 57) _ (wf_orL (wf_all (by simp [wf_rangeW]))) (wf_rangeW (by decide) (by decide))).mono ?_; rintro e v10 ⟨rfl, hbl⟩)
        have hPrev := hHeld
        refine hK.out _ _ ?_ (fun hHeld => ?_)
        · (try dsimp only); (first | assumption | exact Rg.alloc hHeld _ | exact Rg.below hHeld hbl)
        clear hK K
        try simp only [Act.put, List.setIfInBounds_toArray, List.set_cons_zero, List.set_cons_succ]
        have HZ := Lib.hid (And.intro (bb_below HZ.out.1 hbl) HZ.out.2)
        clear hPrev
        have hsc := row_store (P := Tryd.prog) HZ.out.1 (by rw [bc_size, bc_size]) (bc_one (mem (orL [orL [rangeW 65 90, rangeW 97 122], rangeW 48 57])))
        have hn := bc_size (mem (orL [orL [rangeW 65 90, rangeW 97 122], rangeW 48 57]))
        refine wpAnyH_ready (rs := [6]) (by kernel_rfl) (by simp) ?_
        refine AllReadyH.cons (o := ?oz11) ?hiz11 (fun K hK => ?stz11) AllReadyH.nil
        case hiz11 => simp only [List.getElem?_toArray, List.getElem?_cons_succ, List.getElem?_cons_zero]; rfl
        go_simp
        refine hK.out _ _ ?_ (fun hHeld => ?_)
        · (try dsimp only); exact Rg.row hHeld h4 h5 h6 HZ.out.2 _
        clear hK K
        try simp only [Act.put, List.setIfInBounds_toArray, List.set_cons_zero, List.set_cons_succ]
        refine wpAnyH_done (by kernel_rfl) ?_ _
        refine NoPanic.normal ?_
        exact HREST _ _ _ _ _ _ _ (BB.row HZ.out.1 _) hHeld
  case st5_1 =>
    go_simp
    have hPrev := hHeld
    refine hK.out _ _ ?_ (fun hHeld => ?_)
    · (try dsimp only); (first | assumption | exact Rg.alloc hHeld _ | exact Rg.below hHeld hbl)
    clear hK K
    try simp only [Act.put, List.setIfInBounds_toArray, List.set_cons_zero, List.set_cons_succ]
    have HZ := Lib.hid (And.intro (rg_of (f := FF) hHeld) hPrev.2.2.2.size)
    clear hPrev
    generalize v0.alloc (Obj.cells (bc fun x => false) 29) = v12 at *
    refine wpAnyH_ready (rs := [2]) (by kernel_rfl) (by simp) ?_
    refine AllReadyH.cons (o := ?o2_13) ?hi2_13 (fun K hK => ?st2_13) AllReadyH.nil
    case hi2_13 => simp only [List.getElem?_toArray, List.getElem?_cons_succ, List.getElem?_cons_zero]; rfl
    case st2_13 =>
      go_simp
      (go_at_call 23; refine (refOr_set (rangeW 65 90) (rangeW 97 122) _ (wf_rangeW (by decide) (by decide)) (wf_rangeW (by decide) (by decide))).mono ?_; rintro e v14 ⟨rfl, hbl⟩)
      have hPrev := hHeld
      refine hK.out _ _ ?_ (fun hHeld => ?_)
      · (try dsimp only); (first | assumption | exact Rg.alloc hHeld _ | exact Rg.below hHeld hbl)
      clear hK K
      try simp only [Act.put, List.setIfInBounds_toArray, List.set_cons_zero, List.set_cons_succ]
      have HZ := Lib.hid (And.intro (bb_below HZ.out.1 hbl) HZ.out.2)
      clear hPrev
      refine wpAnyH_ready (rs := [4]) (by kernel_rfl) (by simp) ?_
      refine AllReadyH.cons (o := ?o4_15) ?hi4_15 (fun K hK => ?st4_15) AllReadyH.nil
      case hi4_15 => simp only [List.getElem?_toArray, List.getElem?_cons_succ, List.getElem?_cons_zero]; rfl
      case st4_15 =>
        go_simp
        (go_at_call 23; refine (refOr_set (orL [rangeW 65 90, rangeW 97 122]) (rangeW 48 57) _ (wf_orL (wf_all (by simp [wf_rangeW]))) (wf_rangeW (by decide) (by decide))).mono ?_; rintro e v16 ⟨rfl, hbl⟩)
        have hPrev := hHeld
        refine hK.out _ _ ?_ (fun hHeld => ?_)
        · (try dsimp only); (first | assumption | exact Rg.alloc hHeld _ | exact Rg.below hHeld hbl)
        clear hK K
        try simp only [Act.put, List.setIfInBounds_toArray, List.set_cons_zero, List.set_cons_succ]
        have HZ := Lib.hid (And.intro (bb_below HZ.out.1 hbl) HZ.out.2)
        clear hPrev
        have hsc := row_store (P := Tryd.prog) HZ.out.1 (by rw [bc_size, bc_size]) (bc_one (mem (orL [orL [rangeW 65 90, rangeW 97 122], rangeW 48 57])))
        have hn := bc_size (mem (orL [orL [rangeW 65 90, rangeW 97 122], rangeW 48 57]))
        refine wpAnyH_ready (rs := [6]) (by kernel_rfl) (by simp) ?_
        refine AllReadyH.cons (o := ?oz17) ?hiz17 (fun K hK => ?stz17) AllReadyH.nil
        case hiz17 => simp only [List.getElem?_toArray, List.getElem?_cons_succ, List.getElem?_cons_zero]; rfl
        go_simp
        refine hK.out _ _ ?_ (fun hHeld => ?_)
        · (try dsimp only); exact Rg.row hHeld h4 h5 h6 HZ.out.2 _
        clear hK K
        try simp only [Act.put, List.setIfInBounds_toArray, List.set_cons_zero, List.set_cons_succ]
        refine wpAnyH_done (by kernel_rfl) ?_ _
        refine NoPanic.normal ?_
        exact HREST _ _ _ _ _ _ _ (BB.row HZ.out.1 _) hHeld
end Go.Proofs.YtmlgbjdohijlnaaDoor.St
