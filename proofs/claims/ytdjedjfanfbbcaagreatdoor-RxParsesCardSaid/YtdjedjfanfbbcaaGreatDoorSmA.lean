/- Rows of 256 truths: laws on the memory. The reference's sets: Told. The reference's sets: Fold. The reference's sets: Words. The reference's sets: Bytes, Size. -/
import Derived.Test.YtdjedjfanfbbcaaGreatDoorSlA
import Derived.Deep.WholeRow
import Derived.Laws.CopyOwn
import Derived.Test.YtdjedjfanfbbcaaGreatDoorSlB
import Derived.OwnWalk
import Derived.Laws.OwnMore
namespace Go.Proofs.YtdjedjfanfbbcaaGreatDoor.St
open Go.RowKit
set_option linter.unusedVariables false
set_option linter.unusedSimpArgs false
def bc (f : Nat → Bool) : Array Value := (Array.range 256).map fun j => Value.bool (f j)
abbrev BV (f : Nat → Bool) : Value := .agg (bc f)
abbrev BB (w : World) (b : Nat) (f : Nat → Bool) : Prop := w.heap[b]? = some (.cells (bc f) 72 (0, 0))
theorem bc_size (f : Nat → Bool) : (bc f).size = 256 := by simp [bc]
theorem bc_at (f : Nat → Bool) {i : Nat} (hi : i < 256) : (bc f)[i]? = some (.bool (f i)) := by
  simp [bc, hi]
theorem bc_congr {f g : Nat → Bool} (h : ∀ i, i < 256 → f i = g i) : bc f = bc g := by
  apply Array.ext
  · simp [bc_size]
  · intro i h1 h2
    have hi : i < 256 := by rw [bc_size] at h1; exact h1
    have e1 := bc_at f hi
    have e2 := bc_at g hi
    rw [Array.getElem?_eq_getElem h1] at e1
    rw [Array.getElem?_eq_getElem h2] at e2
    rw [Option.some.inj e1, Option.some.inj e2, h i hi]
theorem bc_zero : Array.replicate 256 (Value.bool false) = bc (fun _ => false) := by
  apply Array.ext
  · simp [bc_size]
  · intro i h1 h2; simp [bc]
theorem bc_one (f : Nat → Bool) : (bc f).all (·.oneCell') = true := by
  rw [Array.all_eq_true_iff_forall_mem]
  intro v hv
  obtain ⟨j, _, rfl⟩ := Array.mem_map.1 hv
  rfl
theorem bc_set (f : Nat → Bool) (k : Nat) (v : Bool) : (bc f).setIfInBounds k (.bool v) = bc (fun i => if i = k then v else f i) := by
  apply Array.ext_getElem?
  intro i
  by_cases hi : i < 256
  · rw [bc_at _ hi]
    by_cases hk : k = i
    · subst hk
      rw [Array.getElem?_setIfInBounds_self_of_lt (by rw [bc_size]; exact hi)]; simp
    · rw [Array.getElem?_setIfInBounds_ne hk, bc_at f hi, if_neg (fun e => hk e.symm)]
  · rw [Array.getElem?_eq_none (by rw [Array.size_setIfInBounds, bc_size]; omega), Array.getElem?_eq_none (by rw [bc_size]; omega)]
theorem bc_put {f g : Nat → Bool} {k : Nat} {v : Bool} (h : ∀ i, i < 256 → g i = if i = k then v else f i) : (bc f).setIfInBounds k (.bool v) = bc g := by
  rw [bc_set]; exact bc_congr fun i hi => (h i hi).symm
theorem BB.cell {w : World} {b : Nat} {f : Nat → Bool} (h : BB w b f) {i : Nat} (hi : i < 256) : w.cell? ⟨b, i, none⟩ = some (.bool (f i)) := by
  rw [Lib.cell_of_heap h]; exact bc_at f hi
theorem BB.put {w : World} {b : Nat} {f g : Nat → Bool} (h : BB w b f) {k : Nat} {v : Bool} (hg : ∀ i, i < 256 → g i = if i = k then v else f i) : BB (w.setCell ⟨b, k, none⟩ (.bool v)) b g := by
  unfold BB; rw [heap_set_at h, bc_put hg]
theorem BB.drew {w : World} {b : Nat} {f : Nat → Bool} (h : BB w b f) : BB w.drew b f := h
theorem bb_new (W : World) (f : Nat → Bool) : BB (W.alloc (.cells (bc f) 72)) W.heap.size f := heap_alloc_new _ _
theorem zero_at : ∀ w, (zeroValue 72).run Tryz.prog w = .ok (.agg (bc fun _ => false)) w := by
  have := (zero_of_info (P := Tryz.prog) (t := 72) (v := .agg (Array.replicate 256 (.bool false))) (n := 256) (by kernel_rfl)).1
  rwa [bc_zero] at this
theorem row_load {P : Program} {W : World} {g : Nat} {c : Array Value} {t : TypeId} {fr : Nat × Nat} (h : W.heap[g]? = some (.cells c t fr)) {n : Nat} (hn : c.size = n) : (loadCellsFrom ⟨g, 0, none⟩ 0 n #[]).run P W = .ok c W := by
  subst hn
  have := run_loadCells_list (P := P) W ⟨g, 0, none⟩ c.toList (fun j v hv => by
    have hadd : (⟨g, 0, none⟩ : Addr).add j = ⟨g, j, none⟩ := by unfold Addr.add; split <;> simp_all
    rw [hadd, cell_of_row _ _ j c t fr h]
    simpa using hv)
  simpa [loadCells] using this
theorem row_store {P : Program} {W : World} {g : Nat} {c c' : Array Value} {t : TypeId} (h : W.heap[g]? = some (.cells c t (0, 0))) (ho : c.size = c'.size) (h1 : c'.all (·.oneCell') = true) :
    (storeCells ⟨g, 0, none⟩ c'.toList 0).run P W = .ok () (W.setRow g c') :=
  run_storeCells_from (P := P) g t c'.toList 0 c W h (by simp; omega) (fun v hv => (Array.all_eq_true_iff_forall_mem.1 h1) v (by simpa using hv))
theorem heap_row_at {w : World} {b : Nat} {c : Array Value} {t : TypeId} {f : Nat × Nat} (h : w.heap[b]? = some (.cells c t f)) (c' : Array Value) : (w.setRow b c').heap[b]? = some (.cells c' t f) := by
  simp only [World.setRow, Array.getElem?_modify, if_true, h]; rfl
theorem heap_row_other {w : World} {b b' : Nat} {o : Obj} (h : w.heap[b']? = some o) (hb : b ≠ b') (c' : Array Value) : (w.setRow b c').heap[b']? = some o := by
  simp only [World.setRow, Array.getElem?_modify, h]
  rw [if_neg hb]
theorem BB.row {w : World} {b : Nat} {f : Nat → Bool} (h : BB w b f) (g : Nat → Bool) : BB (w.setRow b (bc g)) b g := heap_row_at h _
/-- The answer in a box. -/
theorem answer {fn : Func} {p : Tmp} (h : fn.results = #[.cell p 72]) {tmps : Array Value} {w : World} {g : Nat} {f : Nat → Bool} (hp : tmps.getD p undef = .pointer (some ⟨g, 0, none⟩)) (hg : BB w g f) : (results fn tmps).run Tryz.prog w = .ok (BV f) w :=
  results_cell_row h tmps w g _ (bc f) (0, 0) (.array 256 4) hp hg Tryz.underlying72 rfl (by rw [bc_size]; kernel_rfl)
theorem size_at : (Tryz.prog.info? 72).map (·.size) = some 256 := by kernel_rfl
/-- The tail of a function that hands a row back: the row is loaded, and laid into the answer's box. -/
theorem tail_row {id : Nat} {o1 o2 : Oper} {s d k : Nat} {Q : Exit → Act → World → Prop} {a : Act} {w : World} {src dst : Nat} {f g : Nat → Bool} (g1 : o1.guard = none) (g2 : o2.guard = none)
    (h1 : o1.op = .load 72 (.tmp s)) (h2 : o2.op = .store 72 (.tmp d) (.tmp k)) (hk : o1.dst = some k) (hk2 : o2.dst = none)
    (hs : a.eval (.tmp s) = .pointer (some ⟨src, 0, none⟩)) (hd : (a.put (some k) (BV f)).eval (.tmp d) = .pointer (some ⟨dst, 0, none⟩)) (hv : (a.put (some k) (BV f)).eval (.tmp k) = BV f)
    (hS : BB w src f) (hD : BB w dst g) (h : Q .normal (a.put (some k) (BV f)) (w.setRow dst (bc f))) : (Code.region id #[o1, o2] false).wp Tryz.prog Q a w := by
  refine wp_region_list ?_
  refine wpList_load_row g1 72 (.tmp s) h1 src hs _ (bc f) (0, 0) (.array 256 4) hS Tryz.underlying72 rfl (by rw [bc_size]; exact size_at) ?_
  rw [hk]
  refine wpList_store_row g2 72 (.tmp d) (.tmp k) h2 dst (bc f) hd hv _ (bc g) hD (by rw [bc_size]; exact size_at) (by rw [bc_size, bc_size]) (bc_one f) ?_
  rw [hk2]
  exact wpList_nil h
#print axioms tail_row
end Go.Proofs.YtdjedjfanfbbcaaGreatDoor.St
namespace Go.Proofs.YtdjedjfanfbbcaaGreatDoor.St
open Go.RowKit
set_option linter.unusedVariables false
set_option linter.unusedSimpArgs false
/-- The words after k rounds: each is halved by each of its bytes. -/
def toldK (ws : List Nat) : Nat → List Nat
  | 0 => ws
  | k + 1 => (toldK ws k).set (k / 64) (word (toldK ws k) (k / 64) / 2)
theorem toldK_spec {ws : List Nat} (h : Wf ws) : ∀ k, k ≤ 256 → Wf (toldK ws k) ∧ ∀ j, j < 4 → word (toldK ws k) j = word ws j / 2 ^ (min (k - 64 * j) 64)
  | 0, _ => ⟨h, fun j _ => by rw [toldK]; simp⟩
  | k + 1, hk => by
    obtain ⟨h1, h2⟩ := toldK_spec h k (by omega)
    have hlt := word_lt h1 (k / 64)
    refine ⟨wf_set h1 _ _ (by omega), fun j hj => ?_⟩
    rw [toldK, word_set h1 _ _ _ (by omega)]
    by_cases he : j = k / 64
    · rw [if_pos he, ← he, h2 j hj, Nat.div_div_eq_div_mul, ← Nat.pow_succ]
      congr 2; omega
    · rw [if_neg he, h2 j hj]
      congr 2; omega
theorem told_bit {ws : List Nat} (h : Wf ws) {k : Nat} (hk : k < 256) : (word (toldK ws k) (k / 64) % 2 == 1) = mem ws k := by
  rw [(toldK_spec h k (by omega)).2 (k / 64) (by omega), show min (k - 64 * (k / 64)) 64 = k % 64 from by omega]
  unfold mem
  rw [Nat.testBit_eq_decide_div_mod_eq]
  rfl
def toldB (ws : List Nat) (k : Nat) : Nat → Bool := fun i => decide (i < k) && mem ws i
abbrev S4 (w : World) (b : Nat) (ws : List Nat) : Prop := w.heap[b]? = some (.cells (wc ws) 42 (0, 0))
theorem S4.cell {w : World} {b : Nat} {ws : List Nat} (h : S4 w b ws) (hw : Wf ws) {i : Nat} (hi : i < 4) : w.cell? ⟨b, i, none⟩ = some (.int .u64 (word ws i : Int)) := by
  rw [Lib.cell_of_heap h]; simp [word_get hw hi]
theorem S4.set {w : World} {b : Nat} {ws : List Nat} (h : S4 w b ws) (i v : Nat) : S4 (w.setCell ⟨b, i, none⟩ (.int .u64 (v : Int))) b (ws.set i v) := by
  unfold S4
  rw [heap_set_at h]
  simp [wc, List.map_set]
abbrev FF : Nat → Bool := fun _ => false
theorem alloc_raw {W : World} {b : Nat} {o : Obj} (h : W.heap[b]? = some o) (o' : Obj) : (W.alloc o').heap[b]? = some o := (heap_alloc_old _ _ (Array.getElem?_eq_some_iff.1 h).1).trans h
set_option maxRecDepth 100000 in
set_option maxHeartbeats 400000 in
theorem told_any (ws : List Nat) (w : World) (h : Wf ws) :
    Calls Tryz.prog 35 #[SV ws] w fun e w' => e = .returned (BV (mem ws)) ∧ Below w.heap.size w w' := by
  have hz := zero_at
  go_enter Tryz.func35, Tryz.ntmps35
  refine wp_seq_k fun K0 hK => ?_
  have HK := Lib.hid hK; clear hK
  go_wp2
  refine HK.out _ _ ?_
  clear HK K0
  have HW := Lib.hid (show S4 ((w.alloc (Obj.cells (wc ws) 42)).alloc (Obj.cells (bc fun x => false) 72)) w.heap.size ws from (two_new w _ _).1)
  have HA := Lib.hid (show BB ((w.alloc (Obj.cells (wc ws) 42)).alloc (Obj.cells (bc fun x => false) 72)) (w.heap.size + 1) FF from (two_new w _ _).2)
  have HB := Lib.hid (((Below.refl w.heap.size w).alloc (Nat.le_refl _) (Obj.cells (wc ws) 42)).alloc (alloc_le _ _) (Obj.cells (bc fun x => false) 72))
  generalize (w.alloc (Obj.cells (wc ws) 42)).alloc (Obj.cells (bc fun x => false) 72) = W0 at *
  refine wp_seq_k fun K1 hK => ?_
  have HK := Lib.hid hK; clear hK
  have hsc := run_storeCells_new (P := Tryz.prog) W0 72 (bc FF) (bc FF) (by rw [bc_size]; kernel_rfl) rfl (bc_one _)
  have hn := bc_size FF
  go_wp2
  refine HK.out _ _ ?_
  clear HK K1 hsc hn
  have HO := Lib.hid (show BB (W0.alloc (Obj.cells (bc FF) 72)) W0.heap.size (toldB ws 0) from by
    have : bc FF = bc (toldB ws 0) := bc_congr fun i _ => by simp [FF, toldB]
    rw [this]; exact bb_new _ _)
  have HA2 := Lib.hid (alloc_raw HA.out (Obj.cells (bc FF) 72))
  have HW2 := Lib.hid (alloc_raw HW.out (Obj.cells (bc FF) 72))
  have HB2 := Lib.hid (HB.out.alloc HB.out.size (Obj.cells (bc FF) 72))
  have hlt : w.heap.size + 1 < W0.heap.size := (Array.getElem?_eq_some_iff.1 HA.out).1
  clear HA HW HB
  generalize W0.alloc (Obj.cells (bc FF) 72) = W1 at *
  generalize W0.heap.size = bo at *
  refine wp_seq_k fun K2 hK => ?_
  have HK := Lib.hid hK; clear hK
  go_wp2
  go_loopw [4] (fun i wr => ∃ k : Nat, k ≤ 256 ∧ i = .int .i64 k ∧ S4 wr w.heap.size (toldK ws k) ∧ BB wr (w.heap.size + 1) FF ∧ BB wr bo (toldB ws k) ∧ Below w.heap.size w wr) (fun i _ => 256 - (intOf i).toNat)
  case atStart => exact ⟨0, Nat.zero_le _, rfl, HW2.out, HA2.out, HO.out, HB2.out⟩
  case round =>
    obtain ⟨k, hk, rfl, hS, hA, hO, hB⟩ := hrel
    by_cases hlt : k < 256
    · have hw := (toldK_spec h k (by omega)).1
      have HBIT := Lib.hid (told_bit h hlt)
      have c1 := hS.cell hw (i := k / 64) (by omega)
      have f1 := Lib.frozen_of_heap hS (k / 64)
      have c2 := hO.cell hlt
      have f2 := Lib.frozen_of_heap hO k
      have HS := Lib.hid hS
      have HA3 := Lib.hid hA
      have HO3 := Lib.hid hO
      have HB3 := Lib.hid hB
      clear hS hA hO hB hz
      go_wp2
      go_roundw
      case rel =>
        have ew : IntKind.u64.wrap ((word (toldK ws k) (k / 64) : Int) / 2) = ((word (toldK ws k) (k / 64) / 2 : Nat) : Int) := by
          have := word_lt hw (k / 64)
          rw [IntKind.wrap_u64]; omega
        have eb : ((word (toldK ws k) (k / 64) : Int) % 2 == 1) = mem ws k := by
          rw [← HBIT.out, Bool.eq_iff_iff, beq_iff_eq, beq_iff_eq]; omega
        rw [ew, eb]
        refine ⟨k + 1, by omega, by go_num, ?_, ?_, ?_, ?_⟩
        · exact S4.set (heap_set_other HS.out (by omega) _ _) _ _
        · exact heap_set_other (heap_set_other HA3.out (by omega) _ _) (by omega) _ _
        · exact heap_set_other (BB.put HO3.out (fun i hi => by
            unfold toldB
            by_cases he : i = k
            · subst he; simp
            · rw [if_neg he]
              congr 1
              rw [Bool.eq_iff_iff, decide_eq_true_eq, decide_eq_true_eq]; omega)) (by omega) _ _
        · exact (HB3.out.setCell (p := ⟨bo, k, none⟩) (by show w.heap.size ≤ bo; omega) _).setCell (p := ⟨w.heap.size, k / 64, none⟩) (Nat.le_refl _) _
      case measure => simp [intOf]; omega
    · obtain rfl : k = 256 := by omega
      have hE : toldB ws 256 = fun i => decide (i < 256) && mem ws i := rfl
      have hO' : BB wr bo (mem ws) := by
        have : bc (toldB ws 256) = bc (mem ws) := bc_congr fun i hi => by simp [toldB, hi]
        rw [BB, ← this]; exact hO
      have HO4 := Lib.hid hO'
      have HA4 := Lib.hid hA
      have HR := Lib.hid (BB.row hA (mem ws))
      have HB3 := Lib.hid (below_setRow hB (Nat.le_succ _) (bc (mem ws)))
      clear hS hA hO hB hz hE hO'
      go_wp2
      refine HK.out _ _ ?_
      clear HK
      refine wp_seq_k fun K3 hK => ?_
      refine tail_row rfl rfl rfl rfl rfl rfl rfl rfl rfl HO4.out HA4.out ?_
      refine hK _ _ ?_
      go_wp2
      refine bodyPost_ret (v := BV (mem ws)) ?_ ?_ ?_
      · exact answer rfl rfl HR.out
      · rfl
      · exact ⟨rfl, HB3.out⟩
end Go.Proofs.YtdjedjfanfbbcaaGreatDoor.St
namespace Go.Proofs.YtdjedjfanfbbcaaGreatDoor.St
open Go.RowKit
set_option linter.unusedVariables false
set_option linter.unusedSimpArgs false
def foldB (f : Nat → Bool) : Nat → Bool := fun i => if 65 ≤ i ∧ i ≤ 90 then f i || f (i + 32) else if 97 ≤ i ∧ i ≤ 122 then f (i - 32) || f i else f i
def foldKB (f : Nat → Bool) (k : Nat) : Nat → Bool := fun i => if (65 ≤ i ∧ i < 65 + k) ∨ (97 ≤ i ∧ i < 97 + k) then foldB f i else f i
theorem low_all : ((List.range 256).all fun b => !(decide (97 ≤ lowN b) && decide (lowN b ≤ 122)) || (decide (65 ≤ b) && decide (b ≤ 90) && lowN b == b + 32 && upN b == b) || (decide (97 ≤ b) && decide (b ≤ 122) && lowN b == b && upN b == b - 32)) = true := by decide +kernel
theorem low_cases (b : Nat) (hb : b < 256) (h1 : 97 ≤ lowN b) (h2 : lowN b ≤ 122) : (65 ≤ b ∧ b ≤ 90 ∧ lowN b = b + 32 ∧ upN b = b) ∨ (97 ≤ b ∧ b ≤ 122 ∧ lowN b = b ∧ upN b = b - 32) := by
  have := List.all_eq_true.1 low_all b (List.mem_range.2 hb)
  simp only [h1, h2, decide_true, Bool.and_self, Bool.not_true, Bool.false_or, Bool.or_eq_true, Bool.and_eq_true, decide_eq_true_eq, beq_iff_eq] at this
  rcases this with ⟨⟨⟨a, b⟩, c⟩, d⟩ | ⟨⟨⟨a, b⟩, c⟩, d⟩
  · exact Or.inl ⟨a, b, c, d⟩
  · exact Or.inr ⟨a, b, c, d⟩
theorem low_of : ∀ b, b < 256 → (65 ≤ b ∧ b ≤ 90) ∨ (97 ≤ b ∧ b ≤ 122) → 97 ≤ lowN b ∧ lowN b ≤ 122 := by decide +kernel
theorem adds_iff {b c : Nat} (hb : b < 256) : adds b c = true ↔ (65 ≤ b ∧ b ≤ 90 ∧ (c = b ∨ c = b + 32)) ∨ (97 ≤ b ∧ b ≤ 122 ∧ (c = b ∨ c = b - 32)) := by
  unfold adds
  rw [Bool.and_eq_true, decide_eq_true_eq, Bool.or_eq_true, beq_iff_eq, beq_iff_eq]
  constructor
  · rintro ⟨⟨h1, h2⟩, h3⟩
    rcases low_cases b hb h1 h2 with ⟨a1, a2, a3, a4⟩ | ⟨a1, a2, a3, a4⟩
    · rw [a3, a4] at h3; omega
    · rw [a3, a4] at h3; omega
  · intro h
    have hl := low_of b hb (by omega)
    refine ⟨hl, ?_⟩
    rcases low_cases b hb hl.1 hl.2 with ⟨a1, a2, a3, a4⟩ | ⟨a1, a2, a3, a4⟩
    · rw [a3, a4]; omega
    · rw [a3, a4]; omega
theorem fold_bytes {s : List Nat} (h : Wf s) {c : Nat} (hc : c < 256) : foldB (mem s) c = mem (foldW s) c := by
  rw [Bool.eq_iff_iff, mem_foldW h hc]
  unfold foldB
  constructor
  · intro hf
    split at hf
    · rename_i hr
      rcases Bool.or_eq_true _ _ ▸ hf with h1 | h1
      · exact Or.inl h1
      · exact Or.inr ⟨c + 32, by omega, h1, (adds_iff (by omega)).2 (by omega)⟩
    · split at hf
      · rename_i hr
        rcases Bool.or_eq_true _ _ ▸ hf with h1 | h1
        · exact Or.inr ⟨c - 32, by omega, h1, (adds_iff (by omega)).2 (by omega)⟩
        · exact Or.inl h1
      · exact Or.inl hf
  · rintro (h1 | ⟨b, hb, h1, h2⟩)
    · split
      · rw [h1]; rfl
      · split
        · rw [h1]; simp
        · exact h1
    · rcases (adds_iff hb).1 h2 with ⟨a1, a2, rfl | rfl⟩ | ⟨a1, a2, rfl | rfl⟩
      · rw [if_pos ⟨a1, a2⟩, h1]; rfl
      · rw [if_neg (by omega), if_pos (by omega), Nat.add_sub_cancel, h1]; rfl
      · rw [if_neg (by omega), if_pos (by omega), h1]; simp
      · rw [if_pos (by omega), show b - 32 + 32 = b from by omega, h1]; simp
set_option maxRecDepth 100000 in
set_option maxHeartbeats 400000 in
theorem refFold_any (f : Nat → Bool) (w : World) :
    Calls Tryz.prog 34 #[BV f] w fun e w' => e = .returned (BV (foldB f)) ∧ Below w.heap.size w w' := by
  have hz := zero_at
  go_enter Tryz.func34, Tryz.ntmps34
  refine wp_seq_k fun K0 hK => ?_
  have HK := Lib.hid hK; clear hK
  go_wp2
  refine HK.out _ _ ?_
  clear HK K0
  have HO := Lib.hid (show BB ((w.alloc (Obj.cells (bc f) 72)).alloc (Obj.cells (bc fun x => false) 72)) w.heap.size f from (two_new w _ _).1)
  have HA := Lib.hid (show BB ((w.alloc (Obj.cells (bc f) 72)).alloc (Obj.cells (bc fun x => false) 72)) (w.heap.size + 1) FF from (two_new w _ _).2)
  have HB := Lib.hid (show Below w.heap.size w ((w.alloc (Obj.cells (bc f) 72)).alloc (Obj.cells (bc fun x => false) 72)) from ((Below.refl w.heap.size w).alloc (Nat.le_refl _) _).alloc (alloc_le _ _) _)
  generalize (w.alloc (Obj.cells (bc f) 72)).alloc (Obj.cells (bc fun x => false) 72) = W1 at *
  clear hz
  refine wp_seq_k fun K2 hK => ?_
  have HK := Lib.hid hK; clear hK
  go_wp2
  go_loopw [3] (fun i wr => ∃ k : Nat, k ≤ 26 ∧ i = .int .i32 ((65 + k : Nat) : Int) ∧ BB wr w.heap.size (foldKB f k) ∧ BB wr (w.heap.size + 1) FF ∧ Below w.heap.size w wr) (fun i _ => 91 - (intOf i).toNat)
  case atStart => exact ⟨0, Nat.zero_le _, by go_num, by rw [show foldKB f 0 = f from by funext i; unfold foldKB; rw [if_neg (by omega)]]; exact HO.out, HA.out, HB.out⟩
  case round =>
    obtain ⟨k, hk, rfl, hO, hA, hB⟩ := hrel
    by_cases hlt : k < 26
    · have HP := Lib.hid (show ∀ v, v = (f (65 + k) || f (65 + k + 32)) → ∀ i, i < 256 → foldKB f (k + 1) i = if i = 65 + k + 32 then v else if i = 65 + k then v else foldKB f k i from fun v hv i hi => by
        unfold foldKB
        by_cases he : i = 65 + k
        · subst he
          rw [if_pos (by omega), if_neg (by omega), if_pos rfl, hv, foldB, if_pos (by omega)]
        · by_cases he2 : i = 65 + k + 32
          · subst he2
            rw [if_pos (by omega), if_pos rfl, hv, foldB, if_neg (by omega), if_pos (by omega), Nat.add_sub_cancel]
          · rw [if_neg he2, if_neg he]
            by_cases hr : (65 ≤ i ∧ i < 65 + k) ∨ (97 ≤ i ∧ i < 97 + k)
            · rw [if_pos hr, if_pos (by omega)]
            · rw [if_neg hr, if_neg (by omega)])
      have HM := Lib.hid (show 65 + k + 1 = 65 + (k + 1) from by omega)
      have e1 : foldKB f k (65 + k) = f (65 + k) := by unfold foldKB; rw [if_neg (by omega)]
      have e2 : foldKB f k (65 + k + 32) = f (65 + k + 32) := by unfold foldKB; rw [if_neg (by omega)]
      have hm1 : 65 ≤ 65 + k := by omega
      have hm2 : 65 + k ≤ 90 := by omega
      have HLT := Lib.hid hlt
      clear hlt
      generalize 65 + k = m at *
      have c1 := hO.cell (i := m) (by omega)
      have c2 := hO.cell (i := m + 32) (by omega)
      rw [e1] at c1
      rw [e2] at c2
      have f1 := Lib.frozen_of_heap hO m
      have f2 := Lib.frozen_of_heap hO (m + 32)
      have hI : (m : Int) ≤ 90 := by omega
      have hI2 : (m : Int) < 256 := by omega
      have hI3 : (m : Int) + 32 < 256 := by omega
      have ew : IntKind.i32.wrap ((m : Int) + 32) = ((m + 32 : Nat) : Int) := by rw [IntKind.wrap_i32]; omega
      have ew1 : IntKind.i32.wrap ((m : Int) + 1) = ((m + 1 : Nat) : Int) := by rw [IntKind.wrap_i32]; omega
      have HO3 := Lib.hid hO
      have HA3 := Lib.hid hA
      have HB3 := Lib.hid hB
      have HMM := Lib.hid (And.intro hm1 hm2)
      clear hA hO hB e1 e2 hm1 hm2
      cases hf : f m
      all_goals
        rw [hf] at c1
        have HF := Lib.hid hf
        clear hf
        go_wp2
        go_roundw
      all_goals first | (simp [intOf] <;> omega) | skip
      all_goals
        refine ⟨k + 1, HLT.out, by rw [← HM.out]; go_num, ?_, ?_, ?_⟩
        · have h0 := BB.put HO3.out (k := m) (v := f m || f (m + 32)) (g := fun i => if i = m then (f m || f (m + 32)) else foldKB f k i) (fun i hi => rfl)
          rw [HF.out] at h0
          have h1 := BB.put h0 (k := m + 32) (v := f m || f (m + 32)) (g := foldKB f (k + 1)) (fun i hi => by rw [HP.out _ rfl i hi, HF.out])
          rw [HF.out] at h1
          exact h1
        · exact heap_set_other (heap_set_other HA3.out (by omega) _ _) (by omega) _ _
        · exact (HB3.out.setCell (p := ⟨w.heap.size, m, none⟩) (Nat.le_refl _) _).setCell (p := ⟨w.heap.size, m + 32, none⟩) (Nat.le_refl _) _
    · obtain rfl : k = 26 := by omega
      have hO' : BB wr w.heap.size (foldB f) := by
        have : bc (foldKB f 26) = bc (foldB f) := bc_congr fun i hi => by
          unfold foldKB
          by_cases hr : (65 ≤ i ∧ i < 65 + 26) ∨ (97 ≤ i ∧ i < 97 + 26)
          · rw [if_pos hr]
          · rw [if_neg hr, foldB, if_neg (by omega), if_neg (by omega)]
        rw [BB, ← this]; exact hO
      have HR := Lib.hid (BB.row hA (foldB f))
      have HB3 := Lib.hid (below_setRow hB (show w.heap.size ≤ w.heap.size + 1 by omega) (bc (foldB f)))
      have HO4 := Lib.hid hO'
      have HA4 := Lib.hid hA
      clear hA hO hB hO'
      go_wp2
      refine HK.out _ _ ?_
      clear HK
      refine wp_seq_k fun K3 hK => ?_
      refine tail_row rfl rfl rfl rfl rfl rfl rfl rfl rfl HO4.out HA4.out ?_
      refine hK _ _ ?_
      go_wp2
      refine bodyPost_ret (v := BV (foldB f)) ?_ ?_ ?_
      · exact answer rfl rfl HR.out
      · rfl
      · exact ⟨rfl, HB3.out⟩
end Go.Proofs.YtdjedjfanfbbcaaGreatDoor.St
namespace Go.Proofs.YtdjedjfanfbbcaaGreatDoor.St
open Go.RowKit
set_option linter.unusedVariables false
set_option linter.unusedSimpArgs false
theorem wc_size {ws : List Nat} (h : Wf ws) : (wc ws).size = 4 := by simp [wc, h.len]
theorem wc_one (ws : List Nat) : (wc ws).all (·.oneCell') = true := by
  rw [Array.all_eq_true_iff_forall_mem]
  intro v hv
  simp only [wc, List.mem_toArray, List.mem_map] at hv
  obtain ⟨j, _, rfl⟩ := hv
  rfl
theorem size_at4 : (Tryz.prog.info? 42).map (·.size) = some 4 := by kernel_rfl
theorem answer4 {fn : Func} {p : Tmp} (h : fn.results = #[.cell p 42]) {tmps : Array Value} {w : World} {g : Nat} {ws : List Nat} (hw : Wf ws) (hp : tmps.getD p undef = .pointer (some ⟨g, 0, none⟩)) (hg : S4 w g ws) : (results fn tmps).run Tryz.prog w = .ok (SV ws) w :=
  results_cell_row h tmps w g _ (wc ws) (0, 0) (.array 4 41) hp hg Tryz.underlying42 rfl (by rw [wc_size hw]; exact size_at4)
theorem tail_row4 {id : Nat} {o1 o2 : Oper} {s d k : Nat} {Q : Exit → Act → World → Prop} {a : Act} {w : World} {src dst : Nat} {f g : List Nat} (hf : Wf f) (hg : Wf g) (g1 : o1.guard = none) (g2 : o2.guard = none)
    (h1 : o1.op = .load 42 (.tmp s)) (h2 : o2.op = .store 42 (.tmp d) (.tmp k)) (hk : o1.dst = some k) (hk2 : o2.dst = none)
    (hs : a.eval (.tmp s) = .pointer (some ⟨src, 0, none⟩)) (hd : (a.put (some k) (SV f)).eval (.tmp d) = .pointer (some ⟨dst, 0, none⟩)) (hv : (a.put (some k) (SV f)).eval (.tmp k) = SV f)
    (hS : S4 w src f) (hD : S4 w dst g) (h : Q .normal (a.put (some k) (SV f)) (w.setRow dst (wc f))) : (Code.region id #[o1, o2] false).wp Tryz.prog Q a w := by
  refine wp_region_list ?_
  refine wpList_load_row g1 42 (.tmp s) h1 src hs _ (wc f) (0, 0) (.array 4 41) hS Tryz.underlying42 rfl (by rw [wc_size hf]; exact size_at4) ?_
  rw [hk]
  refine wpList_store_row g2 42 (.tmp d) (.tmp k) h2 dst (wc f) hd hv _ (wc g) hD (by rw [wc_size hf]; exact size_at4) (by rw [wc_size hf, wc_size hg]) (wc_one f) ?_
  rw [hk2]
  exact wpList_nil h
theorem toldK_full {ws : List Nat} (h : Wf ws) : toldK ws 256 = zeroW := by
  obtain ⟨h1, h2⟩ := toldK_spec h 256 (Nat.le_refl _)
  apply ext_word h1 wf_zero
  intro j hj
  rw [h2 j hj, show min (256 - 64 * j) 64 = 64 from by omega, Nat.div_eq_of_lt (word_lt h j)]
  match j, hj with
  | 0, _ => rfl
  | 1, _ => rfl
  | 2, _ => rfl
  | 3, _ => rfl
/-- One bit more from behind. -/
theorem told_back {ws : List Nat} (h : Wf ws) {n : Nat} (hn : n < 256) (v : Nat) (hv : v = if mem ws n = true then word (toldK ws (n + 1)) (n / 64) * 2 + 1 else word (toldK ws (n + 1)) (n / 64) * 2) :
    (toldK ws (n + 1)).set (n / 64) v = toldK ws n := by
  obtain ⟨h1, h2⟩ := toldK_spec h n (by omega)
  obtain ⟨h3, h4⟩ := toldK_spec h (n + 1) (by omega)
  have hb := told_bit h hn
  have key : word (toldK ws n) (n / 64) = v := by
    have e : word (toldK ws (n + 1)) (n / 64) = word (toldK ws n) (n / 64) / 2 := by
      rw [toldK, word_set h1 _ _ _ (by omega), if_pos rfl]
    rw [hv, e]
    cases hm : mem ws n
    · rw [hm, beq_eq_false_iff_ne] at hb
      rw [if_neg (by simp)]; omega
    · rw [hm, beq_iff_eq] at hb
      rw [if_pos rfl]; omega
  have hlt := word_lt h1 (n / 64)
  apply ext_word (wf_set h3 _ _ (by omega)) h1
  intro j hj
  rw [word_set h3 _ _ _ (by omega)]
  by_cases he : j = n / 64
  · rw [if_pos he, he, key]
  · rw [if_neg he, h4 j hj, h2 j hj]
    congr 2; omega
theorem word_double {ws : List Nat} (h : Wf ws) {n : Nat} (hn : n < 256) : word (toldK ws (n + 1)) (n / 64) * 2 + 1 < 2 ^ 64 := by
  obtain ⟨h1, h2⟩ := toldK_spec h n (by omega)
  have e : word (toldK ws (n + 1)) (n / 64) = word (toldK ws n) (n / 64) / 2 := by
    rw [toldK, word_set h1 _ _ _ (by omega), if_pos rfl]
  have hlt := word_lt h1 (n / 64)
  omega
set_option maxRecDepth 100000 in
set_option maxHeartbeats 400000 in
theorem refWords_any (ws : List Nat) (w : World) (h : Wf ws) :
    Calls Tryz.prog 33 #[BV (mem ws)] w fun e w' => e = .returned (SV ws) ∧ Below w.heap.size w w' := by
  go_enter Tryz.func33, Tryz.ntmps33
  refine wp_seq_k fun K0 hK => ?_
  have HK := Lib.hid hK; clear hK
  go_wp2
  refine HK.out _ _ ?_
  clear HK K0
  have HO := Lib.hid (show BB ((w.alloc (Obj.cells (bc (mem ws)) 72)).alloc (Obj.cells #[Value.int IntKind.u64 0, Value.int IntKind.u64 0, Value.int IntKind.u64 0, Value.int IntKind.u64 0] 42)) w.heap.size (mem ws) from (two_new w _ _).1)
  have HA := Lib.hid (show S4 ((w.alloc (Obj.cells (bc (mem ws)) 72)).alloc (Obj.cells #[Value.int IntKind.u64 0, Value.int IntKind.u64 0, Value.int IntKind.u64 0, Value.int IntKind.u64 0] 42)) (w.heap.size + 1) zeroW from (two_new w _ _).2)
  have HB := Lib.hid (show Below w.heap.size w ((w.alloc (Obj.cells (bc (mem ws)) 72)).alloc (Obj.cells #[Value.int IntKind.u64 0, Value.int IntKind.u64 0, Value.int IntKind.u64 0, Value.int IntKind.u64 0] 42)) from ((Below.refl w.heap.size w).alloc (Nat.le_refl _) _).alloc (alloc_le _ _) _)
  generalize (w.alloc (Obj.cells (bc (mem ws)) 72)).alloc (Obj.cells #[Value.int IntKind.u64 0, Value.int IntKind.u64 0, Value.int IntKind.u64 0, Value.int IntKind.u64 0] 42) = W0 at *
  refine wp_seq_k fun K1 hK => ?_
  have HK := Lib.hid hK; clear hK
  go_wp2
  refine HK.out _ _ ?_
  clear HK K1
  have HS := Lib.hid (show S4 (W0.alloc (Obj.cells #[Value.int IntKind.u64 0, Value.int IntKind.u64 0, Value.int IntKind.u64 0, Value.int IntKind.u64 0] 42)) W0.heap.size (toldK ws 256) from by
    rw [toldK_full h]; exact heap_alloc_new _ _)
  have HO2 := Lib.hid (alloc_raw HO.out (Obj.cells #[Value.int IntKind.u64 0, Value.int IntKind.u64 0, Value.int IntKind.u64 0, Value.int IntKind.u64 0] 42))
  have HA2 := Lib.hid (alloc_raw HA.out (Obj.cells #[Value.int IntKind.u64 0, Value.int IntKind.u64 0, Value.int IntKind.u64 0, Value.int IntKind.u64 0] 42))
  have HB2 := Lib.hid (HB.out.alloc HB.out.size (Obj.cells #[Value.int IntKind.u64 0, Value.int IntKind.u64 0, Value.int IntKind.u64 0, Value.int IntKind.u64 0] 42))
  have hlt0 : w.heap.size + 1 < W0.heap.size := (Array.getElem?_eq_some_iff.1 HA.out).1
  clear HA HB HO
  generalize W0.alloc (Obj.cells #[Value.int IntKind.u64 0, Value.int IntKind.u64 0, Value.int IntKind.u64 0, Value.int IntKind.u64 0] 42) = W1 at *
  generalize W0.heap.size = bo at *
  refine wp_seq_k fun K2 hK => ?_
  have HK := Lib.hid hK; clear hK
  go_wp2
  go_loopw [4] (fun i wr => ∃ (m : Nat) (j : Int), m ≤ 256 ∧ j = (m : Int) - 1 ∧ i = .int .i64 j ∧ BB wr w.heap.size (mem ws) ∧ S4 wr (w.heap.size + 1) zeroW ∧ S4 wr bo (toldK ws m) ∧ Below w.heap.size w wr) (fun i _ => (intOf i + 1).toNat)
  case atStart => exact ⟨256, 255, Nat.le_refl _, rfl, rfl, HO2.out, HA2.out, HS.out, HB2.out⟩
  case round =>
    obtain ⟨m, j, hm, hj, rfl, hO, hA, hS, hB⟩ := hrel
    cases m with
    | zero =>
      obtain rfl : j = -1 := by simpa using hj
      clear hj hm
      have HS4 := Lib.hid (show S4 wr bo ws from hS)
      have HA4 := Lib.hid hA
      have HR := Lib.hid (show S4 (wr.setRow (w.heap.size + 1) (wc ws)) (w.heap.size + 1) ws from heap_row_at hA _)
      have HB3 := Lib.hid (below_setRow hB (Nat.le_succ _) (wc ws))
      clear hA hO hB hS
      go_wp2
      refine HK.out _ _ ?_
      clear HK
      refine wp_seq_k fun K3 hK => ?_
      refine tail_row4 h wf_zero rfl rfl rfl rfl rfl rfl rfl rfl rfl HS4.out HA4.out ?_
      refine hK _ _ ?_
      go_wp2
      refine bodyPost_ret (v := SV ws) ?_ ?_ ?_
      · exact answer4 rfl h rfl HR.out
      · rfl
      · exact ⟨rfl, HB3.out⟩
    | succ n =>
      obtain rfl : j = (n : Int) := by omega
      have hn : n < 256 := by omega
      clear hj
      have hw := (toldK_spec h (n + 1) (by omega)).1
      have HD := Lib.hid (word_double h hn)
      have HT := Lib.hid (fun v => told_back h hn v)
      have c1 := hS.cell hw (i := n / 64) (by omega)
      have f1 := Lib.frozen_of_heap hS (n / 64)
      have c2 := hO.cell hn
      have HO3 := Lib.hid hO
      have HA3 := Lib.hid hA
      have HB3 := Lib.hid hB
      have HS3 := Lib.hid hS
      have hge : (0 : Int) ≤ (n : Int) := by omega
      have em : IntKind.u64.wrap ((word (toldK ws (n + 1)) (n / 64) : Int) * 2) = ((word (toldK ws (n + 1)) (n / 64) * 2 : Nat) : Int) := by
        have := HD.out
        rw [IntKind.wrap_u64]; omega
      have ea : IntKind.u64.wrap (((word (toldK ws (n + 1)) (n / 64) * 2 : Nat) : Int) + 1) = ((word (toldK ws (n + 1)) (n / 64) * 2 + 1 : Nat) : Int) := by
        have := HD.out
        rw [IntKind.wrap_u64]; omega
      clear hA hO hB hS
      cases hq : mem ws n
      · rw [hq] at c2
        have HQ := Lib.hid hq
        clear hq ea
        go_wp2
        go_roundw
        case rel =>
          have e0 : ((word (toldK ws (n + 1)) (n / 64) : Int) * 2) = ((word (toldK ws (n + 1)) (n / 64) * 2 : Nat) : Int) := by omega
          rw [e0]
          refine ⟨n, (n : Int) - 1, by omega, rfl, rfl, ?_, ?_, ?_, ?_⟩
          · exact heap_set_other HO3.out (by omega) _ _
          · exact heap_set_other HA3.out (by omega) _ _
          · rw [← HT.out (word (toldK ws (n + 1)) (n / 64) * 2) (by rw [HQ.out]; simp)]; exact S4.set HS3.out _ _
          · exact HB3.out.setCell (p := ⟨bo, n / 64, none⟩) (by show w.heap.size ≤ bo; omega) _
        case measure => (simp [intOf] <;> omega)
      · rw [hq] at c2
        have HQ := Lib.hid hq
        clear hq
        go_wp2
        go_roundw
        case rel =>
          have e0 : ((word (toldK ws (n + 1)) (n / 64) : Int) * 2) = ((word (toldK ws (n + 1)) (n / 64) * 2 : Nat) : Int) := by omega
          have e1 : ((word (toldK ws (n + 1)) (n / 64) : Int) * 2 + 1) = ((word (toldK ws (n + 1)) (n / 64) * 2 + 1 : Nat) : Int) := by omega
          have ew : IntKind.u64.wrap ((word (toldK ws (n + 1)) (n / 64) * 2 + 1 : Nat) : Int) = ((word (toldK ws (n + 1)) (n / 64) * 2 + 1 : Nat) : Int) := by
            have := HD.out
            rw [IntKind.wrap_u64]; omega
          rw [e1, ew, e0]
          refine ⟨n, (n : Int) - 1, by omega, rfl, rfl, ?_, ?_, ?_, ?_⟩
          · exact heap_set_other (heap_set_other HO3.out (by omega) _ _) (by omega) _ _
          · exact heap_set_other (heap_set_other HA3.out (by omega) _ _) (by omega) _ _
          · rw [← HT.out (word (toldK ws (n + 1)) (n / 64) * 2 + 1) (by rw [HQ.out]; simp), ← List.set_set (word (toldK ws (n + 1)) (n / 64) * 2)]; exact S4.set (S4.set HS3.out _ _) _ _
          · exact (HB3.out.setCell (p := ⟨bo, n / 64, none⟩) (by show w.heap.size ≤ bo; omega) _).setCell (p := ⟨bo, n / 64, none⟩) (by show w.heap.size ≤ bo; omega) _
        case measure => (simp [intOf] <;> omega)
end Go.Proofs.YtdjedjfanfbbcaaGreatDoor.St
namespace Go.Proofs.YtdjedjfanfbbcaaGreatDoor.St
open Go.RowKit Go.Shelf
set_option linter.unusedVariables false
set_option linter.unusedSimpArgs false
def pre (f : Nat → Bool) (k : Nat) : List UInt8 := ((List.range k).filter f).map UInt8.ofNat
theorem pre_next (f : Nat → Bool) (k : Nat) : pre f (k + 1) = if f k = true then pre f k ++ [UInt8.ofNat k] else pre f k := by
  unfold pre
  rw [List.range_succ, List.filter_append, List.map_append]
  cases hf : f k <;> simp [hf]
theorem pre_len (f : Nat → Bool) (k : Nat) : (pre f k).length ≤ k := by
  unfold pre
  rw [List.length_map]
  exact Nat.le_trans (List.length_filter_le _ _) (by simp)
theorem pre_full (ws : List Nat) : pre (mem ws) 256 = bytesL ws := rfl
theorem grow_below {base : Nat} {w w' : World} {row : Option Nat} (h : w.grownBy w' row) (hb : base ≤ w.heap.size) (hr : ∀ k, row = some k → base ≤ k) : Below base w w' :=
  ⟨h.os, h.tape, h.output, h.size, fun i hi => h.block i (by omega) (fun e => by have := hr i e.symm; omega)⟩
set_option maxRecDepth 100000 in
set_option maxHeartbeats 400000 in
theorem refBytes_any (ws : List Nat) (w : World) :
    Calls Tryz.prog 55 #[BV (mem ws)] w fun e w' => e = .returned (.string ⟨(bytesL ws).toArray⟩) ∧ Below w.heap.size w w' := by
  obtain ⟨i0, hi, hz0, hz1, hz2⟩ := info_parts infoU8
  have HI := Lib.hid (And.intro hi (And.intro hz0 (And.intro hz1 hz2)))
  clear hi hz0 hz1 hz2
  go_enter Tryz.func55, Tryz.ntmps55
  refine wp_seq_k fun K0 hK => ?_
  have HK := Lib.hid hK; clear hK
  go_wp2
  refine HK.out _ _ ?_
  clear HK K0
  have HO := Lib.hid (bb_new w (mem ws))
  have HB := Lib.hid ((Below.refl w.heap.size w).alloc (Nat.le_refl _) (Obj.cells (bc (mem ws)) 72))
  have hlt0 : w.heap.size + 1 ≤ (w.alloc (Obj.cells (bc (mem ws)) 72)).heap.size := by simp
  generalize w.alloc (Obj.cells (bc (mem ws)) 72) = W0 at *
  refine wp_seq_k fun K1 hK => ?_
  have HK := Lib.hid hK; clear hK
  go_wp2
  refine HK.out _ _ ?_
  clear HK K1
  have HR := Lib.hid (World.ownsRow_lit (base := w.heap.size + 1) (e := 5) (size := 1) W0 #[] 0 hlt0 (by unfold maxLen; omega) rfl)
  have HO2 := Lib.hid (alloc_raw HO.out (Obj.cells #[] 5))
  have HB2 := Lib.hid (HB.out.alloc HB.out.size (Obj.cells #[] 5))
  clear HO HB hlt0
  generalize W0.alloc (Obj.cells #[] 5) = W1 at *
  generalize Value.slice (some { block := W0.heap.size, off := 0 }) 0 0 = v0 at *
  refine wp_seq_k fun K2 hK => ?_
  have HK := Lib.hid hK; clear hK
  go_wp2
  go_loopw [3, 4] (fun v i wr => ∃ k : Nat, k ≤ 256 ∧ i = .int .i64 k ∧ BB wr w.heap.size (mem ws) ∧ wr.ownsRow (w.heap.size + 1) 5 1 v (pre (mem ws) k).length ((pre (mem ws) k).map u8v) ∧ Below w.heap.size w wr) (fun _ i _ => 256 - (intOf i).toNat)
  case atStart => exact ⟨0, Nat.zero_le _, rfl, HO2.out, HR.out, HB2.out⟩
  case round =>
    obtain ⟨k, hk, rfl, hO, hrow, hB⟩ := hrel
    by_cases hlt : k < 256
    · have c1 := hO.cell hlt
      have ek : (UInt8.ofNat k).toNat = k := by simp [UInt8.toNat_ofNat]; omega
      have ew : IntKind.u8.wrap (k : Int) = (k : Int) := by rw [IntKind.wrap_u8]; omega
      have HN := Lib.hid (pre_next (mem ws) k)
      have HL := Lib.hid (pre_len (mem ws) k)
      have hbs := Lib.hid (Array.getElem?_eq_some_iff.1 hO).1
      have HO3 := Lib.hid hO
      have HB3 := Lib.hid hB
      have HRW := Lib.hid hrow
      have HEK := Lib.hid ek
      clear hO hB hrow ek
      cases hf : mem ws k
      · rw [hf] at c1
        have HF := Lib.hid hf
        clear hf
        go_wp2
        go_roundw
        case rel =>
          refine ⟨k + 1, by omega, by go_num, HO3.out, ?_, HB3.out⟩
          rw [HN.out, HF.out, if_neg (by simp)]; exact HRW.out
        case measure => (simp [intOf] <;> omega)
      · rw [hf] at c1
        have HF := Lib.hid hf
        clear hf
        obtain ⟨hi, hz0, hz1, hz2⟩ := HI.out
        go_wp2_with (at_builtin; refine wpList_append_own _ rfl _ _ 64 rfl (w.heap.size + 1) 5 i0 (.int .u8 0) 1 1 Tryz.underlying64 hi hz0 hz1 hz2 rfl (by decide) _ _ _ rfl (HRW.out.alloc _) ⟨wr.heap.size, 0, none⟩ 1 1 [.int .u8 (k : Int)] rfl rfl (cell_one_new _ _ _) (by simp [Value.oneCell']) (by have := HL.out; unfold maxLen; omega) (by have := HL.out; omega) (by have := hbs.out; simp; omega) ?_; intro v1 w1 hown1 hgrow1 hnil1)
        go_roundw
        case rel =>
          have hG := grow_below (base := w.heap.size + 1) hgrow1 (by have := hbs.out; simp; omega) (fun j hj => (HRW.out.lt j hj).1)
          have hbA : Below (w.heap.size + 1) wr (wr.alloc (Obj.cells #[Value.int IntKind.u8 (k : Int)] 5)) := (Below.refl _ wr).alloc hbs.out _
          refine ⟨k + 1, by omega, by go_num, ?_, ?_, ?_⟩
          · exact (hG.block w.heap.size (Nat.lt_succ_self _)).trans ((hbA.block w.heap.size (Nat.lt_succ_self _)).trans HO3.out)
          · rw [HN.out, HF.out, if_pos rfl]
            simpa [u8v, HEK.out] using hown1
          · exact HB3.out.trans ((hbA.trans hG).mono (Nat.le_succ _))
        case measure => (simp [intOf] <;> omega)
    · obtain rfl : k = 256 := by omega
      have hcv := own_string (ws := ws) hrow
      have HB3 := Lib.hid hB
      clear hO hrow hB
      go_wp2
      refine HK.out _ _ ?_
      clear HK
      go_wp2
      go_ret
      exact ⟨rfl, HB3.out⟩
end Go.Proofs.YtdjedjfanfbbcaaGreatDoor.St
