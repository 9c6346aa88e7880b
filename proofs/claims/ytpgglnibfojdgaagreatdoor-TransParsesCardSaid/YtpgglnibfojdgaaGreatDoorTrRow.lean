/- Rows of 256 bytes: laws on the memory; the map that changes nothing. -/
import Derived.Test.YtpgglnibfojdgaaGreatDoorTrBack
import Derived.Test.YtpgglnibfojdgaaGreatDoorTrMap
import Derived.Deep.WholeRow
import Derived.Laws.CopyOwn
namespace Go.Proofs.YtpgglnibfojdgaaGreatDoor.Tr
open Go.RowKit Go.Shelf Bld
set_option linter.unusedVariables false
set_option linter.unusedSimpArgs false
abbrev MF := Nat → UInt8
def rc (f : MF) : Array Value := (Array.range 256).map fun j => Value.int .u8 ((f j).toNat : Int)
abbrev MV (f : MF) : Value := .agg (rc f)
abbrev MB (w : World) (b : Nat) (t : TypeId) (f : MF) : Prop := w.heap[b]? = some (.cells (rc f) t (0, 0))
theorem rc_size (f : MF) : (rc f).size = 256 := by simp [rc]
theorem rc_at (f : MF) {i : Nat} (hi : i < 256) : (rc f)[i]? = some (.int .u8 ((f i).toNat : Int)) := by simp [rc, hi]
theorem rc_congr {f g : MF} (h : ∀ i, i < 256 → f i = g i) : rc f = rc g := by
  apply Array.ext
  · simp [rc_size]
  · intro i h1 h2
    have hi : i < 256 := by rw [rc_size] at h1; exact h1
    have e1 := rc_at f hi
    have e2 := rc_at g hi
    rw [Array.getElem?_eq_getElem h1] at e1
    rw [Array.getElem?_eq_getElem h2] at e2
    rw [Option.some.inj e1, Option.some.inj e2, h i hi]
theorem rc_one (f : MF) : (rc f).all (·.oneCell') = true := by
  rw [Array.all_eq_true_iff_forall_mem]
  intro v hv
  obtain ⟨j, _, rfl⟩ := Array.mem_map.1 hv
  rfl
theorem rc_put {f g : MF} {k : Nat} {v : UInt8} (h : ∀ i, i < 256 → g i = if i = k then v else f i) : (rc f).setIfInBounds k (.int .u8 (v.toNat : Int)) = rc g := by
  apply Array.ext_getElem?
  intro i
  by_cases hi : i < 256
  · rw [rc_at _ hi, h i hi]
    by_cases hk : k = i
    · subst hk
      rw [Array.getElem?_setIfInBounds_self_of_lt (by rw [rc_size]; exact hi)]; simp
    · rw [Array.getElem?_setIfInBounds_ne hk, rc_at f hi, if_neg (fun e => hk e.symm)]
  · rw [Array.getElem?_eq_none (by rw [Array.size_setIfInBounds, rc_size]; omega), Array.getElem?_eq_none (by rw [rc_size]; omega)]
theorem heap_set_at {w : World} {b i : Nat} {c : Array Value} {t : TypeId} {f : Nat × Nat} {v : Value} (h : w.heap[b]? = some (.cells c t f)) : (w.setCell ⟨b, i, none⟩ v).heap[b]? = some (.cells (c.setIfInBounds i v) t f) := by
  simp [World.setCell, Array.getElem?_modify, h]
theorem heap_set_other {w : World} {b' : Nat} {o : Obj} (h : w.heap[b']? = some o) {b : Nat} (hb : b' ≠ b) (i : Nat) (v : Value) : (w.setCell ⟨b, i, none⟩ v).heap[b']? = some o :=
  (blk_other w _ v b' hb).trans h
theorem MB.cell {w : World} {b t : Nat} {f : MF} (h : MB w b t f) {i : Nat} (hi : i < 256) : w.cell? ⟨b, i, none⟩ = some (.int .u8 ((f i).toNat : Int)) := by
  rw [Lib.cell_of_heap h]; exact rc_at f hi
theorem MB.put {w : World} {b t : Nat} {f g : MF} (h : MB w b t f) {k : Nat} {v : UInt8} (hg : ∀ i, i < 256 → g i = if i = k then v else f i) : MB (w.setCell ⟨b, k, none⟩ (.int .u8 (v.toNat : Int))) b t g := by
  unfold MB; rw [heap_set_at h, rc_put hg]
theorem alloc_raw {W : World} {b : Nat} {o : Obj} (h : W.heap[b]? = some o) (o' : Obj) : (W.alloc o').heap[b]? = some o := (heap_alloc_old _ _ (lt_of_heap h)).trans h
theorem row_load {P : Program} {W : World} {g : Nat} {c : Array Value} {t : TypeId} {fr : Nat × Nat} (h : W.heap[g]? = some (.cells c t fr)) {n : Nat} (hn : c.size = n) : (loadCellsFrom ⟨g, 0, none⟩ 0 n #[]).run P W = .ok c W := by
  subst hn
  have := run_loadCells_list (P := P) W ⟨g, 0, none⟩ c.toList (fun j v hv => by
    have hadd : (⟨g, 0, none⟩ : Addr).add j = ⟨g, j, none⟩ := by unfold Addr.add; split <;> simp_all
    rw [hadd, cell_of_row _ _ j c t fr h]
    simpa using hv)
  simpa [loadCells] using this
theorem row_store {P : Program} {W : World} {g : Nat} {c c' : Array Value} {t : TypeId} (h : W.heap[g]? = some (.cells c t (0, 0))) (ho : c.size = c'.size) (h1 : c'.all (·.oneCell') = true) :
    (storeCells ⟨g, 0, none⟩ c'.toList 0).run P W = .ok () (W.setRow g c') :=
  run_storeCells_from (P := P) g t c'.toList 0 c W h (by simp; omega) (fun v hv => (Array.all_eq_true_iff_forall_mem.1 h1) v (by simpa using hv))
theorem heap_row_at {w : World} {b : Nat} {c : Array Value} {t : TypeId} {f : Nat × Nat} (h : w.heap[b]? = some (.cells c t f)) (c' : Array Value) : (w.setRow b c').heap[b]? = some (.cells c' t f) := by
  simp only [World.setRow, Array.getElem?_modify, if_true, h]; rfl
theorem heap_row_other {w : World} {b b' : Nat} {o : Obj} (h : w.heap[b']? = some o) (hb : b ≠ b') (c' : Array Value) : (w.setRow b c').heap[b']? = some o := by
  simp only [World.setRow, Array.getElem?_modify, h]
  rw [if_neg hb]
theorem below_row {B b : Nat} {w0 w : World} (h : Below B w0 w) (hb : B ≤ b) (c : Array Value) : Below B w0 (w.setRow b c) where
  os := h.os
  tape := h.tape
  output := h.output
  size := by simpa [World.setRow] using h.size
  block := by
    intro k hk
    simp only [World.setRow, Array.getElem?_modify]
    rw [if_neg (by omega)]
    exact h.block k hk
/-- A type of 256 bytes. -/
structure Row (t : TypeId) : Prop where
  hu : Tryz.prog.underlying t = some (.array 256 5)
  hs : (Tryz.prog.info? t).map (·.size) = some 256
  hz : ∀ w, (zeroValue t).run Tryz.prog w = .ok (.agg (rc fun _ => 0)) w
theorem zeroes : Array.replicate 256 (Value.int .u8 0) = rc (fun _ => 0) := by
  apply Array.ext
  · simp [rc_size]
  · intro i h1 h2; simp [rc]
theorem rowP : Row 29 where
  hu := Tryz.underlying29
  hs := by kernel_rfl
  hz := by
    have := (zero_of_info (P := Tryz.prog) (t := 29) (v := .agg (Array.replicate 256 (.int .u8 0))) (n := 256) (by kernel_rfl)).1
    rwa [zeroes] at this
/-- The answer in a box. -/
theorem answer {t : TypeId} (ht : Row t) {fn : Func} {p : Tmp} (h : fn.results = #[.cell p t]) {tmps : Array Value} {w : World} {g : Nat} {f : MF} (hp : tmps.getD p undef = .pointer (some ⟨g, 0, none⟩)) (hg : MB w g t f) : (results fn tmps).run Tryz.prog w = .ok (MV f) w :=
  results_cell_row h tmps w g _ (rc f) (0, 0) (.array 256 5) hp hg ht.hu rfl (by rw [rc_size]; exact ht.hs)
/-- The tail of a function that hands a row back: the row is loaded, and laid into the answer's box. -/
theorem tail_row {t : TypeId} (ht : Row t) {id : Nat} {o1 o2 : Oper} {os : List Oper} {ops : Array Oper} (hops : ops.toList = o1 :: o2 :: os) {s d k : Nat} {Q : Exit → Act → World → Prop} {a : Act} {w : World} {src dst : Nat} {f g : MF} (g1 : o1.guard = none) (g2 : o2.guard = none)
    (h1 : o1.op = .load t (.tmp s)) (h2 : o2.op = .store t (.tmp d) (.tmp k)) (hk : o1.dst = some k) (hk2 : o2.dst = none)
    (hs : a.eval (.tmp s) = .pointer (some ⟨src, 0, none⟩)) (hd : (a.put (some k) (MV f)).eval (.tmp d) = .pointer (some ⟨dst, 0, none⟩)) (hv : (a.put (some k) (MV f)).eval (.tmp k) = MV f)
    (hS : MB w src t f) (hD : MB w dst t g) (h : wpList Tryz.prog ops Q os (a.put (some k) (MV f)) (w.setRow dst (rc f))) : (Code.region id ops false).wp Tryz.prog Q a w := by
  refine wp_region_list ?_
  rw [hops]
  refine wpList_load_row g1 t (.tmp s) h1 src hs _ (rc f) (0, 0) (.array 256 5) hS ht.hu rfl (by rw [rc_size]; exact ht.hs) ?_
  rw [hk]
  refine wpList_store_row g2 t (.tmp d) (.tmp k) h2 dst (rc f) hd hv _ (rc g) hD (by rw [rc_size]; exact ht.hs) (by rw [rc_size, rc_size]) (rc_one f) ?_
  rw [hk2]
  exact h
def idF : MF := fun j => UInt8.ofNat j
def sameK (k : Nat) : MF := fun j => if j < k then UInt8.ofNat j else 0
set_option maxRecDepth 100000 in
set_option maxHeartbeats 800000 in
theorem same_any (w : World) : Calls Tryz.prog 16 #[] w fun e w' => e = .returned (MV idF) ∧ Below w.heap.size w w' := by
  have hz := rowP.hz
  have HM := Lib.hid (show MB (w.alloc (Obj.cells (rc fun x => 0) 29)) w.heap.size 29 (sameK 0) from by
    have : rc (fun _ => 0) = rc (sameK 0) := rc_congr fun i _ => by simp [sameK]
    rw [this]; exact heap_alloc_new _ _)
  have HB := Lib.hid ((Below.refl w.heap.size w).alloc (Nat.le_refl _) (Obj.cells (rc fun x => 0) 29))
  go_enter Tryz.func16, Tryz.ntmps16
  refine wp_seq_k fun K0 hK => ?_
  have HK := Lib.hid hK; clear hK
  go_wp2
  refine HK.out _ _ ?_
  clear HK K0
  refine wp_seq_k fun K1 hK => ?_
  have HK := Lib.hid hK; clear hK
  go_wp2
  go_loopw [2] (fun i wr => ∃ k : Nat, k ≤ 256 ∧ i = .int .i64 (k : Nat) ∧ Hid (MB wr w.heap.size 29 (sameK k)) ∧ Hid (Below w.heap.size w wr)) (fun i _ => 256 - (intOf i).toNat)
  case atStart => exact ⟨0, by omega, rfl, HM, HB⟩
  case round =>
    obtain ⟨k, hk, rfl, HMk, HBk⟩ := hrel
    clear HM HB
    by_cases hlt : k < 256
    · have e : ((UInt8.ofNat k).toNat) = k := by
        have : (UInt8.ofNat k).toNat = k % 256 := rfl
        omega
      have c2 := HMk.out.cell (i := k) hlt
      have f2 := Lib.frozen_of_heap HMk.out k
      have HM2 := Lib.hid (MB.put (v := UInt8.ofNat k) (g := sameK (k + 1)) HMk.out (k := k) (fun i hi => by
        unfold sameK
        by_cases h1 : i = k
        · rw [if_pos h1, if_pos (by omega), h1]
        · rw [if_neg h1]
          by_cases h2 : i < k
          · rw [if_pos (by omega), if_pos h2]
          · rw [if_neg (by omega), if_neg h2]))
      rw [e] at HM2
      have HB2 := Lib.hid (HBk.out.setCell (p := ⟨w.heap.size, k, none⟩) (Nat.le_refl _) (.int .u8 ((k : Nat) : Int)))
      have hm : ((k : Nat) : Int) % 256 = ((k : Nat) : Int) := by omega
      generalize (sameK k k).toNat = old at c2
      clear e HMk HBk hz
      go_wp2
      go_roundw
      case rel => exact ⟨k + 1, by omega, by go_num, HM2, HB2⟩
      case measure => simp [intOf]; omega
    · obtain rfl : k = 256 := by omega
      have HI := Lib.hid (show MB wr w.heap.size 29 idF from by
        have : rc (sameK 256) = rc idF := rc_congr fun i hi => by simp [sameK, idF, hi]
        rw [MB, ← this]; exact HMk.out)
      have HR := Lib.hid (heap_row_at HI.out (rc idF))
      have HB3 := Lib.hid (below_row HBk.out (Nat.le_refl _) (rc idF))
      clear hz
      go_wp2
      refine HK.out _ _ ?_
      clear HK
      refine wp_seq_k fun K3 hK => ?_
      refine tail_row rowP rfl rfl rfl rfl rfl rfl rfl rfl rfl rfl HI.out HI.out ?_
      refine wpList_nil ?_
      refine hK _ _ ?_
      go_wp2
      refine bodyPost_ret (v := MV idF) ?_ ?_ ?_
      · exact answer rowP rfl rfl HR.out
      · rfl
      · exact ⟨rfl, HB3.out⟩
end Go.Proofs.YtpgglnibfojdgaaGreatDoor.Tr
