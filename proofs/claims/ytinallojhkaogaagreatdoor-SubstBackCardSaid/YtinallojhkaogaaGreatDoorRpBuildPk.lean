/- What a replacer of four texts builds, the old ones of one byte each, the new ones of two. -/
import Derived.Test.YtinallojhkaogaaGreatDoorRpNewPk
import Derived.Deep.WholeRow
import Derived.Deep.Heap
namespace Go.Proofs.YtinallojhkaogaaGreatDoor.Rp
open Go.RowKit
set_option linter.unusedVariables false
set_option linter.unusedSimpArgs false

abbrev noV : Value := .slice none 0 0
def rowZ : Array Value := Array.replicate 257 noV
def rowT (v : Value) : Array Value := (Array.replicate 256 noV).push v
theorem rowZ_size : rowZ.size = 257 := by simp [rowZ]
theorem rowT_size (v : Value) : (rowT v).size = 257 := by simp [rowT]
theorem rowT_one (p : Option Addr) (l c : Nat) : (rowT (.slice p l c)).all (·.oneCell') = true := by
  rw [Array.all_eq_true_iff_forall_mem]
  intro x hx
  unfold rowT at hx
  rw [Array.mem_push, Array.mem_replicate] at hx
  rcases hx with ⟨_, h⟩ | h <;> subst h <;> rfl
theorem rowT_list (v : Value) : (rowT v).toList = rowZ.toList.set 256 v := by
  unfold rowT rowZ
  apply List.ext_getElem?
  intro j
  rw [List.getElem?_set]
  simp only [Array.toList_push, Array.toList_replicate, List.getElem?_append, List.length_replicate, List.getElem?_replicate]
  by_cases h1 : j < 256
  · have h2 : ¬ 256 = j := by omega
    have h3 : j < 257 := by omega
    simp [h1, h2, h3]
  · by_cases h2 : j = 256
    · subst h2; simp
    · have h3 : ¬ 256 = j := by omega
      have h4 : ¬ j < 257 := by omega
      have h5 : ¬ j - 256 = 0 := by omega
      simp [h1, h3, h4, h5, List.getElem?_eq_none]
theorem rowT_store (w : World) (p : Option Addr) (l c : Nat) (h : (Tryz.prog.info? 216).map (·.size) = some 257) :
    (storeCells ⟨w.heap.size, 0, none⟩ (rowZ.toList.set 256 (.slice p l c)) 0).run Tryz.prog (w.alloc (.cells rowZ 216)) = .ok () (w.alloc (.cells (rowT (.slice p l c)) 216)) := by
  rw [← rowT_list]
  exact run_storeCells_new (P := Tryz.prog) w _ rowZ (rowT (.slice p l c)) (by rw [h, rowT_size]) (by rw [rowT_size, rowZ_size]) (rowT_one p l c)
theorem zero_bsr : (∀ w, (zeroValue 216).run Tryz.prog w = .ok (.agg rowZ) w) ∧ (Tryz.prog.info? 216).map (·.size) = some 257 :=
  zero_of_info (P := Tryz.prog) (t := 216) (v := .agg rowZ) (n := 257) (by kernel_rfl)
theorem built_bsr (p : Option Addr) (l c : Nat) : Tryz.prog.built 216 [(1, .slice p l c)] = some (rowT (.slice p l c)) := by kernel_rfl
theorem built_run (p : Option Addr) (l c : Nat) (w : World) : (Instr.build 216 #[(1, .slice p l c)]).run Tryz.prog w = .ok (.agg (rowT (.slice p l c))) w := run_build w _ _ _ (built_bsr p l c)

/-- What stands for each byte. -/
def lk : List (UInt8 × Value) → UInt8 → Value
  | [], _ => noV
  | (o, v) :: r, c => if c = o then v else lk r c
theorem conv1 (d : UInt8) (w : World) : (convert 96 9 (.slice (some ⟨w.heap.size, 0, none⟩) 1 1)).run Tryz.prog (w.alloc (.cells #[.int .u8 d.toNat] 5)) = .ok (S [d]) (w.alloc (.cells #[.int .u8 d.toNat] 5)) :=
  run_convert_bytes_back (P := Tryz.prog) (w.alloc (.cells #[.int .u8 d.toNat] 5)) 96 9 5 ⟨w.heap.size, 0, none⟩ 1 [d] Tryz.underlying96 Tryz.underlying5 Tryz.underlying9 (by
    intro j hj
    match j, hj with
    | 0, _ => simp [Addr.add])
/-- The replacer's block q, of which the bytes M are told, and the texts xs of what is told. -/
structure Bs (B q : Nat) (M : List (UInt8 × Value)) (xs : List Value) (w : World) : Prop where
  row : ∃ row tv, w.heap[q]? = some (.cells row 216 (0, 0)) ∧ row.size = 257 ∧ (∀ c : UInt8, row[c.toNat]? = some (lk M c)) ∧ row[256]? = some tv ∧
    w.ownsRow B 9 1 tv xs.length xs ∧ tv.ownBlock ≠ some q
  le : B ≤ q
theorem Bs.lt {B q M xs w} (h : Bs B q M xs w) : q < w.heap.size := by
  obtain ⟨row, tv, hq, _⟩ := h.row
  rcases Nat.lt_or_ge q w.heap.size with h' | h'
  · exact h'
  · rw [Array.getElem?_eq_none h'] at hq; cases hq
theorem Bs.cell {B q M xs w} (h : Bs B q M xs w) (c : UInt8) : w.cell? ⟨q, c.toNat, none⟩ = some (lk M c) := by
  obtain ⟨row, tv, hq, _, hr, _⟩ := h.row
  rw [Lib.cell_of_heap hq]; exact hr c
theorem Bs.frozen {B q M xs w} (h : Bs B q M xs w) (j : Nat) : w.frozen? ⟨q, j, none⟩ = false := by
  obtain ⟨row, tv, hq, _⟩ := h.row
  exact Lib.frozen_of_heap hq j
theorem Bs.last {B q M xs w} (h : Bs B q M xs w) : ∃ tv, w.cell? ⟨q, 256, none⟩ = some tv ∧ w.ownsRow B 9 1 tv xs.length xs ∧ tv.ownBlock ≠ some q := by
  obtain ⟨row, tv, hq, _, hr, ht, ho, hn⟩ := h.row
  exact ⟨tv, by rw [Lib.cell_of_heap hq]; exact ht, ho, hn⟩
theorem Bs.alloc {B q M xs w} (h : Bs B q M xs w) (o : Obj) : Bs B q M xs (w.alloc o) := by
  have hlt := h.lt
  obtain ⟨row, tv, hq, hs, hr, ht, ho, hn⟩ := h.row
  exact ⟨⟨row, tv, (heap_alloc_old w o hlt).trans hq, hs, hr, ht, ho.alloc o, hn⟩, h.le⟩
theorem Bs.drew {B q M xs w} (h : Bs B q M xs w) : Bs B q M xs w.drew := ⟨h.row, h.le⟩
theorem Bs.drewN {B q M xs w} (h : Bs B q M xs w) (n : Nat) : Bs B q M xs (w.drewN n) := ⟨h.row, h.le⟩
theorem heap_set_same {w : World} {q i : Nat} {row : Array Value} {t : TypeId} {fz : Nat × Nat} {v : Value} (h : w.heap[q]? = some (.cells row t fz)) : (w.setCell ⟨q, i, none⟩ v).heap[q]? = some (.cells (row.setIfInBounds i v) t fz) := by
  simp [World.setCell, Array.getElem?_modify, h]
/-- A byte is told. -/
theorem Bs.put {B q M xs w} (h : Bs B q M xs w) (o : UInt8) (v : Value) : Bs B q ((o, v) :: M) xs (w.setCell ⟨q, o.toNat, none⟩ v) := by
  obtain ⟨row, tv, hq, hs, hr, ht, ho, hn⟩ := h.row
  refine ⟨⟨row.setIfInBounds o.toNat v, tv, heap_set_same hq, by simpa using hs, fun c => ?_, ?_, ownsRow_setCell_other ho (by simpa using hn) v, hn⟩, h.le⟩
  · have hlt := UInt8.toNat_lt c
    by_cases hc : c = o
    · subst hc
      rw [Array.getElem?_setIfInBounds_self_of_lt (by rw [hs]; omega)]
      simp [lk]
    · rw [Array.getElem?_setIfInBounds_ne (fun e => hc (UInt8.toNat_inj.1 e.symm)), hr c]
      simp [lk, hc]
  · have hlt := UInt8.toNat_lt o
    rw [Array.getElem?_setIfInBounds_ne (by omega)]; exact ht
/-- One text more. -/
theorem Bs.more {B q M xs w} (h : Bs B q M xs w) {w' : World} {tv tv' x : Value} (hB : B ≤ w.heap.size) (hc : w.cell? ⟨q, 256, none⟩ = some tv)
    (ho' : w'.ownsRow B 9 1 tv' (xs.length + 1) (xs ++ [x])) (hg : w.grownBy w' tv.ownBlock) :
    Bs B q M (xs ++ [x]) (w'.setCell ⟨q, 256, none⟩ tv') ∧ w'.cell? ⟨q, 256, none⟩ = some tv ∧ w'.frozen? ⟨q, 256, none⟩ = false := by
  have hlt := h.lt
  obtain ⟨row, tv0, hq, hs, hr, ht, ho, hn⟩ := h.row
  have e0 : tv0 = tv := by
    rw [Lib.cell_of_heap hq] at hc
    exact Option.some.inj (ht.symm.trans hc)
  subst e0
  have hq' : w'.heap[q]? = some (.cells row 216 (0, 0)) := (hg.block q hlt (fun e => hn e.symm)).trans hq
  have hn' : tv'.ownBlock ≠ some q := by
    rcases ho'.2 with ⟨hv, h0⟩ | ⟨g, cap, cur, hv, _, hb, _⟩
    · omega
    · subst hv
      intro e
      have e' : g = q := by simpa [Value.ownBlock] using e
      subst e'
      rw [hq'] at hb
      have := (Obj.cells.injEq .. ▸ Option.some.inj hb : _ ∧ _ ∧ _)
      exact absurd this.2.1 (by decide)
  refine ⟨⟨⟨row.setIfInBounds 256 tv', tv', heap_set_same hq', by simpa using hs, fun c => ?_, ?_, ?_, hn'⟩, h.le⟩, ?_, Lib.frozen_of_heap hq' 256⟩
  · have hlt := UInt8.toNat_lt c
    rw [Array.getElem?_setIfInBounds_ne (by omega)]; exact hr c
  · rw [Array.getElem?_setIfInBounds_self_of_lt (by rw [hs]; omega)]
  · rw [List.length_append, List.length_singleton]
    exact ownsRow_setCell_other ho' (by simpa using hn') tv'
  · rw [Lib.cell_of_heap hq']; exact ht
/-- The first state. -/
theorem Bs.start {B : Nat} {w : World} {tv : Value} (hB : B ≤ w.heap.size) (ho : w.ownsRow B 9 1 tv 0 []) (ht : ∃ l c g, tv = .slice (some ⟨g, 0, none⟩) l c ∧ g < w.heap.size) {w' : World}
    (hq : w'.heap[w.heap.size]? = some (.cells (rowT tv) 216 (0, 0))) (hk : ∀ k, k < w.heap.size → w'.heap[k]? = w.heap[k]?) : Bs B w.heap.size [] [] w' := by
  obtain ⟨l, c, g, rfl, hg⟩ := ht
  refine ⟨⟨rowT (.slice (some ⟨g, 0, none⟩) l c), .slice (some ⟨g, 0, none⟩) l c, hq, rowT_size _, fun c => ?_, ?_, ?_, ?_⟩, hB⟩
  · have := UInt8.toNat_lt c
    unfold rowT lk
    rw [Array.getElem?_push]
    rw [if_neg (by rw [Array.size_replicate]; omega), Array.getElem?_replicate, if_pos (by omega)]
  · unfold rowT; rw [Array.getElem?_push]; simp
  · refine ⟨ho.1, ?_⟩
    rcases ho.2 with h | ⟨g', cap, cur, hv, hb, hh, hr⟩
    · exact .inl h
    · refine .inr ⟨g', cap, cur, hv, hb, ?_, hr⟩
      have e : g' = g := by simp at hv; exact hv.1.symm
      subst e
      rw [hk g' hg]; exact hh
  · simp [Value.ownBlock]; omega
theorem eq_nil (w : World) : (binOp .eql 96 noV noV).run Tryz.prog w = .ok (.bool true) w := by
  simp only [binOp]
  simp [run_equal_slice_nil w 96 5 none 0 0 Tryz.underlying96]
theorem one_cell {w : World} {g : Nat} {x : Value} {t : TypeId} {fz : Nat × Nat} (h : w.heap[g]? = some (.cells #[x] t fz)) : ∀ j u, [x][j]? = some u → w.cell? ((⟨g, 0, none⟩ : Addr).add j) = some u := by
  intro j u hj
  match j, hj with
  | 0, hj =>
    rw [Addr.add_lit, Lib.cell_of_heap h]
    simpa using hj
theorem one_one (x : List UInt8) : ∀ u ∈ [S x], u.oneCell' = true := by simp [Value.oneCell']
theorem cell_past {w : World} {q i : Nat} {v : Value} (hq : q < w.heap.size) (h : w.cell? ⟨q, i, none⟩ = some v) (o : Obj) : (w.alloc o).cell? ⟨q, i, none⟩ = some v := by
  rw [World.cell?_alloc_past _ _ _ hq]; exact h
theorem frozen_past {w : World} {q i : Nat} (hq : q < w.heap.size) (h : w.frozen? ⟨q, i, none⟩ = false) (o : Obj) : (w.alloc o).frozen? ⟨q, i, none⟩ = false := by
  rw [World.frozen?_alloc_past _ _ _ hq]; exact h
theorem own_ge {w : World} {B e n : Nat} {v : Value} {xs : List Value} (h : w.ownsRow B e 1 v n xs) : ∀ k, v.ownBlock = some k → B ≤ k := by
  intro k hk
  rcases h.2 with ⟨hv, _⟩ | ⟨g, cap, cur, hv, hb, _⟩
  · subst hv; cases hk
  · subst hv
    have : g = k := by simpa [Value.ownBlock] using hk
    omega
theorem own_slice {w : World} {B e n : Nat} {v : Value} {xs : List Value} (h : w.ownsRow B e 1 v n xs) : ∃ ao n' cap, v = .slice ao n' cap := by
  rcases h.2 with ⟨hv, _⟩ | ⟨g, cap, cur, hv, _⟩
  · exact ⟨_, _, _, hv⟩
  · exact ⟨_, _, _, hv⟩
/-- What stands for a byte: bytes of their own. -/
def Bytes (w : World) (v : Value) (l : List UInt8) : Prop := ∃ s cap cells fz, v = .slice (some ⟨s, 0, none⟩) l.length cap ∧ w.heap[s]? = some (.cells cells 5 fz) ∧ ∀ j (hj : j < l.length), cells[j]? = some (.int .u8 (l[j].toNat : Int))
theorem Bytes.drew {w : World} {v : Value} {l : List UInt8} (h : Bytes w v l) : Bytes w.drew v l := h
theorem Bytes.alloc {w : World} {v : Value} {l : List UInt8} (h : Bytes w v l) (o : Obj) : Bytes (w.alloc o) v l := by
  obtain ⟨s, cap, cells, fz, hv, hs, hc⟩ := h
  refine ⟨s, cap, cells, fz, hv, (heap_alloc_old w o ?_).trans hs, hc⟩
  rcases Nat.lt_or_ge s w.heap.size with h | h
  · exact h
  · rw [Array.getElem?_eq_none h] at hs; cases hs
/-- A store into the replacer's block leaves the bytes. -/
theorem Bytes.put {w : World} {v : Value} {l : List UInt8} (h : Bytes w v l) {B q M xs} (hb : Bs B q M xs w) (o : UInt8) (u : Value) : Bytes (w.setCell ⟨q, o.toNat, none⟩ u) v l := by
  obtain ⟨s, cap, cells, fz, hv, hs, hc⟩ := h
  obtain ⟨row, tv, hq, _⟩ := hb.row
  have hne : s ≠ q := by
    rintro rfl
    rw [hs] at hq
    have := (Obj.cells.injEq .. ▸ Option.some.inj hq : _ ∧ _ ∧ _)
    exact absurd this.2.1 (by decide)
  exact ⟨s, cap, cells, fz, hv, (Deep.blk_setCell_other w _ u s hne).trans hs, hc⟩
/-- Neither does an append to the texts, with what is stored then. -/
theorem Bytes.more {w w' : World} {v : Value} {l : List UInt8} (h : Bytes w v l) {B q M xs} (hb : Bs B q M xs w) {tv u : Value} (hl : w.cell? ⟨q, 256, none⟩ = some tv) (hg : w.grownBy w' tv.ownBlock) : Bytes (w'.setCell ⟨q, 256, none⟩ u) v l := by
  obtain ⟨s, cap, cells, fz, hv, hs, hc⟩ := h
  have hlt : s < w.heap.size := by
    rcases Nat.lt_or_ge s w.heap.size with h | h
    · exact h
    · rw [Array.getElem?_eq_none h] at hs; cases hs
  obtain ⟨row, tv0, hq, h1, h2, ht, ho, hn⟩ := hb.row
  have e0 : tv0 = tv := by
    rw [Lib.cell_of_heap hq] at hl
    exact Option.some.inj (ht.symm.trans hl)
  subst e0
  have hne : s ≠ q := by
    rintro rfl
    rw [hs] at hq
    have := (Obj.cells.injEq .. ▸ Option.some.inj hq : _ ∧ _ ∧ _)
    exact absurd this.2.1 (by decide)
  have hne2 : some s ≠ tv0.ownBlock := by
    rcases ho.2 with ⟨hv0, _⟩ | ⟨g, cp, cur, hv0, _, hg0, _⟩
    · subst hv0; intro e; cases e
    · subst hv0
      intro e
      have e' : s = g := by simpa [Value.ownBlock] using e
      subst e'
      rw [hs] at hg0
      have := (Obj.cells.injEq .. ▸ Option.some.inj hg0 : _ ∧ _ ∧ _)
      exact absurd this.2.1 (by decide)
  exact ⟨s, cap, cells, fz, hv, (Deep.blk_setCell_other w' _ u s hne).trans ((hg.block s hlt hne2).trans hs), hc⟩
theorem bytes_new (w : World) (a b : UInt8) (c : Nat) : Bytes (w.alloc (.cells (bytesRow ⟨#[a, b]⟩ c) 5 ((bytesRow ⟨#[a, b]⟩ c).size, (bytesRow ⟨#[a, b]⟩ c).size + 1))) (.slice (some ⟨w.heap.size, 0, none⟩) 2 c) [a, b] := by
  refine ⟨w.heap.size, c, _, _, rfl, heap_alloc_new w _, ?_⟩
  have e : bytesRow ⟨#[a, b]⟩ c = #[.int .u8 (a.toNat : Int), .int .u8 (b.toNat : Int)] ++ Array.replicate (c - (ByteArray.mk #[a, b]).size) (.int .u8 0) := by simp [bytesRow]
  intro j hj
  rw [e]
  match j, hj with
  | 0, _ => rw [Array.getElem?_append_left (by simp)]; rfl
  | 1, _ => rw [Array.getElem?_append_left (by simp)]; rfl

set_option maxRecDepth 100000 in
set_option maxHeartbeats 1600000 in
theorem build_any (b d cap : Nat) (o1 o2 p1 q1 p2 q2 : UInt8) (hne : o1 ≠ o2) (w : World)
    (h4 : w.cell? ⟨b, 4, none⟩ = some (.slice (some ⟨d, 0, none⟩) 4 cap))
    (c0 : w.cell? ⟨d, 0, none⟩ = some (S [o1])) (c1 : w.cell? ⟨d, 1, none⟩ = some (S [p1, q1])) (c2 : w.cell? ⟨d, 2, none⟩ = some (S [o2])) (c3 : w.cell? ⟨d, 3, none⟩ = some (S [p2, q2])) :
    Calls Tryz.prog 110 #[.pointer (some ⟨b, 0, none⟩)] w fun e w' => ∃ q v1 v2, e = .returned (.iface 217 (.pointer (some ⟨q, 0, none⟩))) ∧ Below w.heap.size w w' ∧ Bs w.heap.size q [(o1, v1), (o2, v2)] [S [o2], S [o1]] w' ∧ Bytes w' v1 [p1, q1] ∧ Bytes w' v2 [p2, q2] := by
  obtain ⟨i0, hi, hz0, hz1, hz2⟩ := info_parts infoString
  have hz := zero_bsr.1
  have hsz := zero_bsr.2
  have hrz := rowZ_size
  go_enter Tryz.func110, Tryz.ntmps110
  go_wp2
  go_loop [4, 5] (fun a i => ∃ k : Nat, k ≤ 2 ∧ i = .int .i64 (2 * k : Nat) ∧ a = .bool (k == 0)) (fun _ i => 6 - (intOf i).toNat)
  case atStart => exact ⟨0, by omega, rfl, rfl⟩
  case round =>
    obtain ⟨k, hk, rfl, rfl⟩ := hrel
    obtain rfl | rfl | rfl : k = 0 ∨ k = 1 ∨ k = 2 := by omega
    · go_wp2
      go_round
      case rel => exact ⟨1, by omega, rfl, rfl⟩
      case measure => simp [intOf]
    · go_wp2
      go_round
      case rel => exact ⟨2, by omega, rfl, rfl⟩
      case measure => simp [intOf]
    · go_wp2_with (at_make; refine wpList_make_own _ rfl _ _ 133 rfl w.heap.size 9 i0 _ 1 Tryz.underlying133 hi hz0 hz1 _ _ _ 2 rfl rfl (by decide) (by rw [hz2]; decide) (by unfold maxLen; omega) (Nat.le_refl _) ?_)
      intro w1 hown hgrow
      have hst := rowT_store w1 (some ⟨w.heap.size, 0, none⟩) 0 2 hsz
      have HB0 := (Below.refl w.heap.size w).grown hgrow (Nat.le_refl _) (fun k hk => by cases hk)
      have hlt1 : w.heap.size < w1.heap.size := by
        rcases hown.2 with ⟨h, _⟩ | ⟨g, cp, cur, hv, _, hb, _⟩
        · cases h
        · have e : g = w.heap.size := by simp at hv; exact hv.1.symm
          subst e
          rcases Nat.lt_or_ge w.heap.size w1.heap.size with h | h
          · exact h
          · rw [Array.getElem?_eq_none h] at hb; cases hb
      have HS := Bs.start (w := w1) HB0.size hown ⟨_, _, _, rfl, hlt1⟩ (w' := w1.alloc (.cells (rowT (.slice (some ⟨w.heap.size, 0, none⟩) 0 2)) 216)) (heap_alloc_new w1 _) (fun k hk => heap_alloc_old w1 _ hk)
      have HB1 := HB0.alloc HB0.size (.cells (rowT (.slice (some ⟨w.heap.size, 0, none⟩) 0 2)) 216)
      have hd : d < w.heap.size := by
        unfold World.cell? at c0
        rcases Nat.lt_or_ge d w.heap.size with h | h
        · exact h
        · rw [Array.getElem?_eq_none h] at c0; cases c0
      clear hgrow hown
      go_wp2
      go_loopw [12] (fun i wr => Below w.heap.size w wr ∧ ((i = .int .i64 2 ∧ Bs w.heap.size w1.heap.size [] [] wr) ∨ (i = .int .i64 0 ∧ ∃ v2, Bs w.heap.size w1.heap.size [(o2, v2)] [S [o2]] wr ∧ Bytes wr v2 [p2, q2]) ∨ (i = .int .i64 (-2) ∧ ∃ v1 v2, Bs w.heap.size w1.heap.size [(o1, v1), (o2, v2)] [S [o2], S [o1]] wr ∧ Bytes wr v1 [p1, q1] ∧ Bytes wr v2 [p2, q2]))) (fun i _ => (intOf i + 2).toNat)
      case atStart => exact ⟨HB1, Or.inl ⟨rfl, HS⟩⟩
      case round =>
        clear HS HB0 HB1 hst
        obtain ⟨HB, ⟨rfl, HS⟩ | ⟨rfl, v2, HS, Y2⟩ | ⟨rfl, v1, v2, HS, Y1, Y2⟩⟩ := hrel
        · have hd0 : w.heap.size ≤ wr.heap.size := HB.size
          have hcO : wr.cell? ⟨d, 2, none⟩ = some (S [o2]) := (HB.cell hd).trans c2
          have hcN : wr.cell? ⟨d, 3, none⟩ = some (S [p2, q2]) := (HB.cell hd).trans c3
          have hq0 : wr.cell? ⟨w1.heap.size, o2.toNat, none⟩ = some noV := by rw [HS.cell o2]; simp [lk]
          obtain ⟨tv, hl, ho, hn⟩ := HS.last
          have hob := UInt8.toNat_lt o2
          have hob' : ((o2.toNat : Nat) : Int) < 256 := by omega
          have cv := conv1 o2
          have hx : ((ByteArray.mk #[o2])[0]'(Nat.zero_lt_one)) = o2 := rfl
          have heq : ∀ w, (binOp .eql 96 noV noV).run Tryz.prog w = .ok (.bool true) w := eq_nil
          have HO := Lib.hid ho
          have HN := Lib.hid hn
          have HL := Lib.hid hl
          clear ho hn
          have hnew : ((wr.alloc (.cells #[.int .u8 (o2.toNat : Int)] 5)).alloc (.cells #[S [o2]] 9)).heap[wr.heap.size + 1]? = some (.cells #[S [o2]] 9 (0, 0)) := by
            have := heap_alloc_new (wr.alloc (.cells #[.int .u8 (o2.toNat : Int)] 5)) (.cells #[S [o2]] 9)
            simpa using this
          have HNEW := Lib.hid (one_cell hnew)
          have hszB : w.heap.size ≤ ((wr.alloc (.cells #[.int .u8 (o2.toNat : Int)] 5)).alloc (.cells #[S [o2]] 9)).heap.size := by simp; omega
          clear hnew
          go_wp2_with (at_builtin; refine wpList_append_own _ rfl _ _ 133 rfl w.heap.size 9 i0 _ 1 16 Tryz.underlying133 hi hz0 hz1 hz2 rfl (by decide) _ _ _ rfl ((HO.out.alloc _).alloc _) ⟨wr.heap.size + 1, 0, none⟩ 1 1 [S [o2]] rfl rfl HNEW.out (one_one _) (by simp [maxLen]) (by simp) hszB ?_)
          rintro v' w3 hown' hgrow' -
          have HS2 := (HS.alloc (.cells #[.int .u8 (o2.toNat : Int)] 5)).alloc (.cells #[S [o2]] 9)
          have hl2 := cell_past (HS.alloc (.cells #[.int .u8 (o2.toNat : Int)] 5)).lt (cell_past HS.lt HL.out (.cells #[.int .u8 (o2.toNat : Int)] 5)) (.cells #[S [o2]] 9)
          obtain ⟨HS3, cq, fq⟩ := HS2.more hszB hl2 (x := S [o2]) hown' hgrow'
          have HB2 := (HB.alloc hd0 (.cells #[.int .u8 (o2.toNat : Int)] 5)).alloc (by simp; omega) (.cells #[S [o2]] 9)
          have HB3 := ((HB2.grown hgrow' hszB (own_ge (HO.out))).setCell (p := ⟨w1.heap.size, 256, none⟩) HS.le v')
          obtain ⟨ao, n', cap', rfl⟩ := own_slice hown'
          have hcv := run_bytes_of_string (P := Tryz.prog) (w3.setCell ⟨w1.heap.size, 256, none⟩ (.slice ao n' cap')) 9 96 5 ⟨#[p2, q2]⟩ Tryz.underlying9 Tryz.underlying96 Tryz.underlying5
          obtain ⟨gc, hgc⟩ : ∃ gc, grownCap (w3.setCell ⟨w1.heap.size, 256, none⟩ (.slice ao n' cap')) (ByteArray.mk #[p2, q2]).size 0 5 = gc := ⟨_, rfl⟩
          rw [hgc] at hcv
          have hz4 : w.heap.size ≤ (w3.setCell ⟨w1.heap.size, 256, none⟩ (.slice ao n' cap')).heap.size := HB3.size
          have HS4 := HS3.alloc (.cells (bytesRow ⟨#[p2, q2]⟩ gc) 5 ((bytesRow ⟨#[p2, q2]⟩ gc).size, (bytesRow ⟨#[p2, q2]⟩ gc).size + 1))
          have HB4 := HB3.alloc hz4 (.cells (bytesRow ⟨#[p2, q2]⟩ gc) 5 ((bytesRow ⟨#[p2, q2]⟩ gc).size, (bytesRow ⟨#[p2, q2]⟩ gc).size + 1))
          have cq4 : ((w3.setCell ⟨w1.heap.size, 256, none⟩ (.slice ao n' cap')).alloc (.cells (bytesRow ⟨#[p2, q2]⟩ gc) 5 ((bytesRow ⟨#[p2, q2]⟩ gc).size, (bytesRow ⟨#[p2, q2]⟩ gc).size + 1))).cell? ⟨w1.heap.size, o2.toNat, none⟩ = some noV := by rw [HS4.cell o2]; simp [lk]
          have fq4 := HS4.frozen o2.toNat
          have Y := bytes_new (w3.setCell ⟨w1.heap.size, 256, none⟩ (.slice ao n' cap')) p2 q2 gc
          rw [Deep.nblk_setCell] at Y
          have HF1 := Lib.hid (HB4.setCell (p := ⟨w1.heap.size, o2.toNat, none⟩) HS.le (.slice (some ⟨w3.heap.size, 0, none⟩) 2 gc)).drew
          have HF2 := Lib.hid (HS4.put o2 (.slice (some ⟨w3.heap.size, 0, none⟩) 2 gc)).drew
          have HF3 := Lib.hid (Y.put HS4 o2 (.slice (some ⟨w3.heap.size, 0, none⟩) 2 gc)).drew
          have hob3 : ((ByteArray.mk #[p2, q2]).size) = 2 := rfl
          clear HS HS2 HS3 HS4 HB HB2 HB3 HB4 Y hown' hgrow' HNEW hl2
          go_wp2
          go_roundw
          case rel => exact ⟨HF1.out, Or.inr (Or.inl ⟨rfl, _, HF2.out, HF3.out⟩)⟩
          case measure => simp [intOf]
        · have hd0 : w.heap.size ≤ wr.heap.size := HB.size
          have hcO : wr.cell? ⟨d, 0, none⟩ = some (S [o1]) := (HB.cell hd).trans c0
          have hcN : wr.cell? ⟨d, 1, none⟩ = some (S [p1, q1]) := (HB.cell hd).trans c1
          have hq0 : wr.cell? ⟨w1.heap.size, o1.toNat, none⟩ = some noV := by rw [HS.cell o1]; simp [lk, hne]
          obtain ⟨tv, hl, ho, hn⟩ := HS.last
          have hob := UInt8.toNat_lt o1
          have hob' : ((o1.toNat : Nat) : Int) < 256 := by omega
          have cv := conv1 o1
          have hx : ((ByteArray.mk #[o1])[0]'(Nat.zero_lt_one)) = o1 := rfl
          have heq : ∀ w, (binOp .eql 96 noV noV).run Tryz.prog w = .ok (.bool true) w := eq_nil
          have HO := Lib.hid ho
          have HN := Lib.hid hn
          have HL := Lib.hid hl
          clear ho hn
          have hnew : ((wr.alloc (.cells #[.int .u8 (o1.toNat : Int)] 5)).alloc (.cells #[S [o1]] 9)).heap[wr.heap.size + 1]? = some (.cells #[S [o1]] 9 (0, 0)) := by
            have := heap_alloc_new (wr.alloc (.cells #[.int .u8 (o1.toNat : Int)] 5)) (.cells #[S [o1]] 9)
            simpa using this
          have HNEW := Lib.hid (one_cell hnew)
          have hszB : w.heap.size ≤ ((wr.alloc (.cells #[.int .u8 (o1.toNat : Int)] 5)).alloc (.cells #[S [o1]] 9)).heap.size := by simp; omega
          clear hnew
          go_wp2_with (at_builtin; refine wpList_append_own _ rfl _ _ 133 rfl w.heap.size 9 i0 _ 1 16 Tryz.underlying133 hi hz0 hz1 hz2 rfl (by decide) _ _ _ rfl ((HO.out.alloc _).alloc _) ⟨wr.heap.size + 1, 0, none⟩ 1 1 [S [o1]] rfl rfl HNEW.out (one_one _) (by simp [maxLen]) (by simp) hszB ?_)
          rintro v' w3 hown' hgrow' -
          have HS2 := (HS.alloc (.cells #[.int .u8 (o1.toNat : Int)] 5)).alloc (.cells #[S [o1]] 9)
          have hl2 := cell_past (HS.alloc (.cells #[.int .u8 (o1.toNat : Int)] 5)).lt (cell_past HS.lt HL.out (.cells #[.int .u8 (o1.toNat : Int)] 5)) (.cells #[S [o1]] 9)
          have YA := ((Y2.alloc (.cells #[.int .u8 (o1.toNat : Int)] 5)).alloc (.cells #[S [o1]] 9)).more HS2 hl2 hgrow' (u := v')
          obtain ⟨HS3, cq, fq⟩ := HS2.more hszB hl2 (x := S [o1]) hown' hgrow'
          have HB2 := (HB.alloc hd0 (.cells #[.int .u8 (o1.toNat : Int)] 5)).alloc (by simp; omega) (.cells #[S [o1]] 9)
          have HB3 := ((HB2.grown hgrow' hszB (own_ge (HO.out))).setCell (p := ⟨w1.heap.size, 256, none⟩) HS.le v')
          obtain ⟨ao, n', cap', rfl⟩ := own_slice hown'
          have hcv := run_bytes_of_string (P := Tryz.prog) (w3.setCell ⟨w1.heap.size, 256, none⟩ (.slice ao n' cap')) 9 96 5 ⟨#[p1, q1]⟩ Tryz.underlying9 Tryz.underlying96 Tryz.underlying5
          obtain ⟨gc, hgc⟩ : ∃ gc, grownCap (w3.setCell ⟨w1.heap.size, 256, none⟩ (.slice ao n' cap')) (ByteArray.mk #[p1, q1]).size 0 5 = gc := ⟨_, rfl⟩
          rw [hgc] at hcv
          have hz4 : w.heap.size ≤ (w3.setCell ⟨w1.heap.size, 256, none⟩ (.slice ao n' cap')).heap.size := HB3.size
          have HS4 := HS3.alloc (.cells (bytesRow ⟨#[p1, q1]⟩ gc) 5 ((bytesRow ⟨#[p1, q1]⟩ gc).size, (bytesRow ⟨#[p1, q1]⟩ gc).size + 1))
          have HB4 := HB3.alloc hz4 (.cells (bytesRow ⟨#[p1, q1]⟩ gc) 5 ((bytesRow ⟨#[p1, q1]⟩ gc).size, (bytesRow ⟨#[p1, q1]⟩ gc).size + 1))
          have cq4 : ((w3.setCell ⟨w1.heap.size, 256, none⟩ (.slice ao n' cap')).alloc (.cells (bytesRow ⟨#[p1, q1]⟩ gc) 5 ((bytesRow ⟨#[p1, q1]⟩ gc).size, (bytesRow ⟨#[p1, q1]⟩ gc).size + 1))).cell? ⟨w1.heap.size, o1.toNat, none⟩ = some noV := by rw [HS4.cell o1]; simp [lk, hne]
          have fq4 := HS4.frozen o1.toNat
          have Y := bytes_new (w3.setCell ⟨w1.heap.size, 256, none⟩ (.slice ao n' cap')) p1 q1 gc
          rw [Deep.nblk_setCell] at Y
          have HF1 := Lib.hid (HB4.setCell (p := ⟨w1.heap.size, o1.toNat, none⟩) HS.le (.slice (some ⟨w3.heap.size, 0, none⟩) 2 gc)).drew
          have HF2 := Lib.hid (HS4.put o1 (.slice (some ⟨w3.heap.size, 0, none⟩) 2 gc)).drew
          have HF3 := Lib.hid (Y.put HS4 o1 (.slice (some ⟨w3.heap.size, 0, none⟩) 2 gc)).drew
          have HF4 := Lib.hid ((YA.alloc (.cells (bytesRow ⟨#[p1, q1]⟩ gc) 5 ((bytesRow ⟨#[p1, q1]⟩ gc).size, (bytesRow ⟨#[p1, q1]⟩ gc).size + 1))).put HS4 o1 (.slice (some ⟨w3.heap.size, 0, none⟩) 2 gc)).drew
          have hob3 : ((ByteArray.mk #[p1, q1]).size) = 2 := rfl
          clear YA Y2 HS HS2 HS3 HS4 HB HB2 HB3 HB4 Y hown' hgrow' HNEW hl2
          go_wp2
          go_roundw
          case rel => exact ⟨HF1.out, Or.inr (Or.inr ⟨rfl, _, _, HF2.out, HF3.out, HF4.out⟩)⟩
          case measure => simp [intOf]
        · have HF1 := Lib.hid HB
          have HF2 := Lib.hid HS
          clear HB HS
          go_wp2
          go_ret
          exact ⟨w1.heap.size, v1, v2, rfl, HF1.out, HF2.out, Y1, Y2⟩
end Go.Proofs.YtinallojhkaogaaGreatDoor.Rp
