/- A replacer's first use: what it builds is laid into it, once. -/
import Derived.Test.YtinallojhkaogaaGreatDoorRpBuildPk
namespace Go.Proofs.YtinallojhkaogaaGreatDoor.Rp
open Go.RowKit
set_option linter.unusedVariables false
set_option linter.unusedSimpArgs false

theorem lt_of_heap {w : World} {k : Nat} {o : Obj} (h : w.heap[k]? = some o) : k < w.heap.size := by
  rcases Nat.lt_or_ge k w.heap.size with h' | h'
  · exact h'
  · rw [Array.getElem?_eq_none h'] at h; cases h
theorem Bs.below {B q M xs w} (h : Bs B q M xs w) {b : Nat} (hb : b < B) (i : Nat) (v : Value) : Bs B q M xs (w.setCell ⟨b, i, none⟩ v) := by
  obtain ⟨row, tv, hq, hs, hr, ht, ho, hn⟩ := h.row
  have := h.le
  exact ⟨⟨row, tv, (Deep.blk_setCell_other w _ v q (by show q ≠ b; omega)).trans hq, hs, hr, ht, ownsRow_setCell_below ho hb v, hn⟩, h.le⟩
theorem Bytes.other {w : World} {v : Value} {l : List UInt8} (h : Bytes w v l) {b i : Nat} {cs : Array Value} {fz : Nat × Nat} (hb : w.heap[b]? = some (.cells cs 149 fz)) (u : Value) : Bytes (w.setCell ⟨b, i, none⟩ u) v l := by
  obtain ⟨s, cap, cells, fz', hv, hs, hc⟩ := h
  have hne : s ≠ b := by
    rintro rfl
    rw [hs] at hb
    have := (Obj.cells.injEq .. ▸ Option.some.inj hb : _ ∧ _ ∧ _)
    exact absurd this.2.1 (by decide)
  exact ⟨s, cap, cells, fz', hv, (Deep.blk_setCell_other w _ u s hne).trans hs, hc⟩
/-- What a replacer holds that was used: the built one at q. -/
structure Used (B b : Nat) (o1 o2 p1 q1 p2 q2 : UInt8) (x0 x1 x2 : Value) (w : World) : Prop where
  ex : ∃ q v1 v2, w.heap[b]? = some (.cells #[x0, x1, x2, .iface 217 (.pointer (some ⟨q, 0, none⟩)), .slice none 0 0] 149 (0, 0)) ∧
    Bs B q [(o1, v1), (o2, v2)] [S [o2], S [o1]] w ∧ Bytes w v1 [p1, q1] ∧ Bytes w v2 [p2, q2]
  lt : b < B
theorem Used.drew {B b o1 o2 p1 q1 p2 q2 x0 x1 x2 w} (h : Used B b o1 o2 p1 q1 p2 q2 x0 x1 x2 w) : Used B b o1 o2 p1 q1 p2 q2 x0 x1 x2 w.drew := by
  obtain ⟨q, v1, v2, h1, h2, h3, h4⟩ := h.ex
  exact ⟨⟨q, v1, v2, h1, h2.drew, h3.drew, h4.drew⟩, h.lt⟩
theorem Used.set0 {B b o1 o2 p1 q1 p2 q2 x0 x1 x2 w} (h : Used B b o1 o2 p1 q1 p2 q2 x0 x1 x2 w) (u : Value) : Used B b o1 o2 p1 q1 p2 q2 u x1 x2 (w.setCell ⟨b, 0, none⟩ u) := by
  obtain ⟨q, v1, v2, h1, h2, h3, h4⟩ := h.ex
  exact ⟨⟨q, v1, v2, heap_set_same h1, h2.below h.lt 0 u, h3.other h1 u, h4.other h1 u⟩, h.lt⟩
theorem Used.set1 {B b o1 o2 p1 q1 p2 q2 x0 x1 x2 w} (h : Used B b o1 o2 p1 q1 p2 q2 x0 x1 x2 w) (u : Value) : Used B b o1 o2 p1 q1 p2 q2 x0 u x2 (w.setCell ⟨b, 1, none⟩ u) := by
  obtain ⟨q, v1, v2, h1, h2, h3, h4⟩ := h.ex
  exact ⟨⟨q, v1, v2, heap_set_same h1, h2.below h.lt 1 u, h3.other h1 u, h4.other h1 u⟩, h.lt⟩
set_option maxRecDepth 100000 in
set_option maxHeartbeats 1600000 in
theorem buildOnce_any (b d cap : Nat) (o1 o2 p1 q1 p2 q2 : UInt8) (hne : o1 ≠ o2) (x0 x1 x2 : Value) (w : World)
    (hb : w.heap[b]? = some (.cells #[x0, x1, x2, .nilIface, .slice (some ⟨d, 0, none⟩) 4 cap] 149 (0, 0)))
    (hd : ∃ cur, w.heap[d]? = some (.cells cur 9 (0, 0)) ∧ cur.toList.take 4 = [S [o1], S [p1, q1], S [o2], S [p2, q2]]) :
    Calls Tryz.prog 83 #[.pointer (some ⟨b, 0, none⟩)] w fun e w' => e = .returned (.tuple #[]) ∧ Used w.heap.size b o1 o2 p1 q1 p2 q2 x0 x1 x2 w' ∧ Below b w w' := by
  obtain ⟨cur, hc, ht⟩ := hd
  have cell : ∀ j u, [S [o1], S [p1, q1], S [o2], S [p2, q2]][j]? = some u → w.cell? ⟨d, j, none⟩ = some u := by
    intro j u hj
    rw [Lib.cell_of_heap hc]
    rw [← ht, List.getElem?_take] at hj
    split at hj
    · simpa using hj
    · cases hj
  have c0 := cell 0 _ rfl
  have c1 := cell 1 _ rfl
  have c2 := cell 2 _ rfl
  have c3 := cell 3 _ rfl
  have h4 : w.cell? ⟨b, 4, none⟩ = some (.slice (some ⟨d, 0, none⟩) 4 cap) := by rw [Lib.cell_of_heap hb]; rfl
  have hlt := lt_of_heap hb
  have HC := Lib.hid (build_any b d cap o1 o2 p1 q1 p2 q2 hne w h4 c0 c1 c2 c3)
  clear cell c0 c1 c2 c3 h4 hc ht
  go_enter Tryz.func83, Tryz.ntmps83
  go_wp2_with (go_at_call 110; refine HC.out.mono ?_)
  rintro e w1 ⟨q, v1, v2, rfl, HB, HS, Y1, Y2⟩
  have hb1 : w1.heap[b]? = some (.cells #[x0, x1, x2, .nilIface, .slice (some ⟨d, 0, none⟩) 4 cap] 149 (0, 0)) := (HB.block b hlt).trans hb
  have g3 : w1.cell? ⟨b, 3, none⟩ = some .nilIface := by rw [Lib.cell_of_heap hb1]; rfl
  have z3 : w1.frozen? ⟨b, 3, none⟩ = false := Lib.frozen_of_heap hb1 3
  have hb2 := heap_set_same (i := 3) (v := .iface 217 (.pointer (some ⟨q, 0, none⟩))) hb1
  have g4 : (w1.setCell ⟨b, 3, none⟩ (.iface 217 (.pointer (some ⟨q, 0, none⟩)))).cell? ⟨b, 4, none⟩ = some (.slice (some ⟨d, 0, none⟩) 4 cap) := by rw [Lib.cell_of_heap hb2]; rfl
  have z4 : (w1.setCell ⟨b, 3, none⟩ (.iface 217 (.pointer (some ⟨q, 0, none⟩)))).frozen? ⟨b, 4, none⟩ = false := Lib.frozen_of_heap hb2 4
  have hb3 := heap_set_same (i := 4) (v := .slice none 0 0) hb2
  have HU : Hid (Used w.heap.size b o1 o2 p1 q1 p2 q2 x0 x1 x2 ((w1.setCell ⟨b, 3, none⟩ (.iface 217 (.pointer (some ⟨q, 0, none⟩)))).setCell ⟨b, 4, none⟩ (.slice none 0 0))) :=
    Lib.hid ⟨⟨q, v1, v2, hb3, (HS.below hlt 3 _).below hlt 4 _, (Y1.other hb1 _).other hb2 _, (Y2.other hb1 _).other hb2 _⟩, hlt⟩
  have HL : Hid (Below b w ((w1.setCell ⟨b, 3, none⟩ (.iface 217 (.pointer (some ⟨q, 0, none⟩)))).setCell ⟨b, 4, none⟩ (.slice none 0 0))) :=
    Lib.hid (((HB.mono (B' := b) (Nat.le_of_lt hlt)).setCell (p := ⟨b, 3, none⟩) (Nat.le_refl _) _).setCell (p := ⟨b, 4, none⟩) (Nat.le_refl _) _)
  clear HS Y1 Y2 HB hb hb1 hb2 hb3
  go_wp2
  go_end0
  exact ⟨rfl, HU.out, HL.out⟩
theorem cf_once : ∀ args w, (callFunc 83 args).run Tryz.prog w = .ok (.enter 83 args) w := fun _ _ => by kernel_rfl
/-- The replacer's once, done the first time. -/
theorem once_any (b d : Nat) (o1 o2 p1 q1 p2 q2 : UInt8) (hne : o1 ≠ o2) (w : World) (h : Made b d (S [o1]) (S [p1, q1]) (S [o2]) (S [p2, q2]) w) :
    Calls Tryz.prog 82 #[.pointer (some ⟨b, 0, none⟩), .func (.func 83) #[.pointer (some ⟨b, 0, none⟩)] #[]] w fun e w' => e = .returned (.tuple #[]) ∧
      Used w.heap.size b o1 o2 p1 q1 p2 q2 (.int .u32 1) (.int .i32 0) (.int .u32 0) w' ∧ Below b w w' := by
  obtain ⟨cap, hb⟩ := h.rep
  obtain ⟨cur, hd, ht⟩ := h.old
  have hb1 := heap_set_same (i := 1) (v := .int .i32 1) hb
  have hsz : (w.setCell ⟨b, 1, none⟩ (.int .i32 1)).heap.size = w.heap.size := Deep.nblk_setCell _ _ _
  have hO := buildOnce_any b d cap o1 o2 p1 q1 p2 q2 hne (.int .u32 0) (.int .i32 1) (.int .u32 0) (w.setCell ⟨b, 1, none⟩ (.int .i32 1)) hb1 ⟨cur, (Deep.blk_setCell_other w _ _ d h.ne).trans hd, ht⟩
  rw [hsz] at hO
  refine (do_first b 83 #[.pointer (some ⟨b, 0, none⟩)] (fun w2 => Used w.heap.size b o1 o2 p1 q1 p2 q2 (.int .u32 0) (.int .i32 1) (.int .u32 0) w2 ∧ Below b w w2) w (by rw [Lib.cell_of_heap hb]; rfl) (by rw [Lib.cell_of_heap hb]; rfl) (Lib.frozen_of_heap hb 0) (Lib.frozen_of_heap hb 1) cf_once (hO.mono ?_)).mono ?_
  · rintro e w' ⟨rfl, hu, hl⟩
    obtain ⟨q, v1, v2, hh, _⟩ := hu.ex
    refine ⟨rfl, by rw [Lib.cell_of_heap hh]; rfl, by rw [Lib.cell_of_heap hh]; rfl, Lib.frozen_of_heap hh 0, Lib.frozen_of_heap hh 1, hu, ?_⟩
    exact ((Below.refl b w).setCell (p := ⟨b, 1, none⟩) (Nat.le_refl _) _).trans hl
  · rintro e w' ⟨rfl, w2, ⟨hu, hl⟩, rfl⟩
    exact ⟨rfl, (hu.drew.set0 _).set1 _, ((hl.drew).setCell (p := ⟨b, 0, none⟩) (Nat.le_refl _) _).setCell (p := ⟨b, 1, none⟩) (Nat.le_refl _) _⟩
end Go.Proofs.YtinallojhkaogaaGreatDoor.Rp
