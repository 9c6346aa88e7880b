/- A replacer of three bytes: built the first time that it is used. -/
import Derived.Test.YtinallojhkaogaaGreatDoorRqBPk
import Derived.Test.YtinallojhkaogaaGreatDoorRpDoPk
namespace Go.Proofs.YtinallojhkaogaaGreatDoor.Rq
open Go.RowKit
open Go.Proofs.YtinallojhkaogaaGreatDoor.Rp (S heap_set_same do_first cf_once lt_of_heap)
set_option linter.unusedVariables false
set_option linter.unusedSimpArgs false
theorem Bq.other {B q D w} (h : Bq B q D w) {b : Nat} {cs : Array Value} {fz : Nat × Nat} (hb : w.heap[b]? = some (.cells cs 149 fz)) (hlt : b < B) (i : Nat) (u : Value) : Bq B q D (w.setCell ⟨b, i, none⟩ u) := by
  obtain ⟨M, h1, h2, h3⟩ := h.ex
  exact ⟨M, h1.below hlt i u, h2, fun y hy => ⟨(h3 y hy).1.other hb u, (h3 y hy).2⟩⟩
/-- What a replacer holds that was used: the built one at q. -/
structure Used (B b : Nat) (t : List Tp) (x0 x1 x2 : Value) (w : World) : Prop where
  ex : ∃ q, w.heap[b]? = some (.cells #[x0, x1, x2, .iface 217 (.pointer (some ⟨q, 0, none⟩)), .slice none 0 0] 149 (0, 0)) ∧ Bq B q t w
  lt : b < B
theorem Used.drew {B b t x0 x1 x2 w} (h : Used B b t x0 x1 x2 w) : Used B b t x0 x1 x2 w.drew := by
  obtain ⟨q, h1, h2⟩ := h.ex
  exact ⟨⟨q, h1, h2.drew⟩, h.lt⟩
theorem Used.set0 {B b t x0 x1 x2 w} (h : Used B b t x0 x1 x2 w) (u : Value) : Used B b t u x1 x2 (w.setCell ⟨b, 0, none⟩ u) := by
  obtain ⟨q, h1, h2⟩ := h.ex
  exact ⟨⟨q, heap_set_same h1, h2.other h1 h.lt 0 u⟩, h.lt⟩
theorem Used.set1 {B b t x0 x1 x2 w} (h : Used B b t x0 x1 x2 w) (u : Value) : Used B b t x0 u x2 (w.setCell ⟨b, 1, none⟩ u) := by
  obtain ⟨q, h1, h2⟩ := h.ex
  exact ⟨⟨q, heap_set_same h1, h2.other h1 h.lt 1 u⟩, h.lt⟩
set_option maxRecDepth 100000 in
set_option maxHeartbeats 1600000 in
/-- All other blocks stand. -/
def Oth (b : Nat) (w w' : World) : Prop := ∀ (g : Nat) (o : Obj), g ≠ b → w.heap[g]? = some o → w'.heap[g]? = some o
theorem Oth.set {b i : Nat} {w w' : World} {v : Value} (h : Oth b w w') : Oth b w (w'.setCell ⟨b, i, none⟩ v) := fun g o h1 h2 => (Deep.blk_setCell_other w' _ v g h1).trans (h g o h1 h2)
theorem Oth.of {b : Nat} {w w' : World} (h : Below w.heap.size w w') : Oth b w w' := fun g o _ h2 => (h.block g (lt_of_heap h2)).trans h2
set_option maxRecDepth 100000 in
set_option maxHeartbeats 1600000 in
theorem buildOnce_any (b d cap : Nat) (t : List Tp) (ht3 : t.length = 3) (hnd : (t.map (·.o)).Nodup) (x0 x1 x2 : Value) (w : World)
    (hb : w.heap[b]? = some (.cells #[x0, x1, x2, .nilIface, .slice (some ⟨d, 0, none⟩) 6 cap] 149 (0, 0)))
    (hd : ∃ cur, w.heap[d]? = some (.cells cur 9 (0, 0)) ∧ cur.toList.take 6 = fl t) :
    Calls Tryz.prog 83 #[.pointer (some ⟨b, 0, none⟩)] w fun e w' => e = .returned (.tuple #[]) ∧ Used w.heap.size b t x0 x1 x2 w' ∧ Below b w w' ∧ Oth b w w' := by
  obtain ⟨cur, hc, ht⟩ := hd
  have cell : ∀ j u, (fl t)[j]? = some u → w.cell? ⟨d, j, none⟩ = some u := by
    intro j u hj
    rw [Lib.cell_of_heap hc]
    rw [← ht, List.getElem?_take] at hj
    split at hj
    · simpa using hj
    · cases hj
  have h4 : w.cell? ⟨b, 4, none⟩ = some (.slice (some ⟨d, 0, none⟩) 6 cap) := by rw [Lib.cell_of_heap hb]; rfl
  have hlt := lt_of_heap hb
  have HC := Lib.hid (build_any b d cap t ht3 hnd w h4 cell)
  clear cell h4 hc ht
  go_enter Tryz.func83, Tryz.ntmps83
  go_wp2_with (go_at_call 110; refine HC.out.mono ?_)
  rintro e w1 ⟨q, rfl, HB, HS⟩
  have hb1 : w1.heap[b]? = some (.cells #[x0, x1, x2, .nilIface, .slice (some ⟨d, 0, none⟩) 6 cap] 149 (0, 0)) := (HB.block b hlt).trans hb
  have g3 : w1.cell? ⟨b, 3, none⟩ = some .nilIface := by rw [Lib.cell_of_heap hb1]; rfl
  have z3 : w1.frozen? ⟨b, 3, none⟩ = false := Lib.frozen_of_heap hb1 3
  have hb2 := heap_set_same (i := 3) (v := .iface 217 (.pointer (some ⟨q, 0, none⟩))) hb1
  have g4 : (w1.setCell ⟨b, 3, none⟩ (.iface 217 (.pointer (some ⟨q, 0, none⟩)))).cell? ⟨b, 4, none⟩ = some (.slice (some ⟨d, 0, none⟩) 6 cap) := by rw [Lib.cell_of_heap hb2]; rfl
  have z4 : (w1.setCell ⟨b, 3, none⟩ (.iface 217 (.pointer (some ⟨q, 0, none⟩)))).frozen? ⟨b, 4, none⟩ = false := Lib.frozen_of_heap hb2 4
  have hb3 := heap_set_same (i := 4) (v := .slice none 0 0) hb2
  have HU : Hid (Used w.heap.size b t x0 x1 x2 ((w1.setCell ⟨b, 3, none⟩ (.iface 217 (.pointer (some ⟨q, 0, none⟩)))).setCell ⟨b, 4, none⟩ (.slice none 0 0))) :=
    Lib.hid ⟨⟨q, hb3, (HS.other hb1 hlt 3 _).other hb2 hlt 4 _⟩, hlt⟩
  have HL : Hid (Below b w ((w1.setCell ⟨b, 3, none⟩ (.iface 217 (.pointer (some ⟨q, 0, none⟩)))).setCell ⟨b, 4, none⟩ (.slice none 0 0))) :=
    Lib.hid (((HB.mono (B' := b) (Nat.le_of_lt hlt)).setCell (p := ⟨b, 3, none⟩) (Nat.le_refl _) _).setCell (p := ⟨b, 4, none⟩) (Nat.le_refl _) _)
  have HO : Hid (Oth b w ((w1.setCell ⟨b, 3, none⟩ (.iface 217 (.pointer (some ⟨q, 0, none⟩)))).setCell ⟨b, 4, none⟩ (.slice none 0 0))) := Lib.hid (Oth.of HB).set.set
  clear HS HB hb hb1 hb2 hb3
  go_wp2
  go_end0
  exact ⟨rfl, HU.out, HL.out, HO.out⟩
/-- The replacer's once, done the first time. -/
theorem once_any (b d : Nat) (t : List Tp) (ht3 : t.length = 3) (hnd : (t.map (·.o)).Nodup) (w : World) (h : Made b d t w) :
    Calls Tryz.prog 82 #[.pointer (some ⟨b, 0, none⟩), .func (.func 83) #[.pointer (some ⟨b, 0, none⟩)] #[]] w fun e w' => e = .returned (.tuple #[]) ∧
      Used w.heap.size b t (.int .u32 1) (.int .i32 0) (.int .u32 0) w' ∧ Below b w w' ∧ Oth b w w' := by
  obtain ⟨cap, hb⟩ := h.rep
  obtain ⟨cur, hd, ht⟩ := h.old
  have hb1 := heap_set_same (i := 1) (v := .int .i32 1) hb
  have hsz : (w.setCell ⟨b, 1, none⟩ (.int .i32 1)).heap.size = w.heap.size := Deep.nblk_setCell _ _ _
  have hO := buildOnce_any b d cap t ht3 hnd (.int .u32 0) (.int .i32 1) (.int .u32 0) (w.setCell ⟨b, 1, none⟩ (.int .i32 1)) hb1 ⟨cur, (Deep.blk_setCell_other w _ _ d h.ne).trans hd, ht⟩
  rw [hsz] at hO
  refine (do_first b 83 #[.pointer (some ⟨b, 0, none⟩)] (fun w2 => Used w.heap.size b t (.int .u32 0) (.int .i32 1) (.int .u32 0) w2 ∧ Below b w w2 ∧ Oth b w w2) w (by rw [Lib.cell_of_heap hb]; rfl) (by rw [Lib.cell_of_heap hb]; rfl) (Lib.frozen_of_heap hb 0) (Lib.frozen_of_heap hb 1) cf_once (hO.mono ?_)).mono ?_
  · rintro e w' ⟨rfl, hu, hl, ho⟩
    obtain ⟨q, hh, _⟩ := hu.ex
    refine ⟨rfl, by rw [Lib.cell_of_heap hh]; rfl, by rw [Lib.cell_of_heap hh]; rfl, Lib.frozen_of_heap hh 0, Lib.frozen_of_heap hh 1, hu, ?_, fun g o h1 h2 => ho g o h1 ((Deep.blk_setCell_other w _ _ g h1).trans h2)⟩
    exact ((Below.refl b w).setCell (p := ⟨b, 1, none⟩) (Nat.le_refl _) _).trans hl
  · rintro e w' ⟨rfl, w2, ⟨hu, hl, ho⟩, rfl⟩
    exact ⟨rfl, (hu.drew.set0 _).set1 _, ((hl.drew).setCell (p := ⟨b, 0, none⟩) (Nat.le_refl _) _).setCell (p := ⟨b, 1, none⟩) (Nat.le_refl _) _, (show Oth b w w2.drew from ho).set.set⟩
end Go.Proofs.YtinallojhkaogaaGreatDoor.Rq
