/- The document's text of a pattern: the walks. The document's text of a pattern, whole; Text: the walks. The document's Fold: the walk. -/
import Derived.Test.YtdjedjfanfbbcaaGreatDoorTk
import Derived.Test.YtdjedjfanfbbcaaGreatDoorRrD
import Derived.Test.YtdjedjfanfbbcaaGreatDoorRxSh
import Derived.Test.YtdjedjfanfbbcaaGreatDoorSmA
import Derived.Laws.Concat
import Derived.Test.YtdjedjfanfbbcaaGreatDoorRxFw
namespace Go.Proofs.YtdjedjfanfbbcaaGreatDoor.Rx
open Go.RowKit Go.Shelf
open Tr
open Go.Proofs.YtdjedjfanfbbcaaGreatDoor.St (Wf word zeroW bytesL told_any refBytes_any BV mem SV SV_eq bytesL_len bytesN_len)
set_option linter.unusedVariables false
set_option linter.unusedSimpArgs false
/-- A node in a block of its own. -/
structure NX (w0 : World) (n : Nd) (w : World) : Prop where
  nb : w.heap[w0.heap.size]? = some (.cells (NC n) 54 (0, 0))
  bel : Below w0.heap.size w0 w
theorem NX.below {w0 w w' : World} {n : Nd} (h : NX w0 n w) (hb : Below w.heap.size w w') : NX w0 n w' := ⟨(hb.block _ (lt_heap' h.nb)).trans h.nb, h.bel.trans (hb.mono h.bel.size)⟩
theorem NX.cells {w0 w : World} {n : Nd} (h : NX w0 n w) :
    w.cell? ⟨w0.heap.size, 0, none⟩ = some (E n.k) ∧ w.cell? ⟨w0.heap.size, 1, none⟩ = some (U (word n.s 0)) ∧ w.cell? ⟨w0.heap.size, 2, none⟩ = some (U (word n.s 1)) ∧ w.cell? ⟨w0.heap.size, 3, none⟩ = some (U (word n.s 2)) ∧ w.cell? ⟨w0.heap.size, 4, none⟩ = some (U (word n.s 3)) ∧ w.cell? ⟨w0.heap.size, 5, none⟩ = some (E n.a) ∧ w.cell? ⟨w0.heap.size, 6, none⟩ = some (E n.b) ∧ w.cell? ⟨w0.heap.size, 7, none⟩ = some (E n.mn) ∧ w.cell? ⟨w0.heap.size, 8, none⟩ = some (E n.mx) ∧ w.cell? ⟨w0.heap.size, 9, none⟩ = some (E n.n) :=
  ⟨(Lib.cell_of_heap h.nb 0).trans rfl, (Lib.cell_of_heap h.nb 1).trans rfl, (Lib.cell_of_heap h.nb 2).trans rfl, (Lib.cell_of_heap h.nb 3).trans rfl, (Lib.cell_of_heap h.nb 4).trans rfl, (Lib.cell_of_heap h.nb 5).trans rfl, (Lib.cell_of_heap h.nb 6).trans rfl, (Lib.cell_of_heap h.nb 7).trans rfl, (Lib.cell_of_heap h.nb 8).trans rfl, (Lib.cell_of_heap h.nb 9).trans rfl⟩
theorem itoa_len' {n : Int} (h0 : -1 ≤ n) (h : n ≤ 255) : (Lib.itoa n).length ≤ 20 := by
  unfold Lib.itoa
  split
  · have := dec_len2 n.natAbs (by omega)
    simp; omega
  · have := dec_len2 n.toNat (by omega)
    omega
theorem nx_new (w : World) (n : Nd) : NX w n (w.alloc (.cells (NC n) 54)) := ⟨heap_alloc_new _ _, (Below.refl _ _).alloc (Nat.le_refl _) _⟩
set_option maxRecDepth 100000 in
set_option maxHeartbeats 1600000 in
theorem txt_0 (w : World) (b0 o0 L c i : Nat) (hi : (i : Int) < (L : Int)) (z : List Nat) (a b mn mx m : Int) (hN : NCell w b0 (o0 + i * 10) ⟨0, z, a, b, mn, mx, m⟩) :
    Calls Tryz.prog 30 #[.slice (some ⟨b0, o0, none⟩) L c, E (i : Nat)] w fun e w' => e = .returned (S ([101])) ∧ Below w.heap.size w w' := by
  have hi0 : (0 : Int) ≤ (i : Int) := by omega
  obtain ⟨q0, q1, q2, q3, q4, q5, q6, q7, q8, q9⟩ := hN
  have hlb0 : b0 < w.heap.size := lt_cell q0
  have HX0 := Lib.hid (nx_new w ⟨0, z, a, b, mn, mx, m⟩)
  go_enter Tryz.func30, Tryz.ntmps30
  go_wp2
  go_ret
  exact ⟨rfl, HX0.out.bel⟩
set_option maxRecDepth 100000 in
set_option maxHeartbeats 1600000 in
theorem txt_2 (w : World) (b0 o0 L c i : Nat) (hi : (i : Int) < (L : Int)) (z : List Nat) (a b mn mx m : Int) (hN : NCell w b0 (o0 + i * 10) ⟨2, z, a, b, mn, mx, m⟩) :
    Calls Tryz.prog 30 #[.slice (some ⟨b0, o0, none⟩) L c, E (i : Nat)] w fun e w' => e = .returned (S ([94])) ∧ Below w.heap.size w w' := by
  have hi0 : (0 : Int) ≤ (i : Int) := by omega
  obtain ⟨q0, q1, q2, q3, q4, q5, q6, q7, q8, q9⟩ := hN
  have hlb0 : b0 < w.heap.size := lt_cell q0
  have HX0 := Lib.hid (nx_new w ⟨2, z, a, b, mn, mx, m⟩)
  go_enter Tryz.func30, Tryz.ntmps30
  go_wp2
  go_ret
  exact ⟨rfl, HX0.out.bel⟩
set_option maxRecDepth 100000 in
set_option maxHeartbeats 1600000 in
theorem txt_3 (w : World) (b0 o0 L c i : Nat) (hi : (i : Int) < (L : Int)) (z : List Nat) (a b mn mx m : Int) (hN : NCell w b0 (o0 + i * 10) ⟨3, z, a, b, mn, mx, m⟩) :
    Calls Tryz.prog 30 #[.slice (some ⟨b0, o0, none⟩) L c, E (i : Nat)] w fun e w' => e = .returned (S ([36])) ∧ Below w.heap.size w w' := by
  have hi0 : (0 : Int) ≤ (i : Int) := by omega
  obtain ⟨q0, q1, q2, q3, q4, q5, q6, q7, q8, q9⟩ := hN
  have hlb0 : b0 < w.heap.size := lt_cell q0
  have HX0 := Lib.hid (nx_new w ⟨3, z, a, b, mn, mx, m⟩)
  go_enter Tryz.func30, Tryz.ntmps30
  go_wp2
  go_ret
  exact ⟨rfl, HX0.out.bel⟩
set_option maxRecDepth 100000 in
set_option maxHeartbeats 1600000 in
theorem txt_1 (w : World) (b0 o0 L c i : Nat) (hi : (i : Int) < (L : Int)) (z : List Nat) (a b mn mx m : Int) (hz : Wf z) (hN : NCell w b0 (o0 + i * 10) ⟨1, z, a, b, mn, mx, m⟩) :
    Calls Tryz.prog 30 #[.slice (some ⟨b0, o0, none⟩) L c, E (i : Nat)] w fun e w' => e = .returned (S (91 :: ((bytesL z).flatMap hexB ++ [93]))) ∧ Below w.heap.size w w' := by
  have hi0 : (0 : Int) ≤ (i : Int) := by omega
  obtain ⟨q0, q1, q2, q3, q4, q5, q6, q7, q8, q9⟩ := hN
  have hlb0 : b0 < w.heap.size := lt_cell q0
  have HX0 := Lib.hid (nx_new w ⟨1, z, a, b, mn, mx, m⟩)
  have HTD := Lib.hid (fun W => by have h1 := told_any z W hz; rw [SV_eq hz] at h1; exact h1)
  have HBY := Lib.hid (fun W => refBytes_any z W)
  have hbl : (bytesL z).length ≤ 256 := by rw [bytesL_len]; exact bytesN_len z
  have HHX := Lib.hid (fun W => hex_any (bytesL z) (by omega) W)
  have hx : ∀ l : List UInt8, (l.flatMap hexB).length = 2 * l.length := by
    intro l
    induction l with
    | nil => rfl
    | cons b r ih => rw [List.flatMap_cons, List.length_append, ih]; simp [hexB]; omega
  have hhl := hx (bytesL z)
  clear hx hz
  generalize (bytesL z).flatMap hexB = h at *
  generalize bytesL z = bs at *
  have c1 := fun w => run_string_add_lists (P := Tryz.prog) w [91] h (by first | decide | omega | (simp; omega)) (by first | decide | omega)
  have c2 := fun w => run_string_add_lists (P := Tryz.prog) w (91 :: h) [93] (by first | decide | omega | (simp; omega)) (by first | decide | omega)
  go_enter Tryz.func30, Tryz.ntmps30
  go_wp2_with (first
    | (go_at_call 35; refine (HTD.out _).mono ?_; rintro e w2 ⟨rfl, hb⟩; have HX2 := Lib.hid (HX0.out.below hb); clear hb)
    | (go_at_call 55; refine (HBY.out _).mono ?_; rintro e w3 ⟨rfl, hb⟩; have HX3 := Lib.hid (HX2.out.below hb); clear hb)
    | (go_at_call 41; refine (HHX.out _).mono ?_; rintro e w4 ⟨rfl, hb⟩; have HX4 := Lib.hid (HX3.out.below hb); clear hb))
  go_ret
  exact ⟨rfl, HX4.out.bel⟩
set_option maxRecDepth 100000 in
set_option maxHeartbeats 1600000 in
theorem txt_8 (w : World) (b0 o0 L c i : Nat) (hi : (i : Int) < (L : Int)) (z : List Nat) (a b mn mx m : Int) (h1 : 1 ≤ m) (h9 : m ≤ 9) (hN : NCell w b0 (o0 + i * 10) ⟨8, z, a, b, mn, mx, m⟩) :
    Calls Tryz.prog 30 #[.slice (some ⟨b0, o0, none⟩) L c, E (i : Nat)] w fun e w' => e = .returned (S (92 :: Lib.itoa m)) ∧ Below w.heap.size w w' := by
  have hi0 : (0 : Int) ≤ (i : Int) := by omega
  obtain ⟨q0, q1, q2, q3, q4, q5, q6, q7, q8, q9⟩ := hN
  have hlb0 : b0 < w.heap.size := lt_cell q0
  have HX0 := Lib.hid (nx_new w ⟨8, z, a, b, mn, mx, m⟩)
  have HD := Lib.hid (fun W => digits_itoa (n := m) (by omega) (by omega) W)
  have hil : (Lib.itoa m).length ≤ 10 := by rw [itoa_digit (by omega) h9]; simp
  generalize Lib.itoa m = x at *
  have c1 := fun w => run_string_add_lists (P := Tryz.prog) w [92] x (by first | decide | omega | (simp; omega)) (by first | decide | omega)
  go_enter Tryz.func30, Tryz.ntmps30
  go_wp2_with (go_at_call 56; refine (HD.out _).mono ?_; rintro e w2 ⟨rfl, hb⟩; have HX2 := Lib.hid (HX0.out.below hb); clear hb)
  go_ret
  exact ⟨rfl, HX2.out.bel⟩
set_option maxRecDepth 100000 in
set_option maxHeartbeats 1600000 in
theorem txt_7 (w : World) (b0 o0 L c i : Nat) (hi : (i : Int) < (L : Int)) (z : List Nat) (a : Nat) (b mn mx m : Int) (x : List UInt8) (hxl : x.length ≤ 200000) (HTa : Hid (∀ W, Below w.heap.size w W → Calls Tryz.prog 30 #[.slice (some ⟨b0, o0, none⟩) L c, E (a : Nat)] W fun e w' => e = .returned (S x) ∧ Below W.heap.size W w')) (hN : NCell w b0 (o0 + i * 10) ⟨7, z, (a : Nat), b, mn, mx, m⟩) :
    Calls Tryz.prog 30 #[.slice (some ⟨b0, o0, none⟩) L c, E (i : Nat)] w fun e w' => e = .returned (S (40 :: (x ++ [41]))) ∧ Below w.heap.size w w' := by
  have hi0 : (0 : Int) ≤ (i : Int) := by omega
  obtain ⟨q0, q1, q2, q3, q4, q5, q6, q7, q8, q9⟩ := hN
  have hlb0 : b0 < w.heap.size := lt_cell q0
  have HX0 := Lib.hid (nx_new w ⟨7, z, (a : Nat), b, mn, mx, m⟩)
  have c1 := fun w => run_string_add_lists (P := Tryz.prog) w [40] x (by first | decide | omega | (simp; omega)) (by first | decide | omega)
  have c2 := fun w => run_string_add_lists (P := Tryz.prog) w (40 :: x) [41] (by first | decide | omega | (simp; omega)) (by first | decide | omega)
  go_enter Tryz.func30, Tryz.ntmps30
  go_wp2_with (go_at_call 30; refine (HTa.out _ HX0.out.bel).mono ?_; rintro e w2 ⟨rfl, hb⟩; have HX2 := Lib.hid (HX0.out.below hb); clear hb)
  go_ret
  exact ⟨rfl, HX2.out.bel⟩
set_option maxRecDepth 100000 in
set_option maxHeartbeats 1600000 in
theorem txt_4 (w : World) (b0 o0 L c i : Nat) (hi : (i : Int) < (L : Int)) (z : List Nat) (a b : Nat) (mn mx m : Int) (x y : List UInt8) (hxl : x.length ≤ 200000) (hyl : y.length ≤ 200000) (HTa : Hid (∀ W, Below w.heap.size w W → Calls Tryz.prog 30 #[.slice (some ⟨b0, o0, none⟩) L c, E (a : Nat)] W fun e w' => e = .returned (S x) ∧ Below W.heap.size W w')) (HTb : Hid (∀ W, Below w.heap.size w W → Calls Tryz.prog 30 #[.slice (some ⟨b0, o0, none⟩) L c, E (b : Nat)] W fun e w' => e = .returned (S y) ∧ Below W.heap.size W w')) (hN : NCell w b0 (o0 + i * 10) ⟨4, z, (a : Nat), (b : Nat), mn, mx, m⟩) :
    Calls Tryz.prog 30 #[.slice (some ⟨b0, o0, none⟩) L c, E (i : Nat)] w fun e w' => e = .returned (S (38 :: (x ++ y))) ∧ Below w.heap.size w w' := by
  have hi0 : (0 : Int) ≤ (i : Int) := by omega
  obtain ⟨q0, q1, q2, q3, q4, q5, q6, q7, q8, q9⟩ := hN
  have hlb0 : b0 < w.heap.size := lt_cell q0
  have HX0 := Lib.hid (nx_new w ⟨4, z, (a : Nat), (b : Nat), mn, mx, m⟩)
  have c1 := fun w => run_string_add_lists (P := Tryz.prog) w [38] x (by first | decide | omega | (simp; omega)) (by first | decide | omega)
  have c2 := fun w => run_string_add_lists (P := Tryz.prog) w (38 :: x) y (by first | decide | omega | (simp; omega)) (by first | decide | omega)
  go_enter Tryz.func30, Tryz.ntmps30
  go_wp2
  refine at_world (p := fun W => NX w ⟨4, z, (a : Nat), (b : Nat), mn, mx, m⟩ W) HX0.out (fun W2 hW2 => ?_)
  have HSD := Lib.hid (hW2.below (Below.refl _ _).drew)
  clear hW2
  refine wp_region_noPanic ?_
  refine wp_region_held_drew (S := fun w' => NX w ⟨4, z, (a : Nat), (b : Nat), mn, mx, m⟩ w') (by kernel_rfl) ?_ (fun hHeld => ?_)
  · (try dsimp only); exact HSD.out
  clear HSD
  generalize World.drew _ = W3 at *
  refine Tk.take 0 (hy := by (intro w hSw; (try dsimp only at hSw); (obtain ⟨p0, p1, p2, p3, p4, p5, p6, p7, p8, p9⟩ := hSw.cells); go_simp) <;> with_reducible rfl) (h := ?_)
  refine Tk.take 1 (hy := by (intro w hSw; (try dsimp only at hSw); (obtain ⟨p0, p1, p2, p3, p4, p5, p6, p7, p8, p9⟩ := hSw.cells); go_simp) <;> with_reducible rfl) (h := ?_)
  refine Tk.take 2 (hy := by (intro w hSw; (try dsimp only at hSw); (obtain ⟨p0, p1, p2, p3, p4, p5, p6, p7, p8, p9⟩ := hSw.cells); go_simp) <;> with_reducible rfl) (h := ?_)
  refine Tk.take 5 (hy := by (intro w hSw; (try dsimp only at hSw); (obtain ⟨p0, p1, p2, p3, p4, p5, p6, p7, p8, p9⟩ := hSw.cells); go_simp) <;> with_reducible rfl) (h := ?_)
  refine Tk.take 6 (hy := by (intro w hSw; (try dsimp only at hSw); (obtain ⟨p0, p1, p2, p3, p4, p5, p6, p7, p8, p9⟩ := hSw.cells); go_simp) <;> with_reducible rfl) (h := ?_)
  refine Tk.take 7 (hy := by (intro w hSw; (try dsimp only at hSw); (obtain ⟨p0, p1, p2, p3, p4, p5, p6, p7, p8, p9⟩ := hSw.cells); go_simp) <;> with_reducible rfl) (h := ?_)
  refine wpAnyH_ready (rs := [3]) (by kernel_rfl) (by simp) ?_
  refine AllReadyH.cons (o := ?o3t4) ?hi3t4 (fun K hK => ?st3t4) AllReadyH.nil
  case hi3t4 => simp only [List.getElem?_toArray, List.getElem?_cons_succ, List.getElem?_cons_zero]; rfl
  go_simp
  (go_at_call 30; refine (HTa.out _ hHeld.bel).mono ?_; rintro e w7 ⟨rfl, hbl⟩)
  refine hK.out _ _ ?_ (fun hHeld => ?_)
  · (try dsimp only); (exact NX.below hHeld hbl)
  clear hK K
  try simp only [Act.put, List.setIfInBounds_toArray, List.set_cons_zero, List.set_cons_succ]
  refine Tk.take 4 (hy := by (intro w hSw; (try dsimp only at hSw); (obtain ⟨p0, p1, p2, p3, p4, p5, p6, p7, p8, p9⟩ := hSw.cells); go_simp) <;> with_reducible rfl) (h := ?_)
  refine wpAnyH_ready (rs := [8]) (by kernel_rfl) (by simp) ?_
  refine AllReadyH.cons (o := ?o8t4) ?hi8t4 (fun K hK => ?st8t4) AllReadyH.nil
  case hi8t4 => simp only [List.getElem?_toArray, List.getElem?_cons_succ, List.getElem?_cons_zero]; rfl
  go_simp
  (go_at_call 30; refine (HTb.out _ hHeld.bel).mono ?_; rintro e w8 ⟨rfl, hbl⟩)
  refine hK.out _ _ ?_ (fun hHeld => ?_)
  · (try dsimp only); (exact NX.below hHeld hbl)
  clear hK K
  try simp only [Act.put, List.setIfInBounds_toArray, List.set_cons_zero, List.set_cons_succ]
  refine Tk.take 9 (hy := by (intro w hSw; (try dsimp only at hSw); (obtain ⟨p0, p1, p2, p3, p4, p5, p6, p7, p8, p9⟩ := hSw.cells); go_simp) <;> with_reducible rfl) (h := ?_)
  refine Tk.take 10 (hy := by (intro w hSw; (try dsimp only at hSw); (obtain ⟨p0, p1, p2, p3, p4, p5, p6, p7, p8, p9⟩ := hSw.cells); go_simp) <;> with_reducible rfl) (h := ?_)
  refine wpAnyH_done (by kernel_rfl) ?_ _
  refine NoPanic.normal ?_
  have HF := Lib.hid hHeld.bel
  clear hHeld
  go_wp2
  go_ret
  exact ⟨rfl, HF.out⟩
set_option maxRecDepth 100000 in
set_option maxHeartbeats 1600000 in
theorem txt_5 (w : World) (b0 o0 L c i : Nat) (hi : (i : Int) < (L : Int)) (z : List Nat) (a b : Nat) (mn mx m : Int) (x y : List UInt8) (hxl : x.length ≤ 200000) (hyl : y.length ≤ 200000) (HTa : Hid (∀ W, Below w.heap.size w W → Calls Tryz.prog 30 #[.slice (some ⟨b0, o0, none⟩) L c, E (a : Nat)] W fun e w' => e = .returned (S x) ∧ Below W.heap.size W w')) (HTb : Hid (∀ W, Below w.heap.size w W → Calls Tryz.prog 30 #[.slice (some ⟨b0, o0, none⟩) L c, E (b : Nat)] W fun e w' => e = .returned (S y) ∧ Below W.heap.size W w')) (hN : NCell w b0 (o0 + i * 10) ⟨5, z, (a : Nat), (b : Nat), mn, mx, m⟩) :
    Calls Tryz.prog 30 #[.slice (some ⟨b0, o0, none⟩) L c, E (i : Nat)] w fun e w' => e = .returned (S (124 :: (x ++ y))) ∧ Below w.heap.size w w' := by
  have hi0 : (0 : Int) ≤ (i : Int) := by omega
  obtain ⟨q0, q1, q2, q3, q4, q5, q6, q7, q8, q9⟩ := hN
  have hlb0 : b0 < w.heap.size := lt_cell q0
  have HX0 := Lib.hid (nx_new w ⟨5, z, (a : Nat), (b : Nat), mn, mx, m⟩)
  have c1 := fun w => run_string_add_lists (P := Tryz.prog) w [124] x (by first | decide | omega | (simp; omega)) (by first | decide | omega)
  have c2 := fun w => run_string_add_lists (P := Tryz.prog) w (124 :: x) y (by first | decide | omega | (simp; omega)) (by first | decide | omega)
  go_enter Tryz.func30, Tryz.ntmps30
  go_wp2
  refine at_world (p := fun W => NX w ⟨5, z, (a : Nat), (b : Nat), mn, mx, m⟩ W) HX0.out (fun W2 hW2 => ?_)
  have HSD := Lib.hid (hW2.below (Below.refl _ _).drew)
  clear hW2
  refine wp_region_noPanic ?_
  refine wp_region_held_drew (S := fun w' => NX w ⟨5, z, (a : Nat), (b : Nat), mn, mx, m⟩ w') (by kernel_rfl) ?_ (fun hHeld => ?_)
  · (try dsimp only); exact HSD.out
  clear HSD
  generalize World.drew _ = W3 at *
  refine Tk.take 0 (hy := by (intro w hSw; (try dsimp only at hSw); (obtain ⟨p0, p1, p2, p3, p4, p5, p6, p7, p8, p9⟩ := hSw.cells); go_simp) <;> with_reducible rfl) (h := ?_)
  refine Tk.take 1 (hy := by (intro w hSw; (try dsimp only at hSw); (obtain ⟨p0, p1, p2, p3, p4, p5, p6, p7, p8, p9⟩ := hSw.cells); go_simp) <;> with_reducible rfl) (h := ?_)
  refine Tk.take 2 (hy := by (intro w hSw; (try dsimp only at hSw); (obtain ⟨p0, p1, p2, p3, p4, p5, p6, p7, p8, p9⟩ := hSw.cells); go_simp) <;> with_reducible rfl) (h := ?_)
  refine Tk.take 5 (hy := by (intro w hSw; (try dsimp only at hSw); (obtain ⟨p0, p1, p2, p3, p4, p5, p6, p7, p8, p9⟩ := hSw.cells); go_simp) <;> with_reducible rfl) (h := ?_)
  refine Tk.take 6 (hy := by (intro w hSw; (try dsimp only at hSw); (obtain ⟨p0, p1, p2, p3, p4, p5, p6, p7, p8, p9⟩ := hSw.cells); go_simp) <;> with_reducible rfl) (h := ?_)
  refine Tk.take 7 (hy := by (intro w hSw; (try dsimp only at hSw); (obtain ⟨p0, p1, p2, p3, p4, p5, p6, p7, p8, p9⟩ := hSw.cells); go_simp) <;> with_reducible rfl) (h := ?_)
  refine wpAnyH_ready (rs := [3]) (by kernel_rfl) (by simp) ?_
  refine AllReadyH.cons (o := ?o3t5) ?hi3t5 (fun K hK => ?st3t5) AllReadyH.nil
  case hi3t5 => simp only [List.getElem?_toArray, List.getElem?_cons_succ, List.getElem?_cons_zero]; rfl
  go_simp
  (go_at_call 30; refine (HTa.out _ hHeld.bel).mono ?_; rintro e w7 ⟨rfl, hbl⟩)
  refine hK.out _ _ ?_ (fun hHeld => ?_)
  · (try dsimp only); (exact NX.below hHeld hbl)
  clear hK K
  try simp only [Act.put, List.setIfInBounds_toArray, List.set_cons_zero, List.set_cons_succ]
  refine Tk.take 4 (hy := by (intro w hSw; (try dsimp only at hSw); (obtain ⟨p0, p1, p2, p3, p4, p5, p6, p7, p8, p9⟩ := hSw.cells); go_simp) <;> with_reducible rfl) (h := ?_)
  refine wpAnyH_ready (rs := [8]) (by kernel_rfl) (by simp) ?_
  refine AllReadyH.cons (o := ?o8t5) ?hi8t5 (fun K hK => ?st8t5) AllReadyH.nil
  case hi8t5 => simp only [List.getElem?_toArray, List.getElem?_cons_succ, List.getElem?_cons_zero]; rfl
  go_simp
  (go_at_call 30; refine (HTb.out _ hHeld.bel).mono ?_; rintro e w8 ⟨rfl, hbl⟩)
  refine hK.out _ _ ?_ (fun hHeld => ?_)
  · (try dsimp only); (exact NX.below hHeld hbl)
  clear hK K
  try simp only [Act.put, List.setIfInBounds_toArray, List.set_cons_zero, List.set_cons_succ]
  refine Tk.take 9 (hy := by (intro w hSw; (try dsimp only at hSw); (obtain ⟨p0, p1, p2, p3, p4, p5, p6, p7, p8, p9⟩ := hSw.cells); go_simp) <;> with_reducible rfl) (h := ?_)
  refine Tk.take 10 (hy := by (intro w hSw; (try dsimp only at hSw); (obtain ⟨p0, p1, p2, p3, p4, p5, p6, p7, p8, p9⟩ := hSw.cells); go_simp) <;> with_reducible rfl) (h := ?_)
  refine wpAnyH_done (by kernel_rfl) ?_ _
  refine NoPanic.normal ?_
  have HF := Lib.hid hHeld.bel
  clear hHeld
  go_wp2
  go_ret
  exact ⟨rfl, HF.out⟩
set_option maxRecDepth 100000 in
set_option maxHeartbeats 1600000 in
theorem txt_6 (w : World) (b0 o0 L c i : Nat) (hi : (i : Int) < (L : Int)) (z : List Nat) (a : Nat) (b mn mx m : Int) (x : List UInt8) (hxl : x.length ≤ 200000) (h0 : 0 ≤ mn) (h1 : mn ≤ 255) (h2 : -1 ≤ mx) (h3 : mx ≤ 255) (HTa : Hid (∀ W, Below w.heap.size w W → Calls Tryz.prog 30 #[.slice (some ⟨b0, o0, none⟩) L c, E (a : Nat)] W fun e w' => e = .returned (S x) ∧ Below W.heap.size W w')) (hN : NCell w b0 (o0 + i * 10) ⟨6, z, (a : Nat), b, mn, mx, m⟩) :
    Calls Tryz.prog 30 #[.slice (some ⟨b0, o0, none⟩) L c, E (i : Nat)] w fun e w' => e = .returned (S (42 :: (Lib.itoa mn ++ 44 :: (Lib.itoa mx ++ 59 :: x)))) ∧ Below w.heap.size w w' := by
  have hi0 : (0 : Int) ≤ (i : Int) := by omega
  obtain ⟨q0, q1, q2, q3, q4, q5, q6, q7, q8, q9⟩ := hN
  have hlb0 : b0 < w.heap.size := lt_cell q0
  have HX0 := Lib.hid (nx_new w ⟨6, z, (a : Nat), b, mn, mx, m⟩)
  have HD1 := Lib.hid (fun W => digits_itoa (n := mn) (by omega) (by omega) W)
  have HD2 := Lib.hid (fun W => digits_itoa (n := mx) (by omega) (by omega) W)
  have hi1 := itoa_len' (n := mn) (by omega) (by omega)
  have hi2 := itoa_len' (n := mx) (by omega) (by omega)
  generalize Lib.itoa mn = u at *
  generalize Lib.itoa mx = v at *
  have c1 := fun w => run_string_add_lists (P := Tryz.prog) w [42] u (by first | decide | omega | (simp; omega)) (by first | decide | omega)
  have c2 := fun w => run_string_add_lists (P := Tryz.prog) w (42 :: u) [44] (by first | decide | omega | (simp; omega)) (by first | decide | omega)
  have c3 := fun w => run_string_add_lists (P := Tryz.prog) w (42 :: (u ++ [44])) v (by first | decide | omega | (simp; omega)) (by first | decide | omega)
  have c4 := fun w => run_string_add_lists (P := Tryz.prog) w (42 :: (u ++ 44 :: v)) [59] (by first | decide | omega | (simp; omega)) (by first | decide | omega)
  have c5 := fun w => run_string_add_lists (P := Tryz.prog) w (42 :: (u ++ 44 :: (v ++ [59]))) x (by first | decide | omega | (simp; omega)) (by first | decide | omega)
  go_enter Tryz.func30, Tryz.ntmps30
  go_wp2
  refine at_world (p := fun W => NX w ⟨6, z, (a : Nat), b, mn, mx, m⟩ W) HX0.out (fun W2 hW2 => ?_)
  have HSD := Lib.hid (hW2.below (Below.refl _ _).drew)
  clear hW2
  refine wp_region_noPanic ?_
  refine wp_region_held_drew (S := fun w' => NX w ⟨6, z, (a : Nat), b, mn, mx, m⟩ w') (by kernel_rfl) ?_ (fun hHeld => ?_)
  · (try dsimp only); exact HSD.out
  clear HSD
  generalize World.drew _ = W3 at *
  refine Tk.take 0 (hy := by (intro w hSw; (try dsimp only at hSw); (obtain ⟨p0, p1, p2, p3, p4, p5, p6, p7, p8, p9⟩ := hSw.cells); go_simp) <;> with_reducible rfl) (h := ?_)
  refine Tk.take 1 (hy := by (intro w hSw; (try dsimp only at hSw); (obtain ⟨p0, p1, p2, p3, p4, p5, p6, p7, p8, p9⟩ := hSw.cells); go_simp) <;> with_reducible rfl) (h := ?_)
  refine Tk.take 5 (hy := by (intro w hSw; (try dsimp only at hSw); (obtain ⟨p0, p1, p2, p3, p4, p5, p6, p7, p8, p9⟩ := hSw.cells); go_simp) <;> with_reducible rfl) (h := ?_)
  refine Tk.take 6 (hy := by (intro w hSw; (try dsimp only at hSw); (obtain ⟨p0, p1, p2, p3, p4, p5, p6, p7, p8, p9⟩ := hSw.cells); go_simp) <;> with_reducible rfl) (h := ?_)
  refine Tk.take 10 (hy := by (intro w hSw; (try dsimp only at hSw); (obtain ⟨p0, p1, p2, p3, p4, p5, p6, p7, p8, p9⟩ := hSw.cells); go_simp) <;> with_reducible rfl) (h := ?_)
  refine Tk.take 11 (hy := by (intro w hSw; (try dsimp only at hSw); (obtain ⟨p0, p1, p2, p3, p4, p5, p6, p7, p8, p9⟩ := hSw.cells); go_simp) <;> with_reducible rfl) (h := ?_)
  refine Tk.take 12 (hy := by (intro w hSw; (try dsimp only at hSw); (obtain ⟨p0, p1, p2, p3, p4, p5, p6, p7, p8, p9⟩ := hSw.cells); go_simp) <;> with_reducible rfl) (h := ?_)
  refine wpAnyH_ready (rs := [2]) (by kernel_rfl) (by simp) ?_
  refine AllReadyH.cons (o := ?o2t6) ?hi2t6 (fun K hK => ?st2t6) AllReadyH.nil
  case hi2t6 => simp only [List.getElem?_toArray, List.getElem?_cons_succ, List.getElem?_cons_zero]; rfl
  go_simp
  (go_at_call 56; refine (HD1.out _).mono ?_; rintro e w7 ⟨rfl, hbl⟩)
  refine hK.out _ _ ?_ (fun hHeld => ?_)
  · (try dsimp only); (exact NX.below hHeld hbl)
  clear hK K
  try simp only [Act.put, List.setIfInBounds_toArray, List.set_cons_zero, List.set_cons_succ]
  refine Tk.take 3 (hy := by (intro w hSw; (try dsimp only at hSw); (obtain ⟨p0, p1, p2, p3, p4, p5, p6, p7, p8, p9⟩ := hSw.cells); go_simp) <;> with_reducible rfl) (h := ?_)
  refine Tk.take 4 (hy := by (intro w hSw; (try dsimp only at hSw); (obtain ⟨p0, p1, p2, p3, p4, p5, p6, p7, p8, p9⟩ := hSw.cells); go_simp) <;> with_reducible rfl) (h := ?_)
  refine wpAnyH_ready (rs := [7]) (by kernel_rfl) (by simp) ?_
  refine AllReadyH.cons (o := ?o7t6) ?hi7t6 (fun K hK => ?st7t6) AllReadyH.nil
  case hi7t6 => simp only [List.getElem?_toArray, List.getElem?_cons_succ, List.getElem?_cons_zero]; rfl
  go_simp
  (go_at_call 56; refine (HD2.out _).mono ?_; rintro e w8 ⟨rfl, hbl⟩)
  refine hK.out _ _ ?_ (fun hHeld => ?_)
  · (try dsimp only); (exact NX.below hHeld hbl)
  clear hK K
  try simp only [Act.put, List.setIfInBounds_toArray, List.set_cons_zero, List.set_cons_succ]
  refine Tk.take 8 (hy := by (intro w hSw; (try dsimp only at hSw); (obtain ⟨p0, p1, p2, p3, p4, p5, p6, p7, p8, p9⟩ := hSw.cells); go_simp) <;> with_reducible rfl) (h := ?_)
  refine Tk.take 9 (hy := by (intro w hSw; (try dsimp only at hSw); (obtain ⟨p0, p1, p2, p3, p4, p5, p6, p7, p8, p9⟩ := hSw.cells); go_simp) <;> with_reducible rfl) (h := ?_)
  refine wpAnyH_ready (rs := [13]) (by kernel_rfl) (by simp) ?_
  refine AllReadyH.cons (o := ?o13t6) ?hi13t6 (fun K hK => ?st13t6) AllReadyH.nil
  case hi13t6 => simp only [List.getElem?_toArray, List.getElem?_cons_succ, List.getElem?_cons_zero]; rfl
  go_simp
  (go_at_call 30; refine (HTa.out _ hHeld.bel).mono ?_; rintro e w9 ⟨rfl, hbl⟩)
  refine hK.out _ _ ?_ (fun hHeld => ?_)
  · (try dsimp only); (exact NX.below hHeld hbl)
  clear hK K
  try simp only [Act.put, List.setIfInBounds_toArray, List.set_cons_zero, List.set_cons_succ]
  refine Tk.take 14 (hy := by (intro w hSw; (try dsimp only at hSw); (obtain ⟨p0, p1, p2, p3, p4, p5, p6, p7, p8, p9⟩ := hSw.cells); go_simp) <;> with_reducible rfl) (h := ?_)
  refine Tk.take 15 (hy := by (intro w hSw; (try dsimp only at hSw); (obtain ⟨p0, p1, p2, p3, p4, p5, p6, p7, p8, p9⟩ := hSw.cells); go_simp) <;> with_reducible rfl) (h := ?_)
  refine wpAnyH_done (by kernel_rfl) ?_ _
  refine NoPanic.normal ?_
  have HF := Lib.hid hHeld.bel
  clear hHeld
  go_wp2
  go_ret
  exact ⟨rfl, HF.out⟩
end Go.Proofs.YtdjedjfanfbbcaaGreatDoor.Rx
namespace Go.Proofs.YtdjedjfanfbbcaaGreatDoor.Rx
open Go.RowKit Go.Shelf
open Tr
open Go.Proofs.YtdjedjfanfbbcaaGreatDoor.St (Wf word bytesL)
set_option linter.unusedVariables false
set_option linter.unusedSimpArgs false
theorem txt_any (em : Prop) (b0 o0 c : Nat) (l : List Nd) : ∀ (t : Tr) (o : Nat) (w : World), At l t o → t.Fine em → SetsOk t → t.size ≤ 120 → Ns w (.slice (some ⟨b0, o0, none⟩) l.length c) l →
    Calls Tryz.prog 30 #[.slice (some ⟨b0, o0, none⟩) l.length c, E ((o + t.size - 1 : Nat) : Int)] w fun e w' => e = .returned (S (textT t)) ∧ Below w.heap.size w w'
  | t, o, w, ha, hf, hs, hz, hN => by
    obtain ⟨hlt, hc⟩ := ns_root hN ha
    have hi : ((o + t.size - 1 : Nat) : Int) < ((l.length : Nat) : Int) := by omega
    match t with
    | .e => exact txt_0 w b0 o0 l.length c _ hi _ _ _ _ _ _ hc
    | .set z => exact txt_1 w b0 o0 l.length c _ hi _ _ _ _ _ _ hs hc
    | .beg => exact txt_2 w b0 o0 l.length c _ hi _ _ _ _ _ _ hc
    | .fin => exact txt_3 w b0 o0 l.length c _ hi _ _ _ _ _ _ hc
    | .ref n => exact txt_8 w b0 o0 l.length c _ hi _ _ _ _ _ _ hf.1 hf.2 hc
    | .cat x y =>
      have px := size_pos x
      have py := size_pos y
      have hax := at_left (t := .cat x y) (x := x) (r := y.nodes (o + x.size) ++ [(Tr.cat x y).root o]) ha (by simp [nodes])
      have hay := at_right (t := .cat x y) (x := x) (y := y) (r := [(Tr.cat x y).root o]) ha (by simp [nodes])
      have hlx := text_len em x hf.1
      have hly := text_len em y hf.2.1
      simp only [size] at hz
      exact txt_4 w b0 o0 l.length c _ hi _ (o + x.size - 1) (o + x.size + y.size - 1) _ _ _ (textT x) (textT y) (by omega) (by omega)
        (Lib.hid fun W hb => txt_any em b0 o0 c l x o W hax hf.1 hs.1 (by omega) (hN.below hb)) (Lib.hid fun W hb => txt_any em b0 o0 c l y (o + x.size) W hay hf.2.1 hs.2 (by omega) (hN.below hb)) hc
    | .alt x y =>
      have px := size_pos x
      have py := size_pos y
      have hax := at_left (t := .alt x y) (x := x) (r := y.nodes (o + x.size) ++ [(Tr.alt x y).root o]) ha (by simp [nodes])
      have hay := at_right (t := .alt x y) (x := x) (y := y) (r := [(Tr.alt x y).root o]) ha (by simp [nodes])
      have hlx := text_len em x hf.1
      have hly := text_len em y hf.2.1
      simp only [size] at hz
      exact txt_5 w b0 o0 l.length c _ hi _ (o + x.size - 1) (o + x.size + y.size - 1) _ _ _ (textT x) (textT y) (by omega) (by omega)
        (Lib.hid fun W hb => txt_any em b0 o0 c l x o W hax hf.1 hs.1 (by omega) (hN.below hb)) (Lib.hid fun W hb => txt_any em b0 o0 c l y (o + x.size) W hay hf.2.1 hs.2 (by omega) (hN.below hb)) hc
    | .times mn mx x =>
      have px := size_pos x
      have hax := at_left (t := .times mn mx x) (x := x) (r := [(Tr.times mn mx x).root o]) ha (by simp [nodes])
      have hlx := text_len em x hf.1
      simp only [size] at hz
      have h2 : -1 ≤ mx ∧ mx ≤ 255 := by
        rcases hf.2.2.2.1 with q | q
        · omega
        · omega
      exact txt_6 w b0 o0 l.length c _ hi _ (o + x.size - 1) _ _ _ _ (textT x) (by omega) hf.2.1 hf.2.2.1 h2.1 h2.2
        (Lib.hid fun W hb => txt_any em b0 o0 c l x o W hax hf.1 hs (by omega) (hN.below hb)) hc
    | .grp n x =>
      have px := size_pos x
      have hax := at_left (t := .grp n x) (x := x) (r := [(Tr.grp n x).root o]) ha (by simp [nodes])
      have hlx := text_len em x hf.1
      simp only [size] at hz
      exact txt_7 w b0 o0 l.length c _ hi _ (o + x.size - 1) _ _ _ _ (textT x) (by omega)
        (Lib.hid fun W hb => txt_any em b0 o0 c l x o W hax hf.1 hs (by omega) (hN.below hb)) hc
set_option maxRecDepth 100000 in
set_option maxHeartbeats 800000 in
theorem rtext_any (ao : Option Addr) (c : Nat) (l : List Nd) (w : World) (hN : Ns w (.slice ao l.length c) l) (hw : ∀ n ∈ l, Wf n.s) :
    Calls Tryz.prog 17 #[.slice ao l.length c] w fun e w' => e = .returned (S (textL l)) ∧ Below w.heap.size w w' := by
  have HM0 := rmay_any ao c l w hN hw
  cases hm : mayL l
  · rw [hm] at HM0
    have HM := Lib.hid HM0
    have HT := Lib.hid (may_none hm)
    clear HM0 hm hN hw
    go_enter Tryz.func17, Tryz.ntmps17
    go_wp2_with (go_at_call 11; refine HM.out.mono ?_; rintro e w2 ⟨rfl, hb⟩; have HB := Lib.hid hb; clear hb)
    go_ret
    exact ⟨by rw [HT.out]; rfl, HB.out⟩
  · rw [hm] at HM0
    have HM := Lib.hid HM0
    obtain ⟨t, hp, h1, h2, h3⟩ := may_some hm
    have hs : l.length = t.size := by rw [h1, nodes_len]
    have hps := size_pos t
    obtain ⟨b0, o0, rfl, hdr⟩ := hN.at (i := 0) (by omega)
    clear hdr
    have hsets : SetsOk t := sets_nodes t 0 (by rw [← h1]; exact hw)
    have HT0 := fun W (hb : Below w.heap.size w W) => txt_any _ b0 o0 c l t 0 W (by rw [h1]; exact at_self t) h2.1 hsets h2.2.1 (hN.below hb)
    rw [show ((0 + t.size - 1 : Nat) : Int) = ((l.length : Nat) : Int) - 1 from by omega] at HT0
    have HT := Lib.hid HT0
    have HO := Lib.hid h3
    have hl120 : l.length ≤ 120 := by rw [hs]; exact h2.2.1
    have hl0 : 0 < l.length := by omega
    have hw1 : IntKind.i64.wrap (((l.length : Nat) : Int) - 1) = ((l.length : Nat) : Int) - 1 := by rw [IntKind.wrap_i64]; omega
    clear HM0 HT0 hm hN hw hp h1 h2 h3 hs hps hsets
    generalize textT t = tt at *
    go_enter Tryz.func17, Tryz.ntmps17
    go_wp2_with (first
      | (go_at_call 11; refine HM.out.mono ?_; rintro e w2 ⟨rfl, hb⟩; have HB := Lib.hid hb; clear hb)
      | (go_at_call 30; refine (HT.out _ HB.out).mono ?_; rintro e w3 ⟨rfl, hb⟩; have HB3 := Lib.hid (HB.out.trans (hb.mono HB.out.size)); clear hb))
    go_ret
    exact ⟨by rw [HO.out]; rfl, HB3.out⟩
end Go.Proofs.YtdjedjfanfbbcaaGreatDoor.Rx
namespace Go.Proofs.YtdjedjfanfbbcaaGreatDoor.Rx
open Go.RowKit Go.Shelf
open Go.Proofs.YtdjedjfanfbbcaaGreatDoor.St (Wf word zeroW SV SV_eq foldW wf_foldW' told_any refFold_any refWords_any fold_bytes foldB BV mem bc_congr)
set_option linter.unusedVariables false
set_option linter.unusedSimpArgs false
set_option maxRecDepth 100000 in
set_option maxHeartbeats 1600000 in
theorem rfold_any (b o c : Nat) (l : List Nd) (w : World) (h : Ns w (.slice (some ⟨b, o, none⟩) l.length c) l) (hw : ∀ n ∈ l, Wf n.s) (hL : Lay w) (hm : mayL l = true) (hl0 : 0 < l.length) (hl : l.length ≤ 120) :
    Calls Tryz.prog 19 #[.slice (some ⟨b, o, none⟩) l.length c] w fun e w' => ∃ g cap, e = .returned (.slice (some ⟨g, 0, none⟩) l.length cap) ∧ w'.ownsRow w.heap.size 54 10 (.slice (some ⟨g, 0, none⟩) l.length cap) l.length (flat (l.map foldN)) ∧ Below w.heap.size w w' := by
  have HM0 := rmay_any (some ⟨b, o, none⟩) c l w h hw
  rw [hm] at HM0
  have HM := Lib.hid HM0
  have HL := Lib.hid hL
  obtain ⟨i0, hi, hz0, hz1, hz2⟩ := info_parts infoRd
  have HNS := Lib.hid (fun W (hb : Below w.heap.size w W) => h.below hb)
  have HLF := Lib.hid (flat_len l)
  clear HM0 hL h hm
  go_enter Tryz.func19, Tryz.ntmps19
  go_wp2_with (first
    | (go_at_call 11; refine HM.out.mono ?_; rintro e w0 ⟨rfl, hb⟩; have HB0 := Lib.hid hb; clear hb; have HOm := Lib.hid (World.ownsRow_lit (size := 10) (e := 54) (base := w.heap.size) w0 #[] 0 HB0.out.size (by decide) rfl); have HN2 := Lib.hid (HNS.out _ (HB0.out.alloc HB0.out.size (.cells #[] 54))); have hsz0 := HB0.out.size)
    | (at_builtin; refine wpList_append_own _ rfl _ _ 27 rfl w.heap.size 54 i0 _ 10 80 Tryz.underlying27 hi hz0 hz1 hz2 rfl (by decide) _ _ _ rfl HOm.out ⟨b, o, none⟩ l.length c (flat l) rfl HLF.out (ns_news HN2.out) (flat_cells l) (by unfold maxLen; omega) (by omega) (by simp; omega) ?_))
  rintro v' w1 hown hgrow -
  have HB1 := Lib.hid ((HB0.out.alloc HB0.out.size (.cells #[] 54)).grown hgrow (by simp; omega) (own_ge HOm.out))
  obtain ⟨g, cap, rfl, hcap⟩ : ∃ g cap, v' = .slice (some ⟨g, 0, none⟩) l.length cap ∧ l.length ≤ cap := by
    rcases own_forms hown with ⟨rfl, h0⟩ | ⟨g, cap, rfl, hc⟩
    · omega
    · exact ⟨g, cap, by simp, by omega⟩
  have HO0 := Lib.hid (show w1.ownsRow w.heap.size 54 10 (.slice (some ⟨g, 0, none⟩) l.length cap) l.length (flat l) from by simpa using hown)
  clear hown hgrow
  go_wp2
  go_loopw [4] (fun i wr => ∃ (k : Nat), k ≤ l.length ∧ i = .int .i64 (k : Nat) ∧ Hid (wr.ownsRow w.heap.size 54 10 (.slice (some ⟨g, 0, none⟩) l.length cap) l.length (flat (mixL l k))) ∧ Hid (Below w.heap.size w wr)) (fun i _ => l.length - (intOf i).toNat)
  case atStart => exact ⟨0, Nat.zero_le _, rfl, Lib.hid (by have := HO0.out; simpa [mixL] using this), HB1⟩
  case round =>
    clear HO0 HB0 HB1
    obtain ⟨k, hk, rfl, HO, HB⟩ := hrel
    by_cases hlt : k < l.length
    · have hlt' : ((k : Nat) : Int) < ((l.length : Nat) : Int) := by omega
      have hml := mix_len l k hk
      have hmx := mix_at hlt
      have hwn : Wf l[k].s := hw _ (List.getElem_mem _)
      have hmk : k < (mixL l k).length := by omega
      have hme : (mixL l k)[k] = l[k] := by rw [List.getElem?_eq_getElem hmk] at hmx; exact Option.some.inj hmx
      have hc : ∀ r, r < 10 → ∀ W, Below wr.heap.size wr W → W.cell? ⟨g, k * 10 + r, none⟩ = (NC l[k])[r]? := fun r hr W hb => by
        rw [(own_below HO.out hb).cellAt _ (by omega), flat_get _ k hmk r hr, hme]
      have HC4 := Lib.hid hc
      have HFZ := Lib.hid (fun r W (hb : Below wr.heap.size wr W) => (own_below HO.out hb).frozenAt (k * 10 + r))
      have q1 := hc 1 (by decide) wr (Below.refl _ _)
      have q2 := hc 2 (by decide) wr (Below.refl _ _)
      have q3 := hc 3 (by decide) wr (Below.refl _ _)
      have q4 := hc 4 (by decide) wr (Below.refl _ _)
      clear hc
      have HN := Lib.hid (show mixL l (k + 1) = (mixL l k).set k ⟨(mixL l k)[k].k, foldW l[k].s, (mixL l k)[k].a, (mixL l k)[k].b, (mixL l k)[k].mn, (mixL l k)[k].mx, (mixL l k)[k].n⟩ from by rw [← mix_set hlt, hme]; rfl)
      have HTD := Lib.hid (fun W => by have h1 := told_any l[k].s W hwn; rw [SV_eq hwn] at h1; exact h1)
      have HFD := Lib.hid (fun W => by
        have h1 := refFold_any (mem l[k].s) W
        rw [show BV (foldB (mem l[k].s)) = BV (mem (foldW l[k].s)) from congrArg Value.agg (bc_congr fun i hi => fold_bytes hwn hi)] at h1
        exact h1)
      have HWD := Lib.hid (fun W => by have h1 := refWords_any (foldW l[k].s) W (wf_foldW' hwn); rw [SV_eq (wf_foldW' hwn)] at h1; exact h1)
      go_wp2_with (first
        | (go_at_call 35; refine (HTD.out _).mono ?_; rintro e wa ⟨rfl, hb⟩; have HBa := Lib.hid hb; clear hb)
        | (go_at_call 34; refine (HFD.out _).mono ?_; rintro e wb ⟨rfl, hb⟩; have HBb := Lib.hid (HBa.out.trans (hb.mono HBa.out.size)); clear hb)
        | (go_at_call 33; refine (HWD.out _).mono ?_; rintro e w2 ⟨rfl, hb⟩; have hb2 := HBb.out.trans (hb.mono HBb.out.size); clear hb; have HB2 := Lib.hid hb2; have p1 := HC4.out 1 (by decide) _ hb2; have p2 := HC4.out 2 (by decide) _ hb2; have p3 := HC4.out 3 (by decide) _ hb2; have p4 := HC4.out 4 (by decide) _ hb2; have z1 := HFZ.out 1 _ hb2; have z2 := HFZ.out 2 _ hb2; have z3 := HFZ.out 3 _ hb2; have z4 := HFZ.out 4 _ hb2; clear hb2))
      have hge := own_ge HO.out g rfl
      have O2 := (own_below HO.out HB2.out).stored (k * 10 + 1) (U (word (foldW l[k].s) 0))
      have O3 := O2.1.stored (k * 10 + 2) (U (word (foldW l[k].s) 1))
      have O4 := O3.1.stored (k * 10 + 3) (U (word (foldW l[k].s) 2))
      have O5 := O4.1.stored (k * 10 + 4) (U (word (foldW l[k].s) 3))
      refine ⟨⟨k + 1, by omega, by go_num, Lib.hid ?_, Lib.hid ?_⟩, by simp [intOf]; omega⟩
      · rw [HN.out, ← flat_set _ _ hmk]
        exact O5.1
      · exact ((((HB.out.trans (HB2.out.mono HB.out.size)).setCell hge _).setCell hge _).setCell hge _).setCell hge _
    · obtain rfl : k = l.length := by omega
      have HO2 := Lib.hid (show wr.ownsRow w.heap.size 54 10 (.slice (some ⟨g, 0, none⟩) l.length cap) l.length (flat (l.map foldN)) from by have := HO.out; simpa [mixL] using this)
      clear HO
      go_wp2
      go_ret
      exact ⟨g, cap, rfl, HO2.out, HB.out⟩
set_option maxRecDepth 100000 in
theorem rfold_none (ao : Option Addr) (c : Nat) (l : List Nd) (w : World) (h : Ns w (.slice ao l.length c) l) (hw : ∀ n ∈ l, Wf n.s) (hm : mayL l = false) :
    Calls Tryz.prog 19 #[.slice ao l.length c] w fun e w' => e = .returned (.slice none 0 0) ∧ Below w.heap.size w w' := by
  have HM0 := rmay_any ao c l w h hw
  rw [hm] at HM0
  have HM := Lib.hid HM0
  clear HM0 h hm hw
  go_enter Tryz.func19, Tryz.ntmps19
  go_wp2_with (go_at_call 11; refine HM.out.mono ?_; rintro e w0 ⟨rfl, hb⟩; have HB0 := Lib.hid hb; clear hb)
  go_ret
  exact ⟨rfl, HB0.out⟩
end Go.Proofs.YtdjedjfanfbbcaaGreatDoor.Rx
