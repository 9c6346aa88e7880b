/- The document's walk through a pattern: the walk, further kinds. The document's walk through a pattern: the walk, further kinds. The document's walk through a pattern: the walk, further kinds. -/
import Derived.Test.YtdjedjfanfbbcaaGreatDoorTk
import Derived.Test.YtdjedjfanfbbcaaGreatDoorRrW2
namespace Go.Proofs.YtdjedjfanfbbcaaGreatDoor.Rx
open Go.RowKit Go.Shelf
open Tr
open Go.Proofs.YtdjedjfanfbbcaaGreatDoor.St (Wf word zeroW wf_zero)
set_option linter.unusedVariables false
set_option linter.unusedSimpArgs false
set_option maxRecDepth 100000 in
set_option maxHeartbeats 3200000 in
theorem thr_61 (w : World) (b0 o0 L c i : Nat) (s : NSt) (hi : (i : Int) < (L : Int)) (z : List Nat) (a : Nat) (b mn mx m ka : Int) (f : NSt) (ha : (a : Int) < (L : Int)) (hka : w.cell? ⟨b0, o0 + a * 10, none⟩ = some (E ka)) (h1 : ka = 1) (HXa : Hid (∀ W, Below w.heap.size w W → Calls Tryz.prog 47 #[.slice (some ⟨b0, o0, none⟩) L c, E (a : Nat), WV (s)] W fun e w' => e = .returned (WV (f)) ∧ Below W.heap.size W w')) (hN : NCell w b0 (o0 + i * 10) ⟨6, z, (a : Nat), b, mn, mx, m⟩) :
    Calls Tryz.prog 47 #[.slice (some ⟨b0, o0, none⟩) L c, E (i : Nat), WV s] w fun e w' => e = .returned (WV (f)) ∧ Below w.heap.size w w' := by
  have hi0 : (0 : Int) ≤ (i : Int) := by omega
  obtain ⟨q0, q1, q2, q3, q4, q5, q6, q7, q8, q9⟩ := hN
  have hlb0 : b0 < w.heap.size := lt_cell q0
  have HS0 := Lib.hid (th_start w s ⟨6, z, (a : Nat), b, mn, mx, m⟩)
  subst h1
  go_enter Tryz.func47, Tryz.ntmps47
  rw [show Code.region 2 = Fz 2 from rfl]
  go_wp2
  refine at_world (p := fun W => TH w s ⟨6, z, (a : Nat), b, mn, mx, m⟩ W) HS0.out (fun W hW => ?_)
  have HS1 := Lib.hid hW
  clear hW HS0 q0 q1 q2 q3 q4 q5 q6 q7 q8 q9
  obtain ⟨x0, xa, xb, xn⟩ := HS1.out.cells; obtain ⟨⟨xw0, xw1, xw2, xw3, xw4, xw5, xw6, xw7, xw8, xw9, xw10, xw11, xw12⟩, xf⟩ := HS1.out.wb.cells
  rw [show Fz 2 = Code.region 2 from rfl]
  have ha0 : (0 : Int) ≤ ((a : Nat) : Int) := by omega
  have ca := (HS1.out.bel.cell (lt_cell hka)).trans hka
  go_wp2_with (go_at_call 47; refine (HXa.out _ HS1.out.bel).mono ?_; rintro e w3 ⟨rfl, hb⟩; have HS3 := Lib.hid (HS1.out.below hb); clear hb; obtain ⟨z0, hz0⟩ := HS3.out.rb; have HR := Lib.hid (rb_put hz0 f); have HBL := Lib.hid (put_below HS3.out.bel (Nat.le_succ _) f); obtain ⟨⟨y0, y1, y2, y3, y4, y5, y6, y7, y8, y9, y10, y11, y12⟩, yf⟩ := hz0.cells; clear hz0)
  exact bodyPost_ret (v := WV (f)) (ansW rfl rfl HR.out Tryz.underlying59) rfl ⟨rfl, HBL.out⟩
set_option maxRecDepth 100000 in
set_option maxHeartbeats 3200000 in
theorem thr_67 (w : World) (b0 o0 L c i : Nat) (s : NSt) (hi : (i : Int) < (L : Int)) (z : List Nat) (a : Nat) (b mn mx m ka : Int) (f : NSt) (ha : (a : Int) < (L : Int)) (hka : w.cell? ⟨b0, o0 + a * 10, none⟩ = some (E ka)) (h7 : ka = 7) (HXa : Hid (∀ W, Below w.heap.size w W → Calls Tryz.prog 47 #[.slice (some ⟨b0, o0, none⟩) L c, E (a : Nat), WV (s)] W fun e w' => e = .returned (WV (f)) ∧ Below W.heap.size W w')) (hN : NCell w b0 (o0 + i * 10) ⟨6, z, (a : Nat), b, mn, mx, m⟩) :
    Calls Tryz.prog 47 #[.slice (some ⟨b0, o0, none⟩) L c, E (i : Nat), WV s] w fun e w' => e = .returned (WV (f)) ∧ Below w.heap.size w w' := by
  have hi0 : (0 : Int) ≤ (i : Int) := by omega
  obtain ⟨q0, q1, q2, q3, q4, q5, q6, q7, q8, q9⟩ := hN
  have hlb0 : b0 < w.heap.size := lt_cell q0
  have HS0 := Lib.hid (th_start w s ⟨6, z, (a : Nat), b, mn, mx, m⟩)
  subst h7
  go_enter Tryz.func47, Tryz.ntmps47
  rw [show Code.region 2 = Fz 2 from rfl]
  go_wp2
  refine at_world (p := fun W => TH w s ⟨6, z, (a : Nat), b, mn, mx, m⟩ W) HS0.out (fun W hW => ?_)
  have HS1 := Lib.hid hW
  clear hW HS0 q0 q1 q2 q3 q4 q5 q6 q7 q8 q9
  obtain ⟨x0, xa, xb, xn⟩ := HS1.out.cells; obtain ⟨⟨xw0, xw1, xw2, xw3, xw4, xw5, xw6, xw7, xw8, xw9, xw10, xw11, xw12⟩, xf⟩ := HS1.out.wb.cells
  rw [show Fz 2 = Code.region 2 from rfl]
  have ha0 : (0 : Int) ≤ ((a : Nat) : Int) := by omega
  have ca := (HS1.out.bel.cell (lt_cell hka)).trans hka
  go_wp2_with (go_at_call 47; refine (HXa.out _ HS1.out.bel).mono ?_; rintro e w3 ⟨rfl, hb⟩; have HS3 := Lib.hid (HS1.out.below hb); clear hb; obtain ⟨z0, hz0⟩ := HS3.out.rb; have HR := Lib.hid (rb_put hz0 f); have HBL := Lib.hid (put_below HS3.out.bel (Nat.le_succ _) f); obtain ⟨⟨y0, y1, y2, y3, y4, y5, y6, y7, y8, y9, y10, y11, y12⟩, yf⟩ := hz0.cells; clear hz0)
  exact bodyPost_ret (v := WV (f)) (ansW rfl rfl HR.out Tryz.underlying59) rfl ⟨rfl, HBL.out⟩
set_option maxRecDepth 100000 in
set_option maxHeartbeats 3200000 in
theorem thr_68 (w : World) (b0 o0 L c i : Nat) (s : NSt) (hi : (i : Int) < (L : Int)) (z : List Nat) (a : Nat) (b mn mx m ka : Int) (f : NSt) (ha : (a : Int) < (L : Int)) (hka : w.cell? ⟨b0, o0 + a * 10, none⟩ = some (E ka)) (h8 : ka = 8) (HXa : Hid (∀ W, Below w.heap.size w W → Calls Tryz.prog 47 #[.slice (some ⟨b0, o0, none⟩) L c, E (a : Nat), WV (s)] W fun e w' => e = .returned (WV (f)) ∧ Below W.heap.size W w')) (hN : NCell w b0 (o0 + i * 10) ⟨6, z, (a : Nat), b, mn, mx, m⟩) :
    Calls Tryz.prog 47 #[.slice (some ⟨b0, o0, none⟩) L c, E (i : Nat), WV s] w fun e w' => e = .returned (WV (f)) ∧ Below w.heap.size w w' := by
  have hi0 : (0 : Int) ≤ (i : Int) := by omega
  obtain ⟨q0, q1, q2, q3, q4, q5, q6, q7, q8, q9⟩ := hN
  have hlb0 : b0 < w.heap.size := lt_cell q0
  have HS0 := Lib.hid (th_start w s ⟨6, z, (a : Nat), b, mn, mx, m⟩)
  subst h8
  go_enter Tryz.func47, Tryz.ntmps47
  rw [show Code.region 2 = Fz 2 from rfl]
  go_wp2
  refine at_world (p := fun W => TH w s ⟨6, z, (a : Nat), b, mn, mx, m⟩ W) HS0.out (fun W hW => ?_)
  have HS1 := Lib.hid hW
  clear hW HS0 q0 q1 q2 q3 q4 q5 q6 q7 q8 q9
  obtain ⟨x0, xa, xb, xn⟩ := HS1.out.cells; obtain ⟨⟨xw0, xw1, xw2, xw3, xw4, xw5, xw6, xw7, xw8, xw9, xw10, xw11, xw12⟩, xf⟩ := HS1.out.wb.cells
  rw [show Fz 2 = Code.region 2 from rfl]
  have ha0 : (0 : Int) ≤ ((a : Nat) : Int) := by omega
  have ca := (HS1.out.bel.cell (lt_cell hka)).trans hka
  go_wp2_with (go_at_call 47; refine (HXa.out _ HS1.out.bel).mono ?_; rintro e w3 ⟨rfl, hb⟩; have HS3 := Lib.hid (HS1.out.below hb); clear hb; obtain ⟨z0, hz0⟩ := HS3.out.rb; have HR := Lib.hid (rb_put hz0 f); have HBL := Lib.hid (put_below HS3.out.bel (Nat.le_succ _) f); obtain ⟨⟨y0, y1, y2, y3, y4, y5, y6, y7, y8, y9, y10, y11, y12⟩, yf⟩ := hz0.cells; clear hz0)
  exact bodyPost_ret (v := WV (f)) (ansW rfl rfl HR.out Tryz.underlying59) rfl ⟨rfl, HBL.out⟩
set_option maxRecDepth 100000 in
set_option maxHeartbeats 3200000 in
theorem thr_6f (w : World) (b0 o0 L c i : Nat) (s : NSt) (hi : (i : Int) < (L : Int)) (z : List Nat) (a : Nat) (b mn mx m ka : Int) (f : NSt) (ha : (a : Int) < (L : Int)) (hka : w.cell? ⟨b0, o0 + a * 10, none⟩ = some (E ka)) (h1 : (ka != 1) = true) (h7 : (ka != 7) = true) (h8 : (ka != 8) = true) (HXa : Hid (∀ W, Below w.heap.size w W → Calls Tryz.prog 47 #[.slice (some ⟨b0, o0, none⟩) L c, E (a : Nat), WV (⟨s.g, s.e, s.r, false⟩)] W fun e w' => e = .returned (WV (f)) ∧ Below W.heap.size W w')) (hN : NCell w b0 (o0 + i * 10) ⟨6, z, (a : Nat), b, mn, mx, m⟩) :
    Calls Tryz.prog 47 #[.slice (some ⟨b0, o0, none⟩) L c, E (i : Nat), WV s] w fun e w' => e = .returned (WV (f)) ∧ Below w.heap.size w w' := by
  have hi0 : (0 : Int) ≤ (i : Int) := by omega
  obtain ⟨q0, q1, q2, q3, q4, q5, q6, q7, q8, q9⟩ := hN
  have hlb0 : b0 < w.heap.size := lt_cell q0
  have HS0 := Lib.hid (th_start w s ⟨6, z, (a : Nat), b, mn, mx, m⟩)
  go_enter Tryz.func47, Tryz.ntmps47
  rw [show Code.region 2 = Fz 2 from rfl]
  go_wp2
  refine at_world (p := fun W => TH w s ⟨6, z, (a : Nat), b, mn, mx, m⟩ W) HS0.out (fun W hW => ?_)
  have HS1 := Lib.hid hW
  clear hW HS0 q0 q1 q2 q3 q4 q5 q6 q7 q8 q9
  obtain ⟨x0, xa, xb, xn⟩ := HS1.out.cells; obtain ⟨⟨xw0, xw1, xw2, xw3, xw4, xw5, xw6, xw7, xw8, xw9, xw10, xw11, xw12⟩, xf⟩ := HS1.out.wb.cells
  rw [show Fz 2 = Code.region 2 from rfl]
  have ha0 : (0 : Int) ≤ ((a : Nat) : Int) := by omega
  have ca := (HS1.out.bel.cell (lt_cell hka)).trans hka
  have HS2 := Lib.hid HS1.out.off
  obtain ⟨t0, ta, tb, tn⟩ := HS2.out.cells; obtain ⟨⟨tw0, tw1, tw2, tw3, tw4, tw5, tw6, tw7, tw8, tw9, tw10, tw11, tw12⟩, tf⟩ := HS2.out.wb.cells
  go_wp2_with (go_at_call 47; refine (HXa.out _ HS2.out.bel).mono ?_; rintro e w3 ⟨rfl, hb⟩; have HS3 := Lib.hid (HS2.out.below hb); clear hb; obtain ⟨z0, hz0⟩ := HS3.out.rb; have HR := Lib.hid (rb_put hz0 f); have HBL := Lib.hid (put_below HS3.out.bel (Nat.le_succ _) f); obtain ⟨⟨y0, y1, y2, y3, y4, y5, y6, y7, y8, y9, y10, y11, y12⟩, yf⟩ := hz0.cells; clear hz0)
  exact bodyPost_ret (v := WV (f)) (ansW rfl rfl HR.out Tryz.underlying59) rfl ⟨rfl, HBL.out⟩
end Go.Proofs.YtdjedjfanfbbcaaGreatDoor.Rx
namespace Go.Proofs.YtdjedjfanfbbcaaGreatDoor.Rx
open Go.RowKit Go.Shelf
open Tr
open Go.Proofs.YtdjedjfanfbbcaaGreatDoor.St (Wf word zeroW wf_zero)
set_option linter.unusedVariables false
set_option linter.unusedSimpArgs false
set_option maxRecDepth 100000 in
set_option maxHeartbeats 3200000 in
theorem thr_4a (w : World) (b0 o0 L c i : Nat) (s : NSt) (hi : (i : Int) < (L : Int)) (z : List Nat) (a b : Nat) (mn mx m ka kb : Int) (fa fb : NSt) (ha : (a : Int) < (L : Int)) (hb : (b : Int) < (L : Int)) (hka : w.cell? ⟨b0, o0 + a * 10, none⟩ = some (E ka)) (hkb : w.cell? ⟨b0, o0 + b * 10, none⟩ = some (E kb)) (h4 : ka = 4) (HXa : Hid (∀ W, Below w.heap.size w W → Calls Tryz.prog 47 #[.slice (some ⟨b0, o0, none⟩) L c, E (a : Nat), WV (⟨s.g, s.e, s.r, false⟩)] W fun e w' => e = .returned (WV (fa)) ∧ Below W.heap.size W w')) (HXb : Hid (∀ W, Below w.heap.size w W → Calls Tryz.prog 47 #[.slice (some ⟨b0, o0, none⟩) L c, E (b : Nat), WV (fa)] W fun e w' => e = .returned (WV (fb)) ∧ Below W.heap.size W w')) (hN : NCell w b0 (o0 + i * 10) ⟨4, z, (a : Nat), (b : Nat), mn, mx, m⟩) :
    Calls Tryz.prog 47 #[.slice (some ⟨b0, o0, none⟩) L c, E (i : Nat), WV s] w fun e w' => e = .returned (WV (fb)) ∧ Below w.heap.size w w' := by
  have hi0 : (0 : Int) ≤ (i : Int) := by omega
  obtain ⟨q0, q1, q2, q3, q4, q5, q6, q7, q8, q9⟩ := hN
  have hlb0 : b0 < w.heap.size := lt_cell q0
  have HS0 := Lib.hid (th_start w s ⟨4, z, (a : Nat), (b : Nat), mn, mx, m⟩)
  subst h4
  go_enter Tryz.func47, Tryz.ntmps47
  rw [show Code.region 2 = Fz 2 from rfl]
  go_wp2
  refine at_world (p := fun W => TH w s ⟨4, z, (a : Nat), (b : Nat), mn, mx, m⟩ W) HS0.out (fun W hW => ?_)
  have HS1 := Lib.hid hW
  clear hW HS0 q0 q1 q2 q3 q4 q5 q6 q7 q8 q9
  obtain ⟨x0, xa, xb, xn⟩ := HS1.out.cells; obtain ⟨⟨xw0, xw1, xw2, xw3, xw4, xw5, xw6, xw7, xw8, xw9, xw10, xw11, xw12⟩, xf⟩ := HS1.out.wb.cells
  rw [show Fz 2 = Code.region 2 from rfl]
  have ha0 : (0 : Int) ≤ ((a : Nat) : Int) := by omega
  have hb0 : (0 : Int) ≤ ((b : Nat) : Int) := by omega
  have ca := (HS1.out.bel.cell (lt_cell hka)).trans hka
  have cb := (HS1.out.bel.cell (lt_cell hkb)).trans hkb
  have HS2 := Lib.hid HS1.out.off
  obtain ⟨t0, ta, tb, tn⟩ := HS2.out.cells; obtain ⟨⟨tw0, tw1, tw2, tw3, tw4, tw5, tw6, tw7, tw8, tw9, tw10, tw11, tw12⟩, tf⟩ := HS2.out.wb.cells
  go_wp2
  refine at_world (p := fun W => TH w (⟨s.g, s.e, s.r, false⟩) ⟨4, z, (a : Nat), (b : Nat), mn, mx, m⟩ W) HS2.out (fun W2 hW2 => ?_)
  have HSD := Lib.hid (hW2.below (Below.refl _ _).drew)
  clear hW2
  refine wp_region_noPanic ?_
  refine wp_region_held_drew (S := fun w' => TH w (⟨s.g, s.e, s.r, false⟩) ⟨4, z, (a : Nat), (b : Nat), mn, mx, m⟩ w') (by kernel_rfl) ?_ (fun hHeld => ?_)
  · (try dsimp only); exact HSD.out
  clear HSD
  generalize World.drew _ = W3 at *
  refine Tk.take 0 (hy := by (intro w hSw; (try dsimp only at hSw); (obtain ⟨p0, pa, pb, pn⟩ := hSw.cells; obtain ⟨⟨p0', p1', p2', p3', p4', p5', p6', p7', p8', p9', p10', p11', p12'⟩, pf⟩ := hSw.wb.cells); go_simp) <;> with_reducible rfl) (h := ?_)
  refine Tk.take 1 (hy := by (intro w hSw; (try dsimp only at hSw); (obtain ⟨p0, pa, pb, pn⟩ := hSw.cells; obtain ⟨⟨p0', p1', p2', p3', p4', p5', p6', p7', p8', p9', p10', p11', p12'⟩, pf⟩ := hSw.wb.cells); go_simp) <;> with_reducible rfl) (h := ?_)
  refine Tk.take 2 (hy := by (intro w hSw; (try dsimp only at hSw); (obtain ⟨p0, pa, pb, pn⟩ := hSw.cells; obtain ⟨⟨p0', p1', p2', p3', p4', p5', p6', p7', p8', p9', p10', p11', p12'⟩, pf⟩ := hSw.wb.cells); go_simp) <;> with_reducible rfl) (h := ?_)
  refine Tk.take 3 (hy := by (intro w hSw; (try dsimp only at hSw); (obtain ⟨p0, pa, pb, pn⟩ := hSw.cells; obtain ⟨⟨p0', p1', p2', p3', p4', p5', p6', p7', p8', p9', p10', p11', p12'⟩, pf⟩ := hSw.wb.cells); go_simp) <;> with_reducible rfl) (h := ?_)
  refine Tk.take 4 (hy := by (intro w hSw; (try dsimp only at hSw); (obtain ⟨p0, pa, pb, pn⟩ := hSw.cells; obtain ⟨⟨p0', p1', p2', p3', p4', p5', p6', p7', p8', p9', p10', p11', p12'⟩, pf⟩ := hSw.wb.cells); go_simp) <;> with_reducible rfl) (h := ?_)
  refine Tk.take 5 (hy := by (intro w hSw; (try dsimp only at hSw); (obtain ⟨p0, pa, pb, pn⟩ := hSw.cells; obtain ⟨⟨p0', p1', p2', p3', p4', p5', p6', p7', p8', p9', p10', p11', p12'⟩, pf⟩ := hSw.wb.cells); go_simp) <;> with_reducible rfl) (h := ?_)
  refine Tk.take 6 (hy := by (intro w hSw; (try dsimp only at hSw); (obtain ⟨p0, pa, pb, pn⟩ := hSw.cells; obtain ⟨⟨p0', p1', p2', p3', p4', p5', p6', p7', p8', p9', p10', p11', p12'⟩, pf⟩ := hSw.wb.cells); go_simp) <;> with_reducible rfl) (h := ?_)
  refine wpAnyH_ready (rs := [7]) (by kernel_rfl) (by simp) ?_
  refine AllReadyH.cons (o := ?o7r4a) ?hi7r4a (fun K hK => ?st7r4a) AllReadyH.nil
  case hi7r4a => simp only [List.getElem?_toArray, List.getElem?_cons_succ, List.getElem?_cons_zero]; rfl
  go_simp
  (go_at_call 47; refine (HXa.out _ hHeld.bel).mono ?_; rintro e w7 ⟨rfl, hbl⟩)
  refine hK.out _ _ ?_ (fun hHeld => ?_)
  · (try dsimp only); (exact TH.below hHeld hbl)
  clear hK K
  try simp only [Act.put, List.setIfInBounds_toArray, List.set_cons_zero, List.set_cons_succ]
  refine wpAnyH_ready (rs := [8]) (by kernel_rfl) (by simp) ?_
  refine AllReadyH.cons (o := ?o8r4a) ?hi8r4a (fun K hK => ?st8r4a) AllReadyH.nil
  case hi8r4a => simp only [List.getElem?_toArray, List.getElem?_cons_succ, List.getElem?_cons_zero]; rfl
  go_simp
  (go_at_call 47; refine (HXb.out _ hHeld.bel).mono ?_; rintro e w8 ⟨rfl, hbl⟩)
  refine hK.out _ _ ?_ (fun hHeld => ?_)
  · (try dsimp only); (exact TH.below hHeld hbl)
  clear hK K
  try simp only [Act.put, List.setIfInBounds_toArray, List.set_cons_zero, List.set_cons_succ]
  refine wpAnyH_ready (rs := [9]) (by kernel_rfl) (by simp) ?_
  refine AllReadyH.cons (o := ?o9s4a) ?hi9s4a (fun K hK => ?st9s4a) AllReadyH.nil
  case hi9s4a => simp only [List.getElem?_toArray, List.getElem?_cons_succ, List.getElem?_cons_zero]; rfl
  obtain ⟨z0, hz0⟩ := hHeld.rb
  have HR := Lib.hid (rb_put hz0 fb)
  have HBL := Lib.hid (put_below hHeld.bel (Nat.le_succ _) fb)
  have HT := Lib.hid (hHeld.put fb)
  obtain ⟨⟨y0, y1, y2, y3, y4, y5, y6, y7, y8, y9, y10, y11, y12⟩, yf⟩ := hz0.cells
  clear hz0
  go_simp
  refine hK.out _ _ ?_ (fun hHeld => ?_)
  · (try dsimp only); exact HT.out
  clear hK K HT hHeld
  try simp only [Act.put, List.setIfInBounds_toArray, List.set_cons_zero, List.set_cons_succ]
  refine wpAnyH_done (by kernel_rfl) ?_ _
  refine NoPanic.normal ?_
  go_wp2
  exact bodyPost_ret (v := WV (fb)) (ansW rfl rfl HR.out Tryz.underlying59) rfl ⟨rfl, HBL.out⟩
set_option maxRecDepth 100000 in
set_option maxHeartbeats 3200000 in
theorem thr_4b (w : World) (b0 o0 L c i : Nat) (s : NSt) (hi : (i : Int) < (L : Int)) (z : List Nat) (a b : Nat) (mn mx m ka kb : Int) (fa fb : NSt) (ha : (a : Int) < (L : Int)) (hb : (b : Int) < (L : Int)) (hka : w.cell? ⟨b0, o0 + a * 10, none⟩ = some (E ka)) (hkb : w.cell? ⟨b0, o0 + b * 10, none⟩ = some (E kb)) (h5 : ka = 5) (HXa : Hid (∀ W, Below w.heap.size w W → Calls Tryz.prog 47 #[.slice (some ⟨b0, o0, none⟩) L c, E (a : Nat), WV (⟨s.g, s.e, s.r, false⟩)] W fun e w' => e = .returned (WV (fa)) ∧ Below W.heap.size W w')) (HXb : Hid (∀ W, Below w.heap.size w W → Calls Tryz.prog 47 #[.slice (some ⟨b0, o0, none⟩) L c, E (b : Nat), WV (fa)] W fun e w' => e = .returned (WV (fb)) ∧ Below W.heap.size W w')) (hN : NCell w b0 (o0 + i * 10) ⟨4, z, (a : Nat), (b : Nat), mn, mx, m⟩) :
    Calls Tryz.prog 47 #[.slice (some ⟨b0, o0, none⟩) L c, E (i : Nat), WV s] w fun e w' => e = .returned (WV (fb)) ∧ Below w.heap.size w w' := by
  have hi0 : (0 : Int) ≤ (i : Int) := by omega
  obtain ⟨q0, q1, q2, q3, q4, q5, q6, q7, q8, q9⟩ := hN
  have hlb0 : b0 < w.heap.size := lt_cell q0
  have HS0 := Lib.hid (th_start w s ⟨4, z, (a : Nat), (b : Nat), mn, mx, m⟩)
  subst h5
  go_enter Tryz.func47, Tryz.ntmps47
  rw [show Code.region 2 = Fz 2 from rfl]
  go_wp2
  refine at_world (p := fun W => TH w s ⟨4, z, (a : Nat), (b : Nat), mn, mx, m⟩ W) HS0.out (fun W hW => ?_)
  have HS1 := Lib.hid hW
  clear hW HS0 q0 q1 q2 q3 q4 q5 q6 q7 q8 q9
  obtain ⟨x0, xa, xb, xn⟩ := HS1.out.cells; obtain ⟨⟨xw0, xw1, xw2, xw3, xw4, xw5, xw6, xw7, xw8, xw9, xw10, xw11, xw12⟩, xf⟩ := HS1.out.wb.cells
  rw [show Fz 2 = Code.region 2 from rfl]
  have ha0 : (0 : Int) ≤ ((a : Nat) : Int) := by omega
  have hb0 : (0 : Int) ≤ ((b : Nat) : Int) := by omega
  have ca := (HS1.out.bel.cell (lt_cell hka)).trans hka
  have cb := (HS1.out.bel.cell (lt_cell hkb)).trans hkb
  have HS2 := Lib.hid HS1.out.off
  obtain ⟨t0, ta, tb, tn⟩ := HS2.out.cells; obtain ⟨⟨tw0, tw1, tw2, tw3, tw4, tw5, tw6, tw7, tw8, tw9, tw10, tw11, tw12⟩, tf⟩ := HS2.out.wb.cells
  go_wp2
  refine at_world (p := fun W => TH w (⟨s.g, s.e, s.r, false⟩) ⟨4, z, (a : Nat), (b : Nat), mn, mx, m⟩ W) HS2.out (fun W2 hW2 => ?_)
  have HSD := Lib.hid (hW2.below (Below.refl _ _).drew)
  clear hW2
  refine wp_region_noPanic ?_
  refine wp_region_held_drew (S := fun w' => TH w (⟨s.g, s.e, s.r, false⟩) ⟨4, z, (a : Nat), (b : Nat), mn, mx, m⟩ w') (by kernel_rfl) ?_ (fun hHeld => ?_)
  · (try dsimp only); exact HSD.out
  clear HSD
  generalize World.drew _ = W3 at *
  refine Tk.take 0 (hy := by (intro w hSw; (try dsimp only at hSw); (obtain ⟨p0, pa, pb, pn⟩ := hSw.cells; obtain ⟨⟨p0', p1', p2', p3', p4', p5', p6', p7', p8', p9', p10', p11', p12'⟩, pf⟩ := hSw.wb.cells); go_simp) <;> with_reducible rfl) (h := ?_)
  refine Tk.take 1 (hy := by (intro w hSw; (try dsimp only at hSw); (obtain ⟨p0, pa, pb, pn⟩ := hSw.cells; obtain ⟨⟨p0', p1', p2', p3', p4', p5', p6', p7', p8', p9', p10', p11', p12'⟩, pf⟩ := hSw.wb.cells); go_simp) <;> with_reducible rfl) (h := ?_)
  refine Tk.take 2 (hy := by (intro w hSw; (try dsimp only at hSw); (obtain ⟨p0, pa, pb, pn⟩ := hSw.cells; obtain ⟨⟨p0', p1', p2', p3', p4', p5', p6', p7', p8', p9', p10', p11', p12'⟩, pf⟩ := hSw.wb.cells); go_simp) <;> with_reducible rfl) (h := ?_)
  refine Tk.take 3 (hy := by (intro w hSw; (try dsimp only at hSw); (obtain ⟨p0, pa, pb, pn⟩ := hSw.cells; obtain ⟨⟨p0', p1', p2', p3', p4', p5', p6', p7', p8', p9', p10', p11', p12'⟩, pf⟩ := hSw.wb.cells); go_simp) <;> with_reducible rfl) (h := ?_)
  refine Tk.take 4 (hy := by (intro w hSw; (try dsimp only at hSw); (obtain ⟨p0, pa, pb, pn⟩ := hSw.cells; obtain ⟨⟨p0', p1', p2', p3', p4', p5', p6', p7', p8', p9', p10', p11', p12'⟩, pf⟩ := hSw.wb.cells); go_simp) <;> with_reducible rfl) (h := ?_)
  refine Tk.take 5 (hy := by (intro w hSw; (try dsimp only at hSw); (obtain ⟨p0, pa, pb, pn⟩ := hSw.cells; obtain ⟨⟨p0', p1', p2', p3', p4', p5', p6', p7', p8', p9', p10', p11', p12'⟩, pf⟩ := hSw.wb.cells); go_simp) <;> with_reducible rfl) (h := ?_)
  refine Tk.take 6 (hy := by (intro w hSw; (try dsimp only at hSw); (obtain ⟨p0, pa, pb, pn⟩ := hSw.cells; obtain ⟨⟨p0', p1', p2', p3', p4', p5', p6', p7', p8', p9', p10', p11', p12'⟩, pf⟩ := hSw.wb.cells); go_simp) <;> with_reducible rfl) (h := ?_)
  refine wpAnyH_ready (rs := [7]) (by kernel_rfl) (by simp) ?_
  refine AllReadyH.cons (o := ?o7r4b) ?hi7r4b (fun K hK => ?st7r4b) AllReadyH.nil
  case hi7r4b => simp only [List.getElem?_toArray, List.getElem?_cons_succ, List.getElem?_cons_zero]; rfl
  go_simp
  (go_at_call 47; refine (HXa.out _ hHeld.bel).mono ?_; rintro e w7 ⟨rfl, hbl⟩)
  refine hK.out _ _ ?_ (fun hHeld => ?_)
  · (try dsimp only); (exact TH.below hHeld hbl)
  clear hK K
  try simp only [Act.put, List.setIfInBounds_toArray, List.set_cons_zero, List.set_cons_succ]
  refine wpAnyH_ready (rs := [8]) (by kernel_rfl) (by simp) ?_
  refine AllReadyH.cons (o := ?o8r4b) ?hi8r4b (fun K hK => ?st8r4b) AllReadyH.nil
  case hi8r4b => simp only [List.getElem?_toArray, List.getElem?_cons_succ, List.getElem?_cons_zero]; rfl
  go_simp
  (go_at_call 47; refine (HXb.out _ hHeld.bel).mono ?_; rintro e w8 ⟨rfl, hbl⟩)
  refine hK.out _ _ ?_ (fun hHeld => ?_)
  · (try dsimp only); (exact TH.below hHeld hbl)
  clear hK K
  try simp only [Act.put, List.setIfInBounds_toArray, List.set_cons_zero, List.set_cons_succ]
  refine wpAnyH_ready (rs := [9]) (by kernel_rfl) (by simp) ?_
  refine AllReadyH.cons (o := ?o9s4b) ?hi9s4b (fun K hK => ?st9s4b) AllReadyH.nil
  case hi9s4b => simp only [List.getElem?_toArray, List.getElem?_cons_succ, List.getElem?_cons_zero]; rfl
  obtain ⟨z0, hz0⟩ := hHeld.rb
  have HR := Lib.hid (rb_put hz0 fb)
  have HBL := Lib.hid (put_below hHeld.bel (Nat.le_succ _) fb)
  have HT := Lib.hid (hHeld.put fb)
  obtain ⟨⟨y0, y1, y2, y3, y4, y5, y6, y7, y8, y9, y10, y11, y12⟩, yf⟩ := hz0.cells
  clear hz0
  go_simp
  refine hK.out _ _ ?_ (fun hHeld => ?_)
  · (try dsimp only); exact HT.out
  clear hK K HT hHeld
  try simp only [Act.put, List.setIfInBounds_toArray, List.set_cons_zero, List.set_cons_succ]
  refine wpAnyH_done (by kernel_rfl) ?_ _
  refine NoPanic.normal ?_
  go_wp2
  exact bodyPost_ret (v := WV (fb)) (ansW rfl rfl HR.out Tryz.underlying59) rfl ⟨rfl, HBL.out⟩
set_option maxRecDepth 100000 in
set_option maxHeartbeats 3200000 in
theorem thr_4c (w : World) (b0 o0 L c i : Nat) (s : NSt) (hi : (i : Int) < (L : Int)) (z : List Nat) (a b : Nat) (mn mx m ka kb : Int) (fa fb : NSt) (ha : (a : Int) < (L : Int)) (hb : (b : Int) < (L : Int)) (hka : w.cell? ⟨b0, o0 + a * 10, none⟩ = some (E ka)) (hkb : w.cell? ⟨b0, o0 + b * 10, none⟩ = some (E kb)) (h4 : (ka == 4) = false) (h5 : (ka == 5) = false) (hb5 : kb = 5) (HXa : Hid (∀ W, Below w.heap.size w W → Calls Tryz.prog 47 #[.slice (some ⟨b0, o0, none⟩) L c, E (a : Nat), WV (⟨s.g, s.e, s.r, false⟩)] W fun e w' => e = .returned (WV (fa)) ∧ Below W.heap.size W w')) (HXb : Hid (∀ W, Below w.heap.size w W → Calls Tryz.prog 47 #[.slice (some ⟨b0, o0, none⟩) L c, E (b : Nat), WV (fa)] W fun e w' => e = .returned (WV (fb)) ∧ Below W.heap.size W w')) (hN : NCell w b0 (o0 + i * 10) ⟨4, z, (a : Nat), (b : Nat), mn, mx, m⟩) :
    Calls Tryz.prog 47 #[.slice (some ⟨b0, o0, none⟩) L c, E (i : Nat), WV s] w fun e w' => e = .returned (WV (fb)) ∧ Below w.heap.size w w' := by
  have hi0 : (0 : Int) ≤ (i : Int) := by omega
  obtain ⟨q0, q1, q2, q3, q4, q5, q6, q7, q8, q9⟩ := hN
  have hlb0 : b0 < w.heap.size := lt_cell q0
  have HS0 := Lib.hid (th_start w s ⟨4, z, (a : Nat), (b : Nat), mn, mx, m⟩)
  subst hb5
  go_enter Tryz.func47, Tryz.ntmps47
  rw [show Code.region 2 = Fz 2 from rfl]
  go_wp2
  refine at_world (p := fun W => TH w s ⟨4, z, (a : Nat), (b : Nat), mn, mx, m⟩ W) HS0.out (fun W hW => ?_)
  have HS1 := Lib.hid hW
  clear hW HS0 q0 q1 q2 q3 q4 q5 q6 q7 q8 q9
  obtain ⟨x0, xa, xb, xn⟩ := HS1.out.cells; obtain ⟨⟨xw0, xw1, xw2, xw3, xw4, xw5, xw6, xw7, xw8, xw9, xw10, xw11, xw12⟩, xf⟩ := HS1.out.wb.cells
  rw [show Fz 2 = Code.region 2 from rfl]
  have ha0 : (0 : Int) ≤ ((a : Nat) : Int) := by omega
  have hb0 : (0 : Int) ≤ ((b : Nat) : Int) := by omega
  have ca := (HS1.out.bel.cell (lt_cell hka)).trans hka
  have cb := (HS1.out.bel.cell (lt_cell hkb)).trans hkb
  have HS2 := Lib.hid HS1.out.off
  obtain ⟨t0, ta, tb, tn⟩ := HS2.out.cells; obtain ⟨⟨tw0, tw1, tw2, tw3, tw4, tw5, tw6, tw7, tw8, tw9, tw10, tw11, tw12⟩, tf⟩ := HS2.out.wb.cells
  go_wp2
  refine at_world (p := fun W => TH w (⟨s.g, s.e, s.r, false⟩) ⟨4, z, (a : Nat), (b : Nat), mn, mx, m⟩ W) HS2.out (fun W2 hW2 => ?_)
  have HSD := Lib.hid (hW2.below (Below.refl _ _).drew)
  clear hW2
  refine wp_region_noPanic ?_
  refine wp_region_held_drew (S := fun w' => TH w (⟨s.g, s.e, s.r, false⟩) ⟨4, z, (a : Nat), (b : Nat), mn, mx, m⟩ w') (by kernel_rfl) ?_ (fun hHeld => ?_)
  · (try dsimp only); exact HSD.out
  clear HSD
  generalize World.drew _ = W3 at *
  refine Tk.take 0 (hy := by (intro w hSw; (try dsimp only at hSw); (obtain ⟨p0, pa, pb, pn⟩ := hSw.cells; obtain ⟨⟨p0', p1', p2', p3', p4', p5', p6', p7', p8', p9', p10', p11', p12'⟩, pf⟩ := hSw.wb.cells); go_simp) <;> with_reducible rfl) (h := ?_)
  refine Tk.take 1 (hy := by (intro w hSw; (try dsimp only at hSw); (obtain ⟨p0, pa, pb, pn⟩ := hSw.cells; obtain ⟨⟨p0', p1', p2', p3', p4', p5', p6', p7', p8', p9', p10', p11', p12'⟩, pf⟩ := hSw.wb.cells); go_simp) <;> with_reducible rfl) (h := ?_)
  refine Tk.take 2 (hy := by (intro w hSw; (try dsimp only at hSw); (obtain ⟨p0, pa, pb, pn⟩ := hSw.cells; obtain ⟨⟨p0', p1', p2', p3', p4', p5', p6', p7', p8', p9', p10', p11', p12'⟩, pf⟩ := hSw.wb.cells); go_simp) <;> with_reducible rfl) (h := ?_)
  refine Tk.take 3 (hy := by (intro w hSw; (try dsimp only at hSw); (obtain ⟨p0, pa, pb, pn⟩ := hSw.cells; obtain ⟨⟨p0', p1', p2', p3', p4', p5', p6', p7', p8', p9', p10', p11', p12'⟩, pf⟩ := hSw.wb.cells); go_simp) <;> with_reducible rfl) (h := ?_)
  refine Tk.take 4 (hy := by (intro w hSw; (try dsimp only at hSw); (obtain ⟨p0, pa, pb, pn⟩ := hSw.cells; obtain ⟨⟨p0', p1', p2', p3', p4', p5', p6', p7', p8', p9', p10', p11', p12'⟩, pf⟩ := hSw.wb.cells); go_simp) <;> with_reducible rfl) (h := ?_)
  refine Tk.take 5 (hy := by (intro w hSw; (try dsimp only at hSw); (obtain ⟨p0, pa, pb, pn⟩ := hSw.cells; obtain ⟨⟨p0', p1', p2', p3', p4', p5', p6', p7', p8', p9', p10', p11', p12'⟩, pf⟩ := hSw.wb.cells); go_simp) <;> with_reducible rfl) (h := ?_)
  refine Tk.take 6 (hy := by (intro w hSw; (try dsimp only at hSw); (obtain ⟨p0, pa, pb, pn⟩ := hSw.cells; obtain ⟨⟨p0', p1', p2', p3', p4', p5', p6', p7', p8', p9', p10', p11', p12'⟩, pf⟩ := hSw.wb.cells); go_simp) <;> with_reducible rfl) (h := ?_)
  refine wpAnyH_ready (rs := [7]) (by kernel_rfl) (by simp) ?_
  refine AllReadyH.cons (o := ?o7r4c) ?hi7r4c (fun K hK => ?st7r4c) AllReadyH.nil
  case hi7r4c => simp only [List.getElem?_toArray, List.getElem?_cons_succ, List.getElem?_cons_zero]; rfl
  go_simp
  (go_at_call 47; refine (HXa.out _ hHeld.bel).mono ?_; rintro e w7 ⟨rfl, hbl⟩)
  refine hK.out _ _ ?_ (fun hHeld => ?_)
  · (try dsimp only); (exact TH.below hHeld hbl)
  clear hK K
  try simp only [Act.put, List.setIfInBounds_toArray, List.set_cons_zero, List.set_cons_succ]
  refine wpAnyH_ready (rs := [8]) (by kernel_rfl) (by simp) ?_
  refine AllReadyH.cons (o := ?o8r4c) ?hi8r4c (fun K hK => ?st8r4c) AllReadyH.nil
  case hi8r4c => simp only [List.getElem?_toArray, List.getElem?_cons_succ, List.getElem?_cons_zero]; rfl
  go_simp
  (go_at_call 47; refine (HXb.out _ hHeld.bel).mono ?_; rintro e w8 ⟨rfl, hbl⟩)
  refine hK.out _ _ ?_ (fun hHeld => ?_)
  · (try dsimp only); (exact TH.below hHeld hbl)
  clear hK K
  try simp only [Act.put, List.setIfInBounds_toArray, List.set_cons_zero, List.set_cons_succ]
  refine wpAnyH_ready (rs := [9]) (by kernel_rfl) (by simp) ?_
  refine AllReadyH.cons (o := ?o9s4c) ?hi9s4c (fun K hK => ?st9s4c) AllReadyH.nil
  case hi9s4c => simp only [List.getElem?_toArray, List.getElem?_cons_succ, List.getElem?_cons_zero]; rfl
  obtain ⟨z0, hz0⟩ := hHeld.rb
  have HR := Lib.hid (rb_put hz0 fb)
  have HBL := Lib.hid (put_below hHeld.bel (Nat.le_succ _) fb)
  have HT := Lib.hid (hHeld.put fb)
  obtain ⟨⟨y0, y1, y2, y3, y4, y5, y6, y7, y8, y9, y10, y11, y12⟩, yf⟩ := hz0.cells
  clear hz0
  go_simp
  refine hK.out _ _ ?_ (fun hHeld => ?_)
  · (try dsimp only); exact HT.out
  clear hK K HT hHeld
  try simp only [Act.put, List.setIfInBounds_toArray, List.set_cons_zero, List.set_cons_succ]
  refine wpAnyH_done (by kernel_rfl) ?_ _
  refine NoPanic.normal ?_
  go_wp2
  exact bodyPost_ret (v := WV (fb)) (ansW rfl rfl HR.out Tryz.underlying59) rfl ⟨rfl, HBL.out⟩
set_option maxRecDepth 100000 in
set_option maxHeartbeats 3200000 in
theorem thr_4g (w : World) (b0 o0 L c i : Nat) (s : NSt) (hi : (i : Int) < (L : Int)) (z : List Nat) (a b : Nat) (mn mx m ka kb : Int) (fa fb : NSt) (ha : (a : Int) < (L : Int)) (hb : (b : Int) < (L : Int)) (hka : w.cell? ⟨b0, o0 + a * 10, none⟩ = some (E ka)) (hkb : w.cell? ⟨b0, o0 + b * 10, none⟩ = some (E kb)) (h4 : (ka == 4) = false) (h5 : (ka == 5) = false) (hb5 : (kb == 5) = false) (HXa : Hid (∀ W, Below w.heap.size w W → Calls Tryz.prog 47 #[.slice (some ⟨b0, o0, none⟩) L c, E (a : Nat), WV (s)] W fun e w' => e = .returned (WV (fa)) ∧ Below W.heap.size W w')) (HXb : Hid (∀ W, Below w.heap.size w W → Calls Tryz.prog 47 #[.slice (some ⟨b0, o0, none⟩) L c, E (b : Nat), WV (fa)] W fun e w' => e = .returned (WV (fb)) ∧ Below W.heap.size W w')) (hN : NCell w b0 (o0 + i * 10) ⟨4, z, (a : Nat), (b : Nat), mn, mx, m⟩) :
    Calls Tryz.prog 47 #[.slice (some ⟨b0, o0, none⟩) L c, E (i : Nat), WV s] w fun e w' => e = .returned (WV (fb)) ∧ Below w.heap.size w w' := by
  have hi0 : (0 : Int) ≤ (i : Int) := by omega
  obtain ⟨q0, q1, q2, q3, q4, q5, q6, q7, q8, q9⟩ := hN
  have hlb0 : b0 < w.heap.size := lt_cell q0
  have HS0 := Lib.hid (th_start w s ⟨4, z, (a : Nat), (b : Nat), mn, mx, m⟩)
  go_enter Tryz.func47, Tryz.ntmps47
  rw [show Code.region 2 = Fz 2 from rfl]
  go_wp2
  refine at_world (p := fun W => TH w s ⟨4, z, (a : Nat), (b : Nat), mn, mx, m⟩ W) HS0.out (fun W hW => ?_)
  have HS1 := Lib.hid hW
  clear hW HS0 q0 q1 q2 q3 q4 q5 q6 q7 q8 q9
  obtain ⟨x0, xa, xb, xn⟩ := HS1.out.cells; obtain ⟨⟨xw0, xw1, xw2, xw3, xw4, xw5, xw6, xw7, xw8, xw9, xw10, xw11, xw12⟩, xf⟩ := HS1.out.wb.cells
  rw [show Fz 2 = Code.region 2 from rfl]
  have ha0 : (0 : Int) ≤ ((a : Nat) : Int) := by omega
  have hb0 : (0 : Int) ≤ ((b : Nat) : Int) := by omega
  have ca := (HS1.out.bel.cell (lt_cell hka)).trans hka
  have cb := (HS1.out.bel.cell (lt_cell hkb)).trans hkb
  go_wp2
  refine at_world (p := fun W => TH w (s) ⟨4, z, (a : Nat), (b : Nat), mn, mx, m⟩ W) HS1.out (fun W2 hW2 => ?_)
  have HSD := Lib.hid (hW2.below (Below.refl _ _).drew)
  clear hW2
  refine wp_region_noPanic ?_
  refine wp_region_held_drew (S := fun w' => TH w (s) ⟨4, z, (a : Nat), (b : Nat), mn, mx, m⟩ w') (by kernel_rfl) ?_ (fun hHeld => ?_)
  · (try dsimp only); exact HSD.out
  clear HSD
  generalize World.drew _ = W3 at *
  refine Tk.take 0 (hy := by (intro w hSw; (try dsimp only at hSw); (obtain ⟨p0, pa, pb, pn⟩ := hSw.cells; obtain ⟨⟨p0', p1', p2', p3', p4', p5', p6', p7', p8', p9', p10', p11', p12'⟩, pf⟩ := hSw.wb.cells); go_simp) <;> with_reducible rfl) (h := ?_)
  refine Tk.take 1 (hy := by (intro w hSw; (try dsimp only at hSw); (obtain ⟨p0, pa, pb, pn⟩ := hSw.cells; obtain ⟨⟨p0', p1', p2', p3', p4', p5', p6', p7', p8', p9', p10', p11', p12'⟩, pf⟩ := hSw.wb.cells); go_simp) <;> with_reducible rfl) (h := ?_)
  refine Tk.take 2 (hy := by (intro w hSw; (try dsimp only at hSw); (obtain ⟨p0, pa, pb, pn⟩ := hSw.cells; obtain ⟨⟨p0', p1', p2', p3', p4', p5', p6', p7', p8', p9', p10', p11', p12'⟩, pf⟩ := hSw.wb.cells); go_simp) <;> with_reducible rfl) (h := ?_)
  refine Tk.take 3 (hy := by (intro w hSw; (try dsimp only at hSw); (obtain ⟨p0, pa, pb, pn⟩ := hSw.cells; obtain ⟨⟨p0', p1', p2', p3', p4', p5', p6', p7', p8', p9', p10', p11', p12'⟩, pf⟩ := hSw.wb.cells); go_simp) <;> with_reducible rfl) (h := ?_)
  refine Tk.take 4 (hy := by (intro w hSw; (try dsimp only at hSw); (obtain ⟨p0, pa, pb, pn⟩ := hSw.cells; obtain ⟨⟨p0', p1', p2', p3', p4', p5', p6', p7', p8', p9', p10', p11', p12'⟩, pf⟩ := hSw.wb.cells); go_simp) <;> with_reducible rfl) (h := ?_)
  refine Tk.take 5 (hy := by (intro w hSw; (try dsimp only at hSw); (obtain ⟨p0, pa, pb, pn⟩ := hSw.cells; obtain ⟨⟨p0', p1', p2', p3', p4', p5', p6', p7', p8', p9', p10', p11', p12'⟩, pf⟩ := hSw.wb.cells); go_simp) <;> with_reducible rfl) (h := ?_)
  refine Tk.take 6 (hy := by (intro w hSw; (try dsimp only at hSw); (obtain ⟨p0, pa, pb, pn⟩ := hSw.cells; obtain ⟨⟨p0', p1', p2', p3', p4', p5', p6', p7', p8', p9', p10', p11', p12'⟩, pf⟩ := hSw.wb.cells); go_simp) <;> with_reducible rfl) (h := ?_)
  refine wpAnyH_ready (rs := [7]) (by kernel_rfl) (by simp) ?_
  refine AllReadyH.cons (o := ?o7r4g) ?hi7r4g (fun K hK => ?st7r4g) AllReadyH.nil
  case hi7r4g => simp only [List.getElem?_toArray, List.getElem?_cons_succ, List.getElem?_cons_zero]; rfl
  go_simp
  (go_at_call 47; refine (HXa.out _ hHeld.bel).mono ?_; rintro e w7 ⟨rfl, hbl⟩)
  refine hK.out _ _ ?_ (fun hHeld => ?_)
  · (try dsimp only); (exact TH.below hHeld hbl)
  clear hK K
  try simp only [Act.put, List.setIfInBounds_toArray, List.set_cons_zero, List.set_cons_succ]
  refine wpAnyH_ready (rs := [8]) (by kernel_rfl) (by simp) ?_
  refine AllReadyH.cons (o := ?o8r4g) ?hi8r4g (fun K hK => ?st8r4g) AllReadyH.nil
  case hi8r4g => simp only [List.getElem?_toArray, List.getElem?_cons_succ, List.getElem?_cons_zero]; rfl
  go_simp
  (go_at_call 47; refine (HXb.out _ hHeld.bel).mono ?_; rintro e w8 ⟨rfl, hbl⟩)
  refine hK.out _ _ ?_ (fun hHeld => ?_)
  · (try dsimp only); (exact TH.below hHeld hbl)
  clear hK K
  try simp only [Act.put, List.setIfInBounds_toArray, List.set_cons_zero, List.set_cons_succ]
  refine wpAnyH_ready (rs := [9]) (by kernel_rfl) (by simp) ?_
  refine AllReadyH.cons (o := ?o9s4g) ?hi9s4g (fun K hK => ?st9s4g) AllReadyH.nil
  case hi9s4g => simp only [List.getElem?_toArray, List.getElem?_cons_succ, List.getElem?_cons_zero]; rfl
  obtain ⟨z0, hz0⟩ := hHeld.rb
  have HR := Lib.hid (rb_put hz0 fb)
  have HBL := Lib.hid (put_below hHeld.bel (Nat.le_succ _) fb)
  have HT := Lib.hid (hHeld.put fb)
  obtain ⟨⟨y0, y1, y2, y3, y4, y5, y6, y7, y8, y9, y10, y11, y12⟩, yf⟩ := hz0.cells
  clear hz0
  go_simp
  refine hK.out _ _ ?_ (fun hHeld => ?_)
  · (try dsimp only); exact HT.out
  clear hK K HT hHeld
  try simp only [Act.put, List.setIfInBounds_toArray, List.set_cons_zero, List.set_cons_succ]
  refine wpAnyH_done (by kernel_rfl) ?_ _
  refine NoPanic.normal ?_
  go_wp2
  exact bodyPost_ret (v := WV (fb)) (ansW rfl rfl HR.out Tryz.underlying59) rfl ⟨rfl, HBL.out⟩
set_option maxRecDepth 100000 in
set_option maxHeartbeats 3200000 in
theorem thr_5b (w : World) (b0 o0 L c i : Nat) (s : NSt) (hi : (i : Int) < (L : Int)) (z : List Nat) (a b : Nat) (mn mx m ka kb : Int) (fa fb : NSt) (ha : (a : Int) < (L : Int)) (hb : (b : Int) < (L : Int)) (hka : w.cell? ⟨b0, o0 + a * 10, none⟩ = some (E ka)) (hkb : w.cell? ⟨b0, o0 + b * 10, none⟩ = some (E kb)) (h5 : ka = 5) (HXa : Hid (∀ W, Below w.heap.size w W → Calls Tryz.prog 47 #[.slice (some ⟨b0, o0, none⟩) L c, E (a : Nat), WV (⟨s.g, s.e, s.r, false⟩)] W fun e w' => e = .returned (WV (fa)) ∧ Below W.heap.size W w')) (HXb : Hid (∀ W, Below w.heap.size w W → Calls Tryz.prog 47 #[.slice (some ⟨b0, o0, none⟩) L c, E (b : Nat), WV (fa)] W fun e w' => e = .returned (WV (fb)) ∧ Below W.heap.size W w')) (hN : NCell w b0 (o0 + i * 10) ⟨5, z, (a : Nat), (b : Nat), mn, mx, m⟩) :
    Calls Tryz.prog 47 #[.slice (some ⟨b0, o0, none⟩) L c, E (i : Nat), WV s] w fun e w' => e = .returned (WV (fb)) ∧ Below w.heap.size w w' := by
  have hi0 : (0 : Int) ≤ (i : Int) := by omega
  obtain ⟨q0, q1, q2, q3, q4, q5, q6, q7, q8, q9⟩ := hN
  have hlb0 : b0 < w.heap.size := lt_cell q0
  have HS0 := Lib.hid (th_start w s ⟨5, z, (a : Nat), (b : Nat), mn, mx, m⟩)
  subst h5
  go_enter Tryz.func47, Tryz.ntmps47
  rw [show Code.region 2 = Fz 2 from rfl]
  go_wp2
  refine at_world (p := fun W => TH w s ⟨5, z, (a : Nat), (b : Nat), mn, mx, m⟩ W) HS0.out (fun W hW => ?_)
  have HS1 := Lib.hid hW
  clear hW HS0 q0 q1 q2 q3 q4 q5 q6 q7 q8 q9
  obtain ⟨x0, xa, xb, xn⟩ := HS1.out.cells; obtain ⟨⟨xw0, xw1, xw2, xw3, xw4, xw5, xw6, xw7, xw8, xw9, xw10, xw11, xw12⟩, xf⟩ := HS1.out.wb.cells
  rw [show Fz 2 = Code.region 2 from rfl]
  have ha0 : (0 : Int) ≤ ((a : Nat) : Int) := by omega
  have hb0 : (0 : Int) ≤ ((b : Nat) : Int) := by omega
  have ca := (HS1.out.bel.cell (lt_cell hka)).trans hka
  have cb := (HS1.out.bel.cell (lt_cell hkb)).trans hkb
  have HS2 := Lib.hid HS1.out.off
  obtain ⟨t0, ta, tb, tn⟩ := HS2.out.cells; obtain ⟨⟨tw0, tw1, tw2, tw3, tw4, tw5, tw6, tw7, tw8, tw9, tw10, tw11, tw12⟩, tf⟩ := HS2.out.wb.cells
  go_wp2
  refine at_world (p := fun W => TH w (⟨s.g, s.e, s.r, false⟩) ⟨5, z, (a : Nat), (b : Nat), mn, mx, m⟩ W) HS2.out (fun W2 hW2 => ?_)
  have HSD := Lib.hid (hW2.below (Below.refl _ _).drew)
  clear hW2
  refine wp_region_noPanic ?_
  refine wp_region_held_drew (S := fun w' => TH w (⟨s.g, s.e, s.r, false⟩) ⟨5, z, (a : Nat), (b : Nat), mn, mx, m⟩ w') (by kernel_rfl) ?_ (fun hHeld => ?_)
  · (try dsimp only); exact HSD.out
  clear HSD
  generalize World.drew _ = W3 at *
  refine Tk.take 0 (hy := by (intro w hSw; (try dsimp only at hSw); (obtain ⟨p0, pa, pb, pn⟩ := hSw.cells; obtain ⟨⟨p0', p1', p2', p3', p4', p5', p6', p7', p8', p9', p10', p11', p12'⟩, pf⟩ := hSw.wb.cells); go_simp) <;> with_reducible rfl) (h := ?_)
  refine Tk.take 1 (hy := by (intro w hSw; (try dsimp only at hSw); (obtain ⟨p0, pa, pb, pn⟩ := hSw.cells; obtain ⟨⟨p0', p1', p2', p3', p4', p5', p6', p7', p8', p9', p10', p11', p12'⟩, pf⟩ := hSw.wb.cells); go_simp) <;> with_reducible rfl) (h := ?_)
  refine Tk.take 2 (hy := by (intro w hSw; (try dsimp only at hSw); (obtain ⟨p0, pa, pb, pn⟩ := hSw.cells; obtain ⟨⟨p0', p1', p2', p3', p4', p5', p6', p7', p8', p9', p10', p11', p12'⟩, pf⟩ := hSw.wb.cells); go_simp) <;> with_reducible rfl) (h := ?_)
  refine Tk.take 3 (hy := by (intro w hSw; (try dsimp only at hSw); (obtain ⟨p0, pa, pb, pn⟩ := hSw.cells; obtain ⟨⟨p0', p1', p2', p3', p4', p5', p6', p7', p8', p9', p10', p11', p12'⟩, pf⟩ := hSw.wb.cells); go_simp) <;> with_reducible rfl) (h := ?_)
  refine Tk.take 4 (hy := by (intro w hSw; (try dsimp only at hSw); (obtain ⟨p0, pa, pb, pn⟩ := hSw.cells; obtain ⟨⟨p0', p1', p2', p3', p4', p5', p6', p7', p8', p9', p10', p11', p12'⟩, pf⟩ := hSw.wb.cells); go_simp) <;> with_reducible rfl) (h := ?_)
  refine Tk.take 5 (hy := by (intro w hSw; (try dsimp only at hSw); (obtain ⟨p0, pa, pb, pn⟩ := hSw.cells; obtain ⟨⟨p0', p1', p2', p3', p4', p5', p6', p7', p8', p9', p10', p11', p12'⟩, pf⟩ := hSw.wb.cells); go_simp) <;> with_reducible rfl) (h := ?_)
  refine Tk.take 6 (hy := by (intro w hSw; (try dsimp only at hSw); (obtain ⟨p0, pa, pb, pn⟩ := hSw.cells; obtain ⟨⟨p0', p1', p2', p3', p4', p5', p6', p7', p8', p9', p10', p11', p12'⟩, pf⟩ := hSw.wb.cells); go_simp) <;> with_reducible rfl) (h := ?_)
  refine wpAnyH_ready (rs := [7]) (by kernel_rfl) (by simp) ?_
  refine AllReadyH.cons (o := ?o7r5b) ?hi7r5b (fun K hK => ?st7r5b) AllReadyH.nil
  case hi7r5b => simp only [List.getElem?_toArray, List.getElem?_cons_succ, List.getElem?_cons_zero]; rfl
  go_simp
  (go_at_call 47; refine (HXa.out _ hHeld.bel).mono ?_; rintro e w7 ⟨rfl, hbl⟩)
  refine hK.out _ _ ?_ (fun hHeld => ?_)
  · (try dsimp only); (exact TH.below hHeld hbl)
  clear hK K
  try simp only [Act.put, List.setIfInBounds_toArray, List.set_cons_zero, List.set_cons_succ]
  refine wpAnyH_ready (rs := [8]) (by kernel_rfl) (by simp) ?_
  refine AllReadyH.cons (o := ?o8r5b) ?hi8r5b (fun K hK => ?st8r5b) AllReadyH.nil
  case hi8r5b => simp only [List.getElem?_toArray, List.getElem?_cons_succ, List.getElem?_cons_zero]; rfl
  go_simp
  (go_at_call 47; refine (HXb.out _ hHeld.bel).mono ?_; rintro e w8 ⟨rfl, hbl⟩)
  refine hK.out _ _ ?_ (fun hHeld => ?_)
  · (try dsimp only); (exact TH.below hHeld hbl)
  clear hK K
  try simp only [Act.put, List.setIfInBounds_toArray, List.set_cons_zero, List.set_cons_succ]
  refine wpAnyH_ready (rs := [9]) (by kernel_rfl) (by simp) ?_
  refine AllReadyH.cons (o := ?o9s5b) ?hi9s5b (fun K hK => ?st9s5b) AllReadyH.nil
  case hi9s5b => simp only [List.getElem?_toArray, List.getElem?_cons_succ, List.getElem?_cons_zero]; rfl
  obtain ⟨z0, hz0⟩ := hHeld.rb
  have HR := Lib.hid (rb_put hz0 fb)
  have HBL := Lib.hid (put_below hHeld.bel (Nat.le_succ _) fb)
  have HT := Lib.hid (hHeld.put fb)
  obtain ⟨⟨y0, y1, y2, y3, y4, y5, y6, y7, y8, y9, y10, y11, y12⟩, yf⟩ := hz0.cells
  clear hz0
  go_simp
  refine hK.out _ _ ?_ (fun hHeld => ?_)
  · (try dsimp only); exact HT.out
  clear hK K HT hHeld
  try simp only [Act.put, List.setIfInBounds_toArray, List.set_cons_zero, List.set_cons_succ]
  refine wpAnyH_done (by kernel_rfl) ?_ _
  refine NoPanic.normal ?_
  go_wp2
  exact bodyPost_ret (v := WV (fb)) (ansW rfl rfl HR.out Tryz.underlying59) rfl ⟨rfl, HBL.out⟩
set_option maxRecDepth 100000 in
set_option maxHeartbeats 3200000 in
theorem thr_5g (w : World) (b0 o0 L c i : Nat) (s : NSt) (hi : (i : Int) < (L : Int)) (z : List Nat) (a b : Nat) (mn mx m ka kb : Int) (fa fb : NSt) (ha : (a : Int) < (L : Int)) (hb : (b : Int) < (L : Int)) (hka : w.cell? ⟨b0, o0 + a * 10, none⟩ = some (E ka)) (hkb : w.cell? ⟨b0, o0 + b * 10, none⟩ = some (E kb)) (h5 : (ka == 5) = false) (HXa : Hid (∀ W, Below w.heap.size w W → Calls Tryz.prog 47 #[.slice (some ⟨b0, o0, none⟩) L c, E (a : Nat), WV (s)] W fun e w' => e = .returned (WV (fa)) ∧ Below W.heap.size W w')) (HXb : Hid (∀ W, Below w.heap.size w W → Calls Tryz.prog 47 #[.slice (some ⟨b0, o0, none⟩) L c, E (b : Nat), WV (fa)] W fun e w' => e = .returned (WV (fb)) ∧ Below W.heap.size W w')) (hN : NCell w b0 (o0 + i * 10) ⟨5, z, (a : Nat), (b : Nat), mn, mx, m⟩) :
    Calls Tryz.prog 47 #[.slice (some ⟨b0, o0, none⟩) L c, E (i : Nat), WV s] w fun e w' => e = .returned (WV (fb)) ∧ Below w.heap.size w w' := by
  have hi0 : (0 : Int) ≤ (i : Int) := by omega
  obtain ⟨q0, q1, q2, q3, q4, q5, q6, q7, q8, q9⟩ := hN
  have hlb0 : b0 < w.heap.size := lt_cell q0
  have HS0 := Lib.hid (th_start w s ⟨5, z, (a : Nat), (b : Nat), mn, mx, m⟩)
  go_enter Tryz.func47, Tryz.ntmps47
  rw [show Code.region 2 = Fz 2 from rfl]
  go_wp2
  refine at_world (p := fun W => TH w s ⟨5, z, (a : Nat), (b : Nat), mn, mx, m⟩ W) HS0.out (fun W hW => ?_)
  have HS1 := Lib.hid hW
  clear hW HS0 q0 q1 q2 q3 q4 q5 q6 q7 q8 q9
  obtain ⟨x0, xa, xb, xn⟩ := HS1.out.cells; obtain ⟨⟨xw0, xw1, xw2, xw3, xw4, xw5, xw6, xw7, xw8, xw9, xw10, xw11, xw12⟩, xf⟩ := HS1.out.wb.cells
  rw [show Fz 2 = Code.region 2 from rfl]
  have ha0 : (0 : Int) ≤ ((a : Nat) : Int) := by omega
  have hb0 : (0 : Int) ≤ ((b : Nat) : Int) := by omega
  have ca := (HS1.out.bel.cell (lt_cell hka)).trans hka
  have cb := (HS1.out.bel.cell (lt_cell hkb)).trans hkb
  go_wp2
  refine at_world (p := fun W => TH w (s) ⟨5, z, (a : Nat), (b : Nat), mn, mx, m⟩ W) HS1.out (fun W2 hW2 => ?_)
  have HSD := Lib.hid (hW2.below (Below.refl _ _).drew)
  clear hW2
  refine wp_region_noPanic ?_
  refine wp_region_held_drew (S := fun w' => TH w (s) ⟨5, z, (a : Nat), (b : Nat), mn, mx, m⟩ w') (by kernel_rfl) ?_ (fun hHeld => ?_)
  · (try dsimp only); exact HSD.out
  clear HSD
  generalize World.drew _ = W3 at *
  refine Tk.take 0 (hy := by (intro w hSw; (try dsimp only at hSw); (obtain ⟨p0, pa, pb, pn⟩ := hSw.cells; obtain ⟨⟨p0', p1', p2', p3', p4', p5', p6', p7', p8', p9', p10', p11', p12'⟩, pf⟩ := hSw.wb.cells); go_simp) <;> with_reducible rfl) (h := ?_)
  refine Tk.take 1 (hy := by (intro w hSw; (try dsimp only at hSw); (obtain ⟨p0, pa, pb, pn⟩ := hSw.cells; obtain ⟨⟨p0', p1', p2', p3', p4', p5', p6', p7', p8', p9', p10', p11', p12'⟩, pf⟩ := hSw.wb.cells); go_simp) <;> with_reducible rfl) (h := ?_)
  refine Tk.take 2 (hy := by (intro w hSw; (try dsimp only at hSw); (obtain ⟨p0, pa, pb, pn⟩ := hSw.cells; obtain ⟨⟨p0', p1', p2', p3', p4', p5', p6', p7', p8', p9', p10', p11', p12'⟩, pf⟩ := hSw.wb.cells); go_simp) <;> with_reducible rfl) (h := ?_)
  refine Tk.take 3 (hy := by (intro w hSw; (try dsimp only at hSw); (obtain ⟨p0, pa, pb, pn⟩ := hSw.cells; obtain ⟨⟨p0', p1', p2', p3', p4', p5', p6', p7', p8', p9', p10', p11', p12'⟩, pf⟩ := hSw.wb.cells); go_simp) <;> with_reducible rfl) (h := ?_)
  refine Tk.take 4 (hy := by (intro w hSw; (try dsimp only at hSw); (obtain ⟨p0, pa, pb, pn⟩ := hSw.cells; obtain ⟨⟨p0', p1', p2', p3', p4', p5', p6', p7', p8', p9', p10', p11', p12'⟩, pf⟩ := hSw.wb.cells); go_simp) <;> with_reducible rfl) (h := ?_)
  refine Tk.take 5 (hy := by (intro w hSw; (try dsimp only at hSw); (obtain ⟨p0, pa, pb, pn⟩ := hSw.cells; obtain ⟨⟨p0', p1', p2', p3', p4', p5', p6', p7', p8', p9', p10', p11', p12'⟩, pf⟩ := hSw.wb.cells); go_simp) <;> with_reducible rfl) (h := ?_)
  refine Tk.take 6 (hy := by (intro w hSw; (try dsimp only at hSw); (obtain ⟨p0, pa, pb, pn⟩ := hSw.cells; obtain ⟨⟨p0', p1', p2', p3', p4', p5', p6', p7', p8', p9', p10', p11', p12'⟩, pf⟩ := hSw.wb.cells); go_simp) <;> with_reducible rfl) (h := ?_)
  refine wpAnyH_ready (rs := [7]) (by kernel_rfl) (by simp) ?_
  refine AllReadyH.cons (o := ?o7r5g) ?hi7r5g (fun K hK => ?st7r5g) AllReadyH.nil
  case hi7r5g => simp only [List.getElem?_toArray, List.getElem?_cons_succ, List.getElem?_cons_zero]; rfl
  go_simp
  (go_at_call 47; refine (HXa.out _ hHeld.bel).mono ?_; rintro e w7 ⟨rfl, hbl⟩)
  refine hK.out _ _ ?_ (fun hHeld => ?_)
  · (try dsimp only); (exact TH.below hHeld hbl)
  clear hK K
  try simp only [Act.put, List.setIfInBounds_toArray, List.set_cons_zero, List.set_cons_succ]
  refine wpAnyH_ready (rs := [8]) (by kernel_rfl) (by simp) ?_
  refine AllReadyH.cons (o := ?o8r5g) ?hi8r5g (fun K hK => ?st8r5g) AllReadyH.nil
  case hi8r5g => simp only [List.getElem?_toArray, List.getElem?_cons_succ, List.getElem?_cons_zero]; rfl
  go_simp
  (go_at_call 47; refine (HXb.out _ hHeld.bel).mono ?_; rintro e w8 ⟨rfl, hbl⟩)
  refine hK.out _ _ ?_ (fun hHeld => ?_)
  · (try dsimp only); (exact TH.below hHeld hbl)
  clear hK K
  try simp only [Act.put, List.setIfInBounds_toArray, List.set_cons_zero, List.set_cons_succ]
  refine wpAnyH_ready (rs := [9]) (by kernel_rfl) (by simp) ?_
  refine AllReadyH.cons (o := ?o9s5g) ?hi9s5g (fun K hK => ?st9s5g) AllReadyH.nil
  case hi9s5g => simp only [List.getElem?_toArray, List.getElem?_cons_succ, List.getElem?_cons_zero]; rfl
  obtain ⟨z0, hz0⟩ := hHeld.rb
  have HR := Lib.hid (rb_put hz0 fb)
  have HBL := Lib.hid (put_below hHeld.bel (Nat.le_succ _) fb)
  have HT := Lib.hid (hHeld.put fb)
  obtain ⟨⟨y0, y1, y2, y3, y4, y5, y6, y7, y8, y9, y10, y11, y12⟩, yf⟩ := hz0.cells
  clear hz0
  go_simp
  refine hK.out _ _ ?_ (fun hHeld => ?_)
  · (try dsimp only); exact HT.out
  clear hK K HT hHeld
  try simp only [Act.put, List.setIfInBounds_toArray, List.set_cons_zero, List.set_cons_succ]
  refine wpAnyH_done (by kernel_rfl) ?_ _
  refine NoPanic.normal ?_
  go_wp2
  exact bodyPost_ret (v := WV (fb)) (ansW rfl rfl HR.out Tryz.underlying59) rfl ⟨rfl, HBL.out⟩
end Go.Proofs.YtdjedjfanfbbcaaGreatDoor.Rx
namespace Go.Proofs.YtdjedjfanfbbcaaGreatDoor.Rx
open Go.RowKit Go.Shelf
open Tr
open Go.Proofs.YtdjedjfanfbbcaaGreatDoor.St (Wf word zeroW wf_zero)
set_option linter.unusedVariables false
set_option linter.unusedSimpArgs false
set_option maxRecDepth 100000 in
set_option maxHeartbeats 3200000 in
theorem thr_7g (w : World) (b0 o0 L c i : Nat) (s : NSt) (hi : (i : Int) < (L : Int)) (z : List Nat) (a m : Nat) (b mn mx : Int) (f : NSt) (ha : (a : Int) < (L : Int)) (hm : m < 10) (hg0 : 0 ≤ s.g) (hg1 : s.g ≤ 1000) (hf : f.e.length = 10) (hgm : s.g + 1 = ((m : Nat) : Int)) (HXa : Hid (∀ W, Below w.heap.size w W → Calls Tryz.prog 47 #[.slice (some ⟨b0, o0, none⟩) L c, E (a : Nat), WV (⟨s.g + 1, s.e, s.r, s.ok⟩)] W fun e w' => e = .returned (WV (f)) ∧ Below W.heap.size W w')) (hN : NCell w b0 (o0 + i * 10) ⟨7, z, (a : Nat), b, mn, mx, (m : Nat)⟩) :
    Calls Tryz.prog 47 #[.slice (some ⟨b0, o0, none⟩) L c, E (i : Nat), WV s] w fun e w' => e = .returned (WV (⟨f.g, f.e.set m true, f.r, f.ok⟩)) ∧ Below w.heap.size w w' := by
  have hi0 : (0 : Int) ≤ (i : Int) := by omega
  obtain ⟨q0, q1, q2, q3, q4, q5, q6, q7, q8, q9⟩ := hN
  have hlb0 : b0 < w.heap.size := lt_cell q0
  have HS0 := Lib.hid (th_start w s ⟨7, z, (a : Nat), b, mn, mx, (m : Nat)⟩)
  go_enter Tryz.func47, Tryz.ntmps47
  rw [show Code.region 2 = Fz 2 from rfl]
  rw [show Code.region 20 = Fz 20 from rfl]
  rw [show Code.region 28 = Fz 28 from rfl]
  go_wp2
  refine at_world (p := fun W => TH w s ⟨7, z, (a : Nat), b, mn, mx, (m : Nat)⟩ W) HS0.out (fun W hW => ?_)
  have HS1 := Lib.hid hW
  clear hW HS0 q0 q1 q2 q3 q4 q5 q6 q7 q8 q9
  obtain ⟨x0, xa, xb, xn⟩ := HS1.out.cells; obtain ⟨⟨xw0, xw1, xw2, xw3, xw4, xw5, xw6, xw7, xw8, xw9, xw10, xw11, xw12⟩, xf⟩ := HS1.out.wb.cells
  rw [show Fz 2 = Code.region 2 from rfl]
  have ha0 : (0 : Int) ≤ ((a : Nat) : Int) := by omega
  have hm0 : (0 : Int) ≤ ((m : Nat) : Int) := by omega
  have hm9 : ((m : Nat) : Int) < 10 := by omega
  have hgw : IntKind.i64.wrap (s.g + 1) = s.g + 1 := by rw [IntKind.wrap_i64]; omega
  have HS2 := Lib.hid (HS1.out.set (i := 1) (u := E (s.g + 1)) (s' := ⟨s.g + 1, s.e, s.r, s.ok⟩) rfl)
  obtain ⟨t0, ta, tb, tn⟩ := HS2.out.cells; obtain ⟨⟨tw0, tw1, tw2, tw3, tw4, tw5, tw6, tw7, tw8, tw9, tw10, tw11, tw12⟩, tf⟩ := HS2.out.wb.cells
  have hgn : (s.g + 1 != ((m : Nat) : Int)) = false := by simpa using hgm
  clear hgm
  have HFL := Lib.hid hf
  have HM := Lib.hid hm
  clear hf
  go_wp2_with (go_at_call 47; refine (HXa.out _ HS2.out.bel).mono ?_; rintro e w3 ⟨rfl, hb⟩; have HS4 := Lib.hid (HS2.out.below hb); clear hb; obtain ⟨i40, i4a, i4b, i4n⟩ := HS4.out.cells; obtain ⟨⟨i4w0, i4w1, i4w2, i4w3, i4w4, i4w5, i4w6, i4w7, i4w8, i4w9, i4w10, i4w11, i4w12⟩, i4f⟩ := HS4.out.wb.cells)
  refine at_world (p := fun W => TH w f ⟨7, z, (a : Nat), b, mn, mx, (m : Nat)⟩ W) (HS4.out.putw f) (fun W5 hW => ?_)
  have HS5 := Lib.hid hW
  clear hW
  obtain ⟨k50, k5a, k5b, k5n⟩ := HS5.out.cells; obtain ⟨⟨k5w0, k5w1, k5w2, k5w3, k5w4, k5w5, k5w6, k5w7, k5w8, k5w9, k5w10, k5w11, k5w12⟩, k5f⟩ := HS5.out.wb.cells
  have k9 := HS5.out.wb.at hm
  rw [show Fz 20 = Code.region 20 from rfl]
  go_wp2
  refine at_world (p := fun W => TH w (⟨f.g, f.e.set m true, f.r, f.ok⟩) ⟨7, z, (a : Nat), b, mn, mx, (m : Nat)⟩ W) (HS5.out.ends HFL.out HM.out) (fun W6 hW => ?_)
  have HS6 := Lib.hid hW
  clear hW
  obtain ⟨j60, j6a, j6b, j6n⟩ := HS6.out.cells; obtain ⟨⟨j6w0, j6w1, j6w2, j6w3, j6w4, j6w5, j6w6, j6w7, j6w8, j6w9, j6w10, j6w11, j6w12⟩, j6f⟩ := HS6.out.wb.cells
  obtain ⟨z0, hz0⟩ := HS6.out.rb
  have HR := Lib.hid (rb_put hz0 (⟨f.g, f.e.set m true, f.r, f.ok⟩))
  have HBL := Lib.hid (put_below HS6.out.bel (Nat.le_succ _) (⟨f.g, f.e.set m true, f.r, f.ok⟩))
  obtain ⟨⟨y0, y1, y2, y3, y4, y5, y6, y7, y8, y9, y10, y11, y12⟩, yf⟩ := hz0.cells
  clear hz0
  rw [show Fz 28 = Code.region 28 from rfl]
  go_wp2
  exact bodyPost_ret (v := WV (⟨f.g, f.e.set m true, f.r, f.ok⟩)) (ansW rfl rfl HR.out Tryz.underlying59) rfl ⟨rfl, HBL.out⟩
set_option maxRecDepth 100000 in
set_option maxHeartbeats 3200000 in
theorem thr_7f (w : World) (b0 o0 L c i : Nat) (s : NSt) (hi : (i : Int) < (L : Int)) (z : List Nat) (a m : Nat) (b mn mx : Int) (f : NSt) (ha : (a : Int) < (L : Int)) (hm : m < 10) (hg0 : 0 ≤ s.g) (hg1 : s.g ≤ 1000) (hf : f.e.length = 10) (hgm : (s.g + 1 != ((m : Nat) : Int)) = true) (HXa : Hid (∀ W, Below w.heap.size w W → Calls Tryz.prog 47 #[.slice (some ⟨b0, o0, none⟩) L c, E (a : Nat), WV (⟨s.g + 1, s.e, s.r, false⟩)] W fun e w' => e = .returned (WV (f)) ∧ Below W.heap.size W w')) (hN : NCell w b0 (o0 + i * 10) ⟨7, z, (a : Nat), b, mn, mx, (m : Nat)⟩) :
    Calls Tryz.prog 47 #[.slice (some ⟨b0, o0, none⟩) L c, E (i : Nat), WV s] w fun e w' => e = .returned (WV (⟨f.g, f.e.set m true, f.r, f.ok⟩)) ∧ Below w.heap.size w w' := by
  have hi0 : (0 : Int) ≤ (i : Int) := by omega
  obtain ⟨q0, q1, q2, q3, q4, q5, q6, q7, q8, q9⟩ := hN
  have hlb0 : b0 < w.heap.size := lt_cell q0
  have HS0 := Lib.hid (th_start w s ⟨7, z, (a : Nat), b, mn, mx, (m : Nat)⟩)
  go_enter Tryz.func47, Tryz.ntmps47
  rw [show Code.region 2 = Fz 2 from rfl]
  rw [show Code.region 20 = Fz 20 from rfl]
  rw [show Code.region 28 = Fz 28 from rfl]
  go_wp2
  refine at_world (p := fun W => TH w s ⟨7, z, (a : Nat), b, mn, mx, (m : Nat)⟩ W) HS0.out (fun W hW => ?_)
  have HS1 := Lib.hid hW
  clear hW HS0 q0 q1 q2 q3 q4 q5 q6 q7 q8 q9
  obtain ⟨x0, xa, xb, xn⟩ := HS1.out.cells; obtain ⟨⟨xw0, xw1, xw2, xw3, xw4, xw5, xw6, xw7, xw8, xw9, xw10, xw11, xw12⟩, xf⟩ := HS1.out.wb.cells
  rw [show Fz 2 = Code.region 2 from rfl]
  have ha0 : (0 : Int) ≤ ((a : Nat) : Int) := by omega
  have hm0 : (0 : Int) ≤ ((m : Nat) : Int) := by omega
  have hm9 : ((m : Nat) : Int) < 10 := by omega
  have hgw : IntKind.i64.wrap (s.g + 1) = s.g + 1 := by rw [IntKind.wrap_i64]; omega
  have HS2 := Lib.hid (HS1.out.set (i := 1) (u := E (s.g + 1)) (s' := ⟨s.g + 1, s.e, s.r, s.ok⟩) rfl)
  obtain ⟨t0, ta, tb, tn⟩ := HS2.out.cells; obtain ⟨⟨tw0, tw1, tw2, tw3, tw4, tw5, tw6, tw7, tw8, tw9, tw10, tw11, tw12⟩, tf⟩ := HS2.out.wb.cells
  have HS3 := Lib.hid HS2.out.off
  obtain ⟨v0, va, vb, vn⟩ := HS3.out.cells; obtain ⟨⟨vw0, vw1, vw2, vw3, vw4, vw5, vw6, vw7, vw8, vw9, vw10, vw11, vw12⟩, vf⟩ := HS3.out.wb.cells
  have HFL := Lib.hid hf
  have HM := Lib.hid hm
  clear hf
  go_wp2_with (go_at_call 47; refine (HXa.out _ HS3.out.bel).mono ?_; rintro e w3 ⟨rfl, hb⟩; have HS4 := Lib.hid (HS3.out.below hb); clear hb; obtain ⟨i40, i4a, i4b, i4n⟩ := HS4.out.cells; obtain ⟨⟨i4w0, i4w1, i4w2, i4w3, i4w4, i4w5, i4w6, i4w7, i4w8, i4w9, i4w10, i4w11, i4w12⟩, i4f⟩ := HS4.out.wb.cells)
  refine at_world (p := fun W => TH w f ⟨7, z, (a : Nat), b, mn, mx, (m : Nat)⟩ W) (HS4.out.putw f) (fun W5 hW => ?_)
  have HS5 := Lib.hid hW
  clear hW
  obtain ⟨k50, k5a, k5b, k5n⟩ := HS5.out.cells; obtain ⟨⟨k5w0, k5w1, k5w2, k5w3, k5w4, k5w5, k5w6, k5w7, k5w8, k5w9, k5w10, k5w11, k5w12⟩, k5f⟩ := HS5.out.wb.cells
  have k9 := HS5.out.wb.at hm
  rw [show Fz 20 = Code.region 20 from rfl]
  go_wp2
  refine at_world (p := fun W => TH w (⟨f.g, f.e.set m true, f.r, f.ok⟩) ⟨7, z, (a : Nat), b, mn, mx, (m : Nat)⟩ W) (HS5.out.ends HFL.out HM.out) (fun W6 hW => ?_)
  have HS6 := Lib.hid hW
  clear hW
  obtain ⟨j60, j6a, j6b, j6n⟩ := HS6.out.cells; obtain ⟨⟨j6w0, j6w1, j6w2, j6w3, j6w4, j6w5, j6w6, j6w7, j6w8, j6w9, j6w10, j6w11, j6w12⟩, j6f⟩ := HS6.out.wb.cells
  obtain ⟨z0, hz0⟩ := HS6.out.rb
  have HR := Lib.hid (rb_put hz0 (⟨f.g, f.e.set m true, f.r, f.ok⟩))
  have HBL := Lib.hid (put_below HS6.out.bel (Nat.le_succ _) (⟨f.g, f.e.set m true, f.r, f.ok⟩))
  obtain ⟨⟨y0, y1, y2, y3, y4, y5, y6, y7, y8, y9, y10, y11, y12⟩, yf⟩ := hz0.cells
  clear hz0
  rw [show Fz 28 = Code.region 28 from rfl]
  go_wp2
  exact bodyPost_ret (v := WV (⟨f.g, f.e.set m true, f.r, f.ok⟩)) (ansW rfl rfl HR.out Tryz.underlying59) rfl ⟨rfl, HBL.out⟩
end Go.Proofs.YtdjedjfanfbbcaaGreatDoor.Rx
