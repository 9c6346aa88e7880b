/- The texts MtF5 MtF6 MtG MtR MtS. -/
import Derived.Test.YtlicoffnjphphaaGreatDoorQk19
set_option linter.unusedVariables false
set_option linter.unusedSimpArgs false
set_option maxHeartbeats 3200000
set_option maxRecDepth 100000
namespace Go.Proofs.YtlicoffnjphphaaGreatDoor.Mt
open Go.RowKit Go.Shelf
open Go.Proofs.YtlicoffnjphphaaGreatDoor.Rx
open Go.Proofs.YtlicoffnjphphaaGreatDoor.Rx.Tr
open Go.Proofs.YtlicoffnjphphaaGreatDoor.St (Wf word mem SV SV_eq)
theorem frm_5 (X : Par) (hX : X.Ok) (x : Tr) (o : Nat) (ha : At X.l x o) (ia : Nat) (hia : ia = o + x.size - 1) (pr : Nat → Prop) (i : Nat) (hi : i ≤ X.N) (w : World) (hM : MM X pr w) (nb no cap : Nat) (hv : X.v = .slice (some ⟨nb, no, none⟩) X.l.length cap) (hil : ia < X.l.length) (z : List Nat) (a b : Nat) (mn mx m : Int) (hN : NCell w nb (no + ia * 10) ⟨5, z, (a : Nat), (b : Nat), mn, mx, m⟩)
  (hlook : ∀ w' : World, w'.heap[X.b1]? = w.heap[X.b1]? → (Instr.lookup 91 (.map (some X.b1)) (PK ia i) true).run Tryz.prog w' = .ok (.tuple #[.slice none 0 0, .bool false]) w') (y1 y2 : Tr) (HF1 : FromOk X y1 a) (HF2 : FromOk X y2 b) (hxe : x = .alt y1 y2) :
  Calls Tryz.prog 68 #[PT X.bm, E (ia : Nat), E (i : Nat)] w (FromAns X pr w (endsP X.T x i)) := by
 have hlen := hX.len;have hmk : ∀ W : World, (Instr.makeSlice 111 (.int .i64 ((X.N : Int) + 1)) (.int .i64 ((X.N : Int) + 1))).run Tryz.prog W = .ok (SL W.heap.size (X.N + 1)) (W.alloc (.cells (bcn (X.N + 1) fun _ => false) 4)) := fun W => by
  have := make_row (X.N + 1) (by omega) W
  rwa [show ((X.N + 1 : Nat) : Int) = (X.N : Int) + 1 from by omega] at this
 have HLEN := Lib.hid hlen;have HFa := Lib.hid HF1;have HFb := Lib.hid HF2;(have hwN : IntKind.i64.wrap ((X.N : Int) + 1) = (X.N : Int) + 1 := by rw [IntKind.wrap_i64]; omega);have HA := Lib.hid (lk_start hM ia i);have HLK := Lib.hid hlook;have hpr : ∀ k, pr k → k < w.heap.size := hM.lt;have HPR := Lib.hid hpr;have HX := Lib.hid hX;have HAT := Lib.hid ha;have HIA := Lib.hid hia;(have hi0 : (0 : Int) ≤ (i : Int) := by omega);(have hi1 : (i : Int) < (X.N : Int) + 1 := by omega);(have ha0 : (0 : Int) ≤ (ia : Int) := by omega);(have ha1 : (ia : Int) < (X.l.length : Int) := by omega);have HNB := Lib.hid hN;have HBASE := Lib.hid hM.bel.size;clear HF1 HF2 hlook hpr hX ha hia hN hM hil;go_enter Tryz.func68, Tryz.ntmps68;rw [show Code.region 7 = Fz 7 from rfl];go_wp2;refine wp_region_noPanic ?_;refine wp_region_held_drew (S := fun w' => LK X w ia i w') (by kernel_rfl) ?_ (fun hHeld => ?_)
 · (try dsimp only); exact HA.out.1
 (have hs1 : ((w.alloc (.cells #[E (ia : Nat), E (i : Nat)] 150)).drew).heap.size = w.heap.size + 1 := by show (w.alloc _).heap.size = _; simp);generalize World.drew _ = W1 at HA hHeld hs1 ⊢;refine Tk.t 0 ?_;refine Tk.t 1 ?_;refine Tk.t 2 ?_;refine Tk.t 3 (hy := by (intro wv hSw; (try dsimp only at hSw); obtain ⟨q0, q1, q2, q3⟩ := hSw; go_simp) <;> with_reducible rfl) ?_;refine Tk.t 4 (hy := by (intro wv hSw; (try dsimp only at hSw); obtain ⟨q0, q1, q2, q3⟩ := hSw; go_simp) <;> with_reducible rfl) ?_;refine Tk.t 5 (hy := by (intro wv hSw; (try dsimp only at hSw); obtain ⟨q0, q1, q2, q3⟩ := hSw; have q4 := HLK.out _ q3; go_simp) <;> with_reducible rfl) ?_;refine Tk.t 6 ?_;refine Tk.t 7 ?_;refine Tk.t 8 ?_;refine Tk.t 9 ?_;refine Tk.t 10 ?_;refine Tk.d ?_;clear hHeld;obtain ⟨HLW, HMW, HKW, HKM, HBW⟩ := HA.out;have HFS := Lib.hid (fs_start HMW HPR.out hs1 HKW HKM ⟨5, z, (a : Nat), (b : Nat), mn, mx, m⟩ HBASE.out);have hbm0 := lt_heap' HMW.hb;rw [hs1] at hbm0;have hbm := hbm0;(have hbm2 : X.bm < w.heap.size + 1 + 1 := by omega);obtain ⟨c0, c1, c2, c3, c4⟩ := HMW.facts;rw [hv] at c0;obtain ⟨q0, q1, q2, q3, q4, q5, q6, q7, q8, q9⟩ := HNB.out.below HBW;(have hnb0 : nb < w.heap.size + 1 := by have := lt_cell q0; rw [hs1] at this; exact this);have hnb := hnb0;(have hnb2 : nb < w.heap.size + 1 + 1 := by omega);clear HLW HMW HKW HKM HBW HA;go_wp2;refine at_world (p := fun W => FS X pr w ia i ⟨5, z, (a : Nat), (b : Nat), mn, mx, m⟩ (fun _ => false) W) HFS.out (fun W hW => ?_);have HS1 := Lib.hid hW;clear hW HFS c0 c1 c2 c3 c4 q0 q1 q2 q3 q4 q5 q6 q7 q8 q9 hbm hnb hbm0 hbm2 hnb0 hnb2 hs1 hmk W1;rw [show Fz 7 = Code.region 7 from rfl];obtain ⟨⟨xk0, xk1⟩, xb, x0, x1, x2, x3, x4, x5, x6, x7, x8, x9⟩ := HS1.out.cells;(try dsimp only at x0 x1 x2 x3 x4 x5 x6 x7 x8 x9);obtain ⟨xm0, xm1, xm2, xm3, xm4⟩ := HS1.out.mm.facts;go_wp2_with (first
  | (go_at_call 68; have hq := HFa.out; clear HFa; refine (hq _ i _ hi HS1.out.mm).mono ?_; clear hq; rintro e w2 ⟨g, rfl, hg, hng, hm, hk⟩; have HS2 := Lib.hid (HS1.out.call hm hk); have HGa := Lib.hid hg; have HNGa := Lib.hid hng; have HKM := Lib.hid hk; clear hm hk hg hng)
  | (go_at_call 94; have hq := add_any _ (w.heap.size + 1) (w.heap.size + 1 + 1) (X.N + 1) _ _ (by have := HLEN.out; omega) _ HGa.out HS2.out.rb HS2.out.bx (pv_row HNGa.out); refine hq.mono ?_; clear hq; rintro e w3 ⟨rfl, hr, ho⟩; have HS3 := Lib.hid (HS2.out.row hr ho); have HOB := Lib.hid ho; clear hr ho HGa HNGa; obtain ⟨⟨yk0, yk1⟩, yb, y0, y1, y2, y3, y4, y5, y6, y7, y8, y9⟩ := HS3.out.cells; (try dsimp only at y0 y1 y2 y3 y4 y5 y6 y7 y8 y9); obtain ⟨ym0, ym1, ym2, ym3, ym4⟩ := HS3.out.mm.facts)
  | (go_at_call 68; have hq := HFb.out; clear HFb; refine (hq _ i _ hi HS3.out.mm).mono ?_; clear hq; rintro e w4 ⟨g, rfl, hg, hng, hm, hk⟩; have HS4 := Lib.hid (HS3.out.call hm hk); have HGb := Lib.hid hg; have HNGb := Lib.hid hng; have HKM := Lib.hid hk; clear hm hk hg hng)
  | (go_at_call 94; have hq := add_any _ (w.heap.size + 1) (w.heap.size + 1 + 1) (X.N + 1) _ _ (by have := HLEN.out; omega) _ HGb.out HS4.out.rb HS4.out.bx (pv_row HNGb.out); refine hq.mono ?_; clear hq; rintro e w5 ⟨rfl, hr, ho⟩; have HS5 := Lib.hid (HS4.out.row hr ho); have HOB := Lib.hid ho; clear hr ho HGb HNGb))
 clear xk0 xk1 xb x0 x1 x2 x3 x4 x5 x6 x7 x8 x9 xm0 xm1 xm2 xm3 xm4;clear yk0 yk1 yb y0 y1 y2 y3 y4 y5 y6 y7 y8 y9 ym0 ym1 ym2 ym3 ym4;have HSd := Lib.hid (HS5.out.below (Below.refl _ _).drew);refine wp_region_noPanic ?_;refine wp_region_held_drew (S := fun w' => LQ X w ia i w') (by kernel_rfl) ?_ (fun hHeld => ?_)
 · (try dsimp only); exact HSd.out.lq
 generalize World.drew _ = W3 at HSd hHeld ⊢;refine Tk.t 0 ?_;refine Tk.t 1 ?_;refine Tk.t 2 ?_;refine Tk.t 3 (hy := by (intro wv hSw; (try dsimp only at hSw); obtain ⟨q0, q1, q2, q3⟩ := hSw; go_simp) <;> with_reducible rfl) ?_;refine Tk.t 4 (hy := by (intro wv hSw; (try dsimp only at hSw); obtain ⟨q0, q1, q2, q3⟩ := hSw; go_simp) <;> with_reducible rfl) ?_;refine Tk.t 5 (hy := by (intro wv hSw; (try dsimp only at hSw); obtain ⟨q0, q1, q2, q3⟩ := hSw; go_simp) <;> with_reducible rfl) ?_;obtain ⟨w9, hlq, hrun, hmm, hkm, hrb, hbx⟩ := HSd.out.store HX.out HPR.out HAT.out HIA.out (by intro j _; rw [hxe]; simp [endsP]);have HL9 := Lib.hid hlq;have H9 := Lib.hid (And.intro hmm (And.intro hkm hrb));clear hlq hmm hkm hrb;refine Tk.o 6 (fun K hK => ?_);go_simp;refine hK.out _ _ ?_ (fun hHeld => Tk.w ?_)
 · (try dsimp only); (exact HL9.out)
 clear hK K;refine Tk.d ?_;clear hHeld hrun HSd HL9;go_wp2;go_ret;exact ⟨w.heap.size + 1, rfl, H9.out.2.2, fun q => by have := HPR.out _ q; omega, H9.out.1, H9.out.2.1⟩
theorem frm_7 (X : Par) (hX : X.Ok) (x : Tr) (o : Nat) (ha : At X.l x o) (ia : Nat) (hia : ia = o + x.size - 1) (pr : Nat → Prop) (i : Nat) (hi : i ≤ X.N) (w : World) (hM : MM X pr w) (nb no cap : Nat) (hv : X.v = .slice (some ⟨nb, no, none⟩) X.l.length cap) (hil : ia < X.l.length) (z : List Nat) (a b : Nat) (mn mx m : Int) (hN : NCell w nb (no + ia * 10) ⟨7, z, (a : Nat), (b : Nat), mn, mx, m⟩)
  (hlook : ∀ w' : World, w'.heap[X.b1]? = w.heap[X.b1]? → (Instr.lookup 91 (.map (some X.b1)) (PK ia i) true).run Tryz.prog w' = .ok (.tuple #[.slice none 0 0, .bool false]) w') (y : Tr) (HF : FromOk X y a) (n : Int) (hxe : x = .grp n y) :
  Calls Tryz.prog 68 #[PT X.bm, E (ia : Nat), E (i : Nat)] w (FromAns X pr w (endsP X.T x i)) := by
 have hlen := hX.len;have hmk : ∀ W : World, (Instr.makeSlice 111 (.int .i64 ((X.N : Int) + 1)) (.int .i64 ((X.N : Int) + 1))).run Tryz.prog W = .ok (SL W.heap.size (X.N + 1)) (W.alloc (.cells (bcn (X.N + 1) fun _ => false) 4)) := fun W => by
  have := make_row (X.N + 1) (by omega) W
  rwa [show ((X.N + 1 : Nat) : Int) = (X.N : Int) + 1 from by omega] at this
 have HLEN := Lib.hid hlen;have HFr := Lib.hid HF;(have hwN : IntKind.i64.wrap ((X.N : Int) + 1) = (X.N : Int) + 1 := by rw [IntKind.wrap_i64]; omega);have HA := Lib.hid (lk_start hM ia i);have HLK := Lib.hid hlook;have hpr : ∀ k, pr k → k < w.heap.size := hM.lt;have HPR := Lib.hid hpr;have HX := Lib.hid hX;have HAT := Lib.hid ha;have HIA := Lib.hid hia;(have hi0 : (0 : Int) ≤ (i : Int) := by omega);(have hi1 : (i : Int) < (X.N : Int) + 1 := by omega);(have ha0 : (0 : Int) ≤ (ia : Int) := by omega);(have ha1 : (ia : Int) < (X.l.length : Int) := by omega);have HNB := Lib.hid hN;have HBASE := Lib.hid hM.bel.size;clear HF hlook hpr hX ha hia hN hM hil;go_enter Tryz.func68, Tryz.ntmps68;rw [show Code.region 7 = Fz 7 from rfl];go_wp2;refine wp_region_noPanic ?_;refine wp_region_held_drew (S := fun w' => LK X w ia i w') (by kernel_rfl) ?_ (fun hHeld => ?_)
 · (try dsimp only); exact HA.out.1
 (have hs1 : ((w.alloc (.cells #[E (ia : Nat), E (i : Nat)] 150)).drew).heap.size = w.heap.size + 1 := by show (w.alloc _).heap.size = _; simp);generalize World.drew _ = W1 at HA hHeld hs1 ⊢;refine Tk.t 0 ?_;refine Tk.t 1 ?_;refine Tk.t 2 ?_;refine Tk.t 3 (hy := by (intro wv hSw; (try dsimp only at hSw); obtain ⟨q0, q1, q2, q3⟩ := hSw; go_simp) <;> with_reducible rfl) ?_;refine Tk.t 4 (hy := by (intro wv hSw; (try dsimp only at hSw); obtain ⟨q0, q1, q2, q3⟩ := hSw; go_simp) <;> with_reducible rfl) ?_;refine Tk.t 5 (hy := by (intro wv hSw; (try dsimp only at hSw); obtain ⟨q0, q1, q2, q3⟩ := hSw; have q4 := HLK.out _ q3; go_simp) <;> with_reducible rfl) ?_;refine Tk.t 6 ?_;refine Tk.t 7 ?_;refine Tk.t 8 ?_;refine Tk.t 9 ?_;refine Tk.t 10 ?_;refine Tk.d ?_;clear hHeld;obtain ⟨HLW, HMW, HKW, HKM, HBW⟩ := HA.out;have HFS := Lib.hid (fs_start HMW HPR.out hs1 HKW HKM ⟨7, z, (a : Nat), (b : Nat), mn, mx, m⟩ HBASE.out);have hbm0 := lt_heap' HMW.hb;rw [hs1] at hbm0;have hbm := hbm0;(have hbm2 : X.bm < w.heap.size + 1 + 1 := by omega);obtain ⟨c0, c1, c2, c3, c4⟩ := HMW.facts;rw [hv] at c0;obtain ⟨q0, q1, q2, q3, q4, q5, q6, q7, q8, q9⟩ := HNB.out.below HBW;(have hnb0 : nb < w.heap.size + 1 := by have := lt_cell q0; rw [hs1] at this; exact this);have hnb := hnb0;(have hnb2 : nb < w.heap.size + 1 + 1 := by omega);clear HLW HMW HKW HKM HBW HA;go_wp2;refine at_world (p := fun W => FS X pr w ia i ⟨7, z, (a : Nat), (b : Nat), mn, mx, m⟩ (fun _ => false) W) HFS.out (fun W hW => ?_);have HS1 := Lib.hid hW;clear hW HFS c0 c1 c2 c3 c4 q0 q1 q2 q3 q4 q5 q6 q7 q8 q9 hbm hnb hbm0 hbm2 hnb0 hnb2 hs1 hmk W1;rw [show Fz 7 = Code.region 7 from rfl];obtain ⟨⟨xk0, xk1⟩, xb, x0, x1, x2, x3, x4, x5, x6, x7, x8, x9⟩ := HS1.out.cells;(try dsimp only at x0 x1 x2 x3 x4 x5 x6 x7 x8 x9);obtain ⟨xm0, xm1, xm2, xm3, xm4⟩ := HS1.out.mm.facts;go_wp2_with (first
  | (go_at_call 68; have hq := HFr.out; clear HFr; refine (hq _ i _ hi HS1.out.mm).mono ?_; clear hq; rintro e w2 ⟨g, rfl, hg, hng, hm, hk⟩; have HS2 := Lib.hid (HS1.out.call hm hk); have HG := Lib.hid hg; have HNG := Lib.hid hng; have HKM := Lib.hid hk; clear hm hk hg hng)
  | (go_at_call 94; have hq := add_any _ (w.heap.size + 1) (w.heap.size + 1 + 1) (X.N + 1) _ _ (by have := HLEN.out; omega) _ HG.out HS2.out.rb HS2.out.bx (pv_row HNG.out); refine hq.mono ?_; clear hq; rintro e w3 ⟨rfl, hr, ho⟩; have HS3 := Lib.hid (HS2.out.row hr ho); have HOB := Lib.hid ho; clear hr ho HG HNG))
 clear xk0 xk1 xb x0 x1 x2 x3 x4 x5 x6 x7 x8 x9 xm0 xm1 xm2 xm3 xm4;have HSd := Lib.hid (HS3.out.below (Below.refl _ _).drew);refine wp_region_noPanic ?_;refine wp_region_held_drew (S := fun w' => LQ X w ia i w') (by kernel_rfl) ?_ (fun hHeld => ?_)
 · (try dsimp only); exact HSd.out.lq
 generalize World.drew _ = W3 at HSd hHeld ⊢;refine Tk.t 0 ?_;refine Tk.t 1 ?_;refine Tk.t 2 ?_;refine Tk.t 3 (hy := by (intro wv hSw; (try dsimp only at hSw); obtain ⟨q0, q1, q2, q3⟩ := hSw; go_simp) <;> with_reducible rfl) ?_;refine Tk.t 4 (hy := by (intro wv hSw; (try dsimp only at hSw); obtain ⟨q0, q1, q2, q3⟩ := hSw; go_simp) <;> with_reducible rfl) ?_;refine Tk.t 5 (hy := by (intro wv hSw; (try dsimp only at hSw); obtain ⟨q0, q1, q2, q3⟩ := hSw; go_simp) <;> with_reducible rfl) ?_;obtain ⟨w9, hlq, hrun, hmm, hkm, hrb, hbx⟩ := HSd.out.store HX.out HPR.out HAT.out HIA.out (by intro j _; rw [hxe]; simp [endsP]);have HL9 := Lib.hid hlq;have H9 := Lib.hid (And.intro hmm (And.intro hkm hrb));clear hlq hmm hkm hrb;refine Tk.o 6 (fun K hK => ?_);go_simp;refine hK.out _ _ ?_ (fun hHeld => Tk.w ?_)
 · (try dsimp only); (exact HL9.out)
 clear hK K;refine Tk.d ?_;clear hHeld hrun HSd HL9;go_wp2;go_ret;exact ⟨w.heap.size + 1, rfl, H9.out.2.2, fun q => by have := HPR.out _ q; omega, H9.out.1, H9.out.2.1⟩
theorem frm_6 (X : Par) (hX : X.Ok) (x : Tr) (o : Nat) (ha : At X.l x o) (ia : Nat) (hia : ia = o + x.size - 1) (pr : Nat → Prop) (i : Nat) (hi : i ≤ X.N) (w : World) (hM : MM X pr w) (nb no cap : Nat) (hv : X.v = .slice (some ⟨nb, no, none⟩) X.l.length cap) (hil : ia < X.l.length) (z : List Nat) (a b : Nat) (mn mx m : Int) (hN : NCell w nb (no + ia * 10) ⟨6, z, (a : Nat), (b : Nat), mn, mx, m⟩)
  (hlook : ∀ w' : World, w'.heap[X.b1]? = w.heap[X.b1]? → (Instr.lookup 91 (.map (some X.b1)) (PK ia i) true).run Tryz.prog w' = .ok (.tuple #[.slice none 0 0, .bool false]) w') (y : Tr) (HF : FromOk X y a) (hxe : x = .times mn mx y) :
  Calls Tryz.prog 68 #[PT X.bm, E (ia : Nat), E (i : Nat)] w (FromAns X pr w (endsP X.T x i)) := by
 have hlen := hX.len;have hmk : ∀ W : World, (Instr.makeSlice 111 (.int .i64 ((X.N : Int) + 1)) (.int .i64 ((X.N : Int) + 1))).run Tryz.prog W = .ok (SL W.heap.size (X.N + 1)) (W.alloc (.cells (bcn (X.N + 1) fun _ => false) 4)) := fun W => by
  have := make_row (X.N + 1) (by omega) W
  rwa [show ((X.N + 1 : Nat) : Int) = (X.N : Int) + 1 from by omega] at this
 have HLEN := Lib.hid hlen;have HFr := Lib.hid HF;(have hwN : IntKind.i64.wrap ((X.N : Int) + 1) = (X.N : Int) + 1 := by rw [IntKind.wrap_i64]; omega);have HA := Lib.hid (lk_start hM ia i);have HLK := Lib.hid hlook;have hpr : ∀ k, pr k → k < w.heap.size := hM.lt;have HPR := Lib.hid hpr;have HX := Lib.hid hX;have HAT := Lib.hid ha;have HIA := Lib.hid hia;(have hi0 : (0 : Int) ≤ (i : Int) := by omega);(have hi1 : (i : Int) < (X.N : Int) + 1 := by omega);(have ha0 : (0 : Int) ≤ (ia : Int) := by omega);(have ha1 : (ia : Int) < (X.l.length : Int) := by omega);have HNB := Lib.hid hN;have HBASE := Lib.hid hM.bel.size;clear HF hlook hpr hX ha hia hN hM hil;go_enter Tryz.func68, Tryz.ntmps68;rw [show Code.region 7 = Fz 7 from rfl];go_wp2;refine wp_region_noPanic ?_;refine wp_region_held_drew (S := fun w' => LK X w ia i w') (by kernel_rfl) ?_ (fun hHeld => ?_)
 · (try dsimp only); exact HA.out.1
 (have hs1 : ((w.alloc (.cells #[E (ia : Nat), E (i : Nat)] 150)).drew).heap.size = w.heap.size + 1 := by show (w.alloc _).heap.size = _; simp);generalize World.drew _ = W1 at HA hHeld hs1 ⊢;refine Tk.t 0 ?_;refine Tk.t 1 ?_;refine Tk.t 2 ?_;refine Tk.t 3 (hy := by (intro wv hSw; (try dsimp only at hSw); obtain ⟨q0, q1, q2, q3⟩ := hSw; go_simp) <;> with_reducible rfl) ?_;refine Tk.t 4 (hy := by (intro wv hSw; (try dsimp only at hSw); obtain ⟨q0, q1, q2, q3⟩ := hSw; go_simp) <;> with_reducible rfl) ?_;refine Tk.t 5 (hy := by (intro wv hSw; (try dsimp only at hSw); obtain ⟨q0, q1, q2, q3⟩ := hSw; have q4 := HLK.out _ q3; go_simp) <;> with_reducible rfl) ?_;refine Tk.t 6 ?_;refine Tk.t 7 ?_;refine Tk.t 8 ?_;refine Tk.t 9 ?_;refine Tk.t 10 ?_;refine Tk.d ?_;clear hHeld;obtain ⟨HLW, HMW, HKW, HKM, HBW⟩ := HA.out;have HFS := Lib.hid (fs_start HMW HPR.out hs1 HKW HKM ⟨6, z, (a : Nat), (b : Nat), mn, mx, m⟩ HBASE.out);have hbm0 := lt_heap' HMW.hb;rw [hs1] at hbm0;have hbm := hbm0;(have hbm2 : X.bm < w.heap.size + 1 + 1 := by omega);obtain ⟨c0, c1, c2, c3, c4⟩ := HMW.facts;rw [hv] at c0;obtain ⟨q0, q1, q2, q3, q4, q5, q6, q7, q8, q9⟩ := HNB.out.below HBW;(have hnb0 : nb < w.heap.size + 1 := by have := lt_cell q0; rw [hs1] at this; exact this);have hnb := hnb0;(have hnb2 : nb < w.heap.size + 1 + 1 := by omega);clear HLW HMW HKW HKM HBW HA;go_wp2;refine at_world (p := fun W => FS X pr w ia i ⟨6, z, (a : Nat), (b : Nat), mn, mx, m⟩ (fun _ => false) W) HFS.out (fun W hW => ?_);have HS1 := Lib.hid hW;clear hW HFS c0 c1 c2 c3 c4 q0 q1 q2 q3 q4 q5 q6 q7 q8 q9 hbm hnb hbm0 hbm2 hnb0 hnb2 hs1 hmk W1;rw [show Fz 7 = Code.region 7 from rfl];obtain ⟨⟨xk0, xk1⟩, xb, x0, x1, x2, x3, x4, x5, x6, x7, x8, x9⟩ := HS1.out.cells;(try dsimp only at x0 x1 x2 x3 x4 x5 x6 x7 x8 x9);obtain ⟨xm0, xm1, xm2, xm3, xm4⟩ := HS1.out.mm.facts;go_wp2_with (go_at_call 95; have hq := times_any X HX.out y a HFr.out ⟨6, z, (a : Nat), (b : Nat), mn, mx, m⟩ rfl i hi _ _ HS1.out.mm (w.heap.size + 1) HS1.out.rb (Or.inr (by simp)) (by have := HBASE.out; omega); refine hq.mono ?_; clear hq; rintro e w2 ⟨rfl, hr, hm, hk⟩; have HS2 := Lib.hid (HS1.out.times hr hm hk); clear hr hm hk);clear xk0 xk1 xb x0 x1 x2 x3 x4 x5 x6 x7 x8 x9 xm0 xm1 xm2 xm3 xm4;have HSd := Lib.hid (HS2.out.below (Below.refl _ _).drew);refine wp_region_noPanic ?_;refine wp_region_held_drew (S := fun w' => LQ X w ia i w') (by kernel_rfl) ?_ (fun hHeld => ?_)
 · (try dsimp only); exact HSd.out.lq
 generalize World.drew _ = W3 at HSd hHeld ⊢;refine Tk.t 0 ?_;refine Tk.t 1 ?_;refine Tk.t 2 ?_;refine Tk.t 3 (hy := by (intro wv hSw; (try dsimp only at hSw); obtain ⟨q0, q1, q2, q3⟩ := hSw; go_simp) <;> with_reducible rfl) ?_;refine Tk.t 4 (hy := by (intro wv hSw; (try dsimp only at hSw); obtain ⟨q0, q1, q2, q3⟩ := hSw; go_simp) <;> with_reducible rfl) ?_;refine Tk.t 5 (hy := by (intro wv hSw; (try dsimp only at hSw); obtain ⟨q0, q1, q2, q3⟩ := hSw; go_simp) <;> with_reducible rfl) ?_;obtain ⟨w9, hlq, hrun, hmm, hkm, hrb, hbx⟩ := HSd.out.store HX.out HPR.out HAT.out HIA.out (by intro j _; rw [hxe]; rfl);have HL9 := Lib.hid hlq;have H9 := Lib.hid (And.intro hmm (And.intro hkm hrb));clear hlq hmm hkm hrb;refine Tk.o 6 (fun K hK => ?_);go_simp;refine hK.out _ _ ?_ (fun hHeld => Tk.w ?_)
 · (try dsimp only); (exact HL9.out)
 clear hK K;refine Tk.d ?_;clear hHeld hrun HSd HL9;go_wp2;go_ret;exact ⟨w.heap.size + 1, rfl, H9.out.2.2, fun q => by have := HPR.out _ q; omega, H9.out.1, H9.out.2.1⟩
theorem frm_hit (X : Par) (hX : X.Ok) (x : Tr) (o : Nat) (ha : At X.l x o) (ia : Nat) (hia : ia = o + x.size - 1) (pr : Nat → Prop) (i : Nat) (hi : i ≤ X.N) (w : World) (hM : MM X pr w) (g0 : Nat) (hg0 : RB w g0 (X.N + 1) (endsP X.T x i)) (hng : ¬ pr g0)
  (hlook : ∀ w' : World, w'.heap[X.b1]? = w.heap[X.b1]? → (Instr.lookup 91 (.map (some X.b1)) (PK ia i) true).run Tryz.prog w' = .ok (.tuple #[SL g0 (X.N + 1), .bool true]) w')  :
  Calls Tryz.prog 68 #[PT X.bm, E (ia : Nat), E (i : Nat)] w (FromAns X pr w (endsP X.T x i)) := by
 have HA := Lib.hid (lk_start hM ia i);have HLK := Lib.hid hlook;have HG := Lib.hid hg0;have HNG := Lib.hid hng;clear hlook hg0 hng hM hX ha hia;go_enter Tryz.func68, Tryz.ntmps68;go_wp2;refine wp_region_noPanic ?_;refine wp_region_held_drew (S := fun w' => LK X w ia i w') (by kernel_rfl) ?_ (fun hHeld => ?_)
 · (try dsimp only); exact HA.out.1
 generalize World.drew _ = W1 at HA hHeld ⊢;refine Tk.t 0 ?_;refine Tk.t 1 ?_;refine Tk.t 2 ?_;refine Tk.t 3 (hy := by (intro wv hSw; (try dsimp only at hSw); obtain ⟨q0, q1, q2, q3⟩ := hSw; go_simp) <;> with_reducible rfl) ?_;refine Tk.t 4 (hy := by (intro wv hSw; (try dsimp only at hSw); obtain ⟨q0, q1, q2, q3⟩ := hSw; go_simp) <;> with_reducible rfl) ?_;refine Tk.t 5 (hy := by (intro wv hSw; (try dsimp only at hSw); obtain ⟨q0, q1, q2, q3⟩ := hSw; have q4 := HLK.out _ q3; go_simp) <;> with_reducible rfl) ?_;refine Tk.t 6 ?_;refine Tk.t 7 ?_;refine Tk.t 8 ?_;refine Tk.t 9 ?_;refine Tk.t 10 ?_;refine Tk.d ?_;clear hHeld;obtain ⟨HLW, HMW, HKW, HKM, HBW⟩ := HA.out;have HR := Lib.hid (HG.out.keep (HBW.block _ HG.out.lt));have HM2 := Lib.hid HMW;have HK2 := Lib.hid HKM;clear HLW HMW HKW HKM HBW HA HG;go_wp2;go_ret;exact ⟨g0, rfl, HR.out, HNG.out, HM2.out, HK2.out⟩
/-- Every call of from answers as it ought to: the tree holds no reference. -/
theorem from_all (X : Par) (hX : X.Ok) : ∀ (x : Tr) (o : Nat), At X.l x o → refsT x = 0 → SetsOk x → FromOk X x (o + x.size - 1) := by
 intro x
 induction x with
 | e =>
  intro o ha hr hs pr i w hi hM;have hsp := size_pos Tr.e;obtain ⟨v, b, hlook, hb⟩ := hM.look1 ha hsp i;obtain ⟨nb, no, cap, hv, hlt, hN⟩ := hM.node hX ha;rcases hb with ⟨rfl, rfl⟩ | ⟨rfl, g, rfl, h1, h2⟩
  · exact frm_0 X hX _ o ha _ rfl pr i hi w hM nb no cap hv hlt z4 0 0 0 0 0 hN hlook rfl
  · exact frm_hit X hX _ o ha _ rfl pr i hi w hM g h1 h2 hlook
 | set s =>
  intro o ha hr hs pr i w hi hM;have hsp := size_pos (Tr.set s);obtain ⟨v, b, hlook, hb⟩ := hM.look1 ha hsp i;obtain ⟨nb, no, cap, hv, hlt, hN⟩ := hM.node hX ha;rcases hb with ⟨rfl, rfl⟩ | ⟨rfl, g, rfl, h1, h2⟩
  · exact frm_1 X hX _ o ha _ rfl pr i hi w hM nb no cap hv hlt s 0 0 0 0 0 hN hlook hs rfl
  · exact frm_hit X hX _ o ha _ rfl pr i hi w hM g h1 h2 hlook
 | beg =>
  intro o ha hr hs pr i w hi hM;have hsp := size_pos Tr.beg;obtain ⟨v, b, hlook, hb⟩ := hM.look1 ha hsp i;obtain ⟨nb, no, cap, hv, hlt, hN⟩ := hM.node hX ha;rcases hb with ⟨rfl, rfl⟩ | ⟨rfl, g, rfl, h1, h2⟩
  · exact frm_2 X hX _ o ha _ rfl pr i hi w hM nb no cap hv hlt z4 0 0 0 0 0 hN hlook rfl
  · exact frm_hit X hX _ o ha _ rfl pr i hi w hM g h1 h2 hlook
 | fin =>
  intro o ha hr hs pr i w hi hM;have hsp := size_pos Tr.fin;obtain ⟨v, b, hlook, hb⟩ := hM.look1 ha hsp i;obtain ⟨nb, no, cap, hv, hlt, hN⟩ := hM.node hX ha;rcases hb with ⟨rfl, rfl⟩ | ⟨rfl, g, rfl, h1, h2⟩
  · exact frm_3 X hX _ o ha _ rfl pr i hi w hM nb no cap hv hlt z4 0 0 0 0 0 hN hlook rfl
  · exact frm_hit X hX _ o ha _ rfl pr i hi w hM g h1 h2 hlook
 | cat x y ihx ihy =>
  intro o ha hr hs pr i w hi hM;have hsp := size_pos (Tr.cat x y);obtain ⟨v, b, hlook, hb⟩ := hM.look1 ha hsp i;obtain ⟨nb, no, cap, hv, hlt, hN⟩ := hM.node hX ha;rcases hb with ⟨rfl, rfl⟩ | ⟨rfl, g, rfl, h1, h2⟩
  · have h3 := ihx o (at_left ha (r := _ ++ _) (by rw [← List.append_assoc]; rfl)) (by simp only [refsT] at hr; omega) hs.1;have h4 := ihy (o + x.size) (at_right ha (by rw [← List.append_assoc]; rfl)) (by simp only [refsT] at hr; omega) hs.2;exact frm_4 X hX _ o ha _ rfl pr i hi w hM nb no cap hv hlt z4 _ _ 0 0 0 hN hlook x y h3 h4 rfl
  · exact frm_hit X hX _ o ha _ rfl pr i hi w hM g h1 h2 hlook
 | alt x y ihx ihy =>
  intro o ha hr hs pr i w hi hM;have hsp := size_pos (Tr.alt x y);obtain ⟨v, b, hlook, hb⟩ := hM.look1 ha hsp i;obtain ⟨nb, no, cap, hv, hlt, hN⟩ := hM.node hX ha;rcases hb with ⟨rfl, rfl⟩ | ⟨rfl, g, rfl, h1, h2⟩
  · have h3 := ihx o (at_left ha (r := _ ++ _) (by rw [← List.append_assoc]; rfl)) (by simp only [refsT] at hr; omega) hs.1;have h4 := ihy (o + x.size) (at_right ha (by rw [← List.append_assoc]; rfl)) (by simp only [refsT] at hr; omega) hs.2;exact frm_5 X hX _ o ha _ rfl pr i hi w hM nb no cap hv hlt z4 _ _ 0 0 0 hN hlook x y h3 h4 rfl
  · exact frm_hit X hX _ o ha _ rfl pr i hi w hM g h1 h2 hlook
 | times mn mx x ihx =>
  intro o ha hr hs pr i w hi hM;have hsp := size_pos (Tr.times mn mx x);obtain ⟨v, b, hlook, hb⟩ := hM.look1 ha hsp i;obtain ⟨nb, no, cap, hv, hlt, hN⟩ := hM.node hX ha;rcases hb with ⟨rfl, rfl⟩ | ⟨rfl, g, rfl, h1, h2⟩
  · have h3 := ihx o (at_left ha rfl) (by simp only [refsT] at hr; omega) hs;exact frm_6 X hX _ o ha _ rfl pr i hi w hM nb no cap hv hlt z4 _ 0 mn mx 0 hN hlook x h3 rfl
  · exact frm_hit X hX _ o ha _ rfl pr i hi w hM g h1 h2 hlook
 | grp n x ihx =>
  intro o ha hr hs pr i w hi hM;have hsp := size_pos (Tr.grp n x);obtain ⟨v, b, hlook, hb⟩ := hM.look1 ha hsp i;obtain ⟨nb, no, cap, hv, hlt, hN⟩ := hM.node hX ha;rcases hb with ⟨rfl, rfl⟩ | ⟨rfl, g, rfl, h1, h2⟩
  · have h3 := ihx o (at_left ha rfl) (by simp only [refsT] at hr; omega) hs;exact frm_7 X hX _ o ha _ rfl pr i hi w hM nb no cap hv hlt z4 _ 0 0 0 n hN hlook x h3 n rfl
  · exact frm_hit X hX _ o ha _ rfl pr i hi w hM g h1 h2 hlook
 | ref n => intro o ha hr; simp [refsT] at hr
/-- A stand. -/
abbrev SD (p c k : Nat) (a : Caps) : Value := .agg #[E (p : Nat), E (c : Nat), E (k : Nat), capV (gr a 0), capV (gr a 1), capV (gr a 2), capV (gr a 3), capV (gr a 4), capV (gr a 5), capV (gr a 6), capV (gr a 7), capV (gr a 8), capV (gr a 9)]
theorem km_kb {X : Par} {w W w2 : World} {s : Nat} (hb : Below w.heap.size w W ∧ w.heap.size ≤ s) (hk : Kb X s W w2) : Km X w w2 :=
 ⟨Nat.le_trans hb.1.size hk.size, fun k h1 h2 h3 => (hk.keep k (Nat.lt_of_lt_of_le h1 hb.1.size) h2 h3 (by omega)).trans (hb.1.block k h1)⟩
theorem four_start {X : Par} {pr : Nat → Prop} {w : World} (hM : MM X pr w) (A B C : Obj) :
  MM X (Pv pr [w.heap.size + 1 + 1 + 1]) ((((w.alloc A).alloc B).alloc C).alloc (.cells (bcn (X.N + 1) fun _ => false) 4)) ∧ RB ((((w.alloc A).alloc B).alloc C).alloc (.cells (bcn (X.N + 1) fun _ => false) 4)) (w.heap.size + 1 + 1 + 1) (X.N + 1) (fun _ => false) ∧
  (Below w.heap.size w ((((w.alloc A).alloc B).alloc C).alloc (.cells (bcn (X.N + 1) fun _ => false) 4)) ∧ w.heap.size ≤ w.heap.size + 1 + 1 + 1) := by
 have hb := ((((Below.refl w.heap.size w).alloc (Nat.le_refl _) A).alloc (by simp) B).alloc (by simp; omega) C).alloc (by simp; omega) (.cells (bcn (X.N + 1) fun _ => false) 4);(have hs : ((((w.alloc A).alloc B).alloc C).alloc (.cells (bcn (X.N + 1) fun _ => false) 4)).heap.size = w.heap.size + 4 := by simp);refine ⟨hM.hide ?_ hb ?_, ?_, hb, by omega⟩
 ·
  rintro k (q | q)
  · exact Or.inl q
  · simp only [List.mem_cons, List.not_mem_nil, or_false] at q;exact Or.inr (by omega)
 ·
  rintro k (q | q)
  · have := hM.lt k q; omega
  · simp only [List.mem_cons, List.not_mem_nil, or_false] at q;omega
 ·
  have := heap_alloc_new (((w.alloc A).alloc B).alloc C) (.cells (bcn (X.N + 1) fun _ => false) 4)
  rwa [show (((w.alloc A).alloc B).alloc C).heap.size = w.heap.size + 1 + 1 + 1 by simp] at this
theorem reaches_refs (X : Par) (hrf : X.refs = true) (pr : Nat → Prop) (nd : Nd) (p c k : Nat) (a : Caps) (j : Nat) (w : World) (hM : MM X pr w) :
  Calls Tryz.prog 117 #[PT X.bm, NV nd, SD p c k a, E (j : Nat)] w fun e w' => e = .returned (.bool true) ∧ Below w.heap.size w w' := by
 obtain ⟨c0, c1, c2, c3, c4⟩ := hM.facts;rw [hrf] at c2;have hbm := lt_heap' hM.hb;(have hbm2 : X.bm < w.heap.size + 1 := by omega);generalize capV (gr a 0) = a0 at *;generalize capV (gr a 1) = a1 at *;generalize capV (gr a 2) = a2 at *;generalize capV (gr a 3) = a3 at *;generalize capV (gr a 4) = a4 at *;generalize capV (gr a 5) = a5 at *;generalize capV (gr a 6) = a6 at *;generalize capV (gr a 7) = a7 at *;generalize capV (gr a 8) = a8 at *;generalize capV (gr a 9) = a9 at *;have HB := Lib.hid (fun (A B : Obj) => ((Below.refl w.heap.size w).alloc (Nat.le_refl _) A).alloc (by simp) B);clear hM;go_enter Tryz.func117, Tryz.ntmps117;go_wp2;go_ret;exact ⟨rfl, HB.out _ _⟩
theorem reaches_no (X : Par) (hX : X.Ok) (hrf : X.refs = false) (x : Tr) (ia : Nat) (HF : FromOk X x ia) (pr : Nat → Prop) (nd : Nd) (hna : nd.a = ((ia : Nat) : Int)) (hmn0 : 0 ≤ nd.mn) (hmn1 : nd.mn ≤ 255) (hmx0 : -1 ≤ nd.mx) (hmx1 : nd.mx ≤ 255) (p c k : Nat) (hp : p ≤ X.N) (hc : c ≤ 200000) (a : Caps) (j : Nat) (hj : j ≤ X.N) (w : World) (hM : MM X pr w) :
  Calls Tryz.prog 117 #[PT X.bm, NV nd, SD p c k a, E (j : Nat)] w fun e w' => e = .returned (.bool (timesB (endsP X.T x) (max 0 (nd.mn - c)) (if nd.mx = -1 then -1 else nd.mx - c) X.N p j)) ∧ MM X pr w' ∧ Km X w w' := by
 obtain ⟨c0, c1, c2, c3, c4⟩ := hM.facts;rw [hrf] at c2;have hbm := lt_heap' hM.hb;(have hbm2 : X.bm < w.heap.size + 1 := by omega);(have hbm3 : X.bm < w.heap.size + 1 + 1 := by omega);(have hbm4 : X.bm < w.heap.size + 1 + 1 + 1 := by omega);have hlen := hX.len;have hmk : ∀ W : World, (Instr.makeSlice 111 (.int .i64 ((X.N : Int) + 1)) (.int .i64 ((X.N : Int) + 1))).run Tryz.prog W = .ok (SL W.heap.size (X.N + 1)) (W.alloc (.cells (bcn (X.N + 1) fun _ => false) 4)) := fun W => by
  have := make_row (X.N + 1) (by omega) W
  rwa [show ((X.N + 1 : Nat) : Int) = (X.N : Int) + 1 from by omega] at this
 (have hwN : IntKind.i64.wrap ((X.N : Int) + 1) = (X.N : Int) + 1 := by rw [IntKind.wrap_i64]; omega);(have hw1 : IntKind.i64.wrap (nd.mn - (c : Int)) = nd.mn - (c : Int) := by rw [IntKind.wrap_i64]; omega);(have hw2 : IntKind.i64.wrap (nd.mx - (c : Int)) = nd.mx - (c : Int) := by rw [IntKind.wrap_i64]; omega);have HX := Lib.hid hX;have HFr := Lib.hid HF;have HM := Lib.hid hM;(have hj0 : (0 : Int) ≤ (j : Int) := by omega);(have hj1 : (j : Int) < (X.N : Int) + 1 := by omega);generalize hq0 : capV (gr a 0) = a0 at *;generalize hq1 : capV (gr a 1) = a1 at *;generalize hq2 : capV (gr a 2) = a2 at *;generalize hq3 : capV (gr a 3) = a3 at *;generalize hq4 : capV (gr a 4) = a4 at *;generalize hq5 : capV (gr a 5) = a5 at *;generalize hq6 : capV (gr a 6) = a6 at *;generalize hq7 : capV (gr a 7) = a7 at *;generalize hq8 : capV (gr a 8) = a8 at *;generalize hq9 : capV (gr a 9) = a9 at *;clear hq0 hq1 hq2 hq3 hq4 hq5 hq6 hq7 hq8 hq9;have HQ := Lib.hid (fun (A B C : Obj) => four_start HM.out A B C);have HBS := Lib.hid (show X.w0.heap.size ≤ w.heap.size + 1 + 1 + 1 from by have := HM.out.bel.size; omega);have HNA := Lib.hid hna;clear hM hX HF hmn0 hmn1 hna;go_enter Tryz.func117, Tryz.ntmps117;by_cases hmx : nd.mx = -1
 · rw [if_pos hmx];go_wp2_with (go_at_call 95; obtain ⟨hm, hr, hb⟩ := HQ.out _ _ _; have hq := times_any X HX.out x ia HFr.out ⟨6, z4, nd.a, 0, max 0 (nd.mn - (c : Int)), (-1), 0⟩ HNA.out p hp _ _ hm _ hr (Or.inr (by simp)) HBS.out; refine hq.mono ?_; clear hq; rintro e w2 ⟨rfl, hr2, hm2, hk⟩; have HR := Lib.hid hr2; have hcl := hr2.cell (i := j) (by omega); have HM2 := Lib.hid (And.intro (hm2.mono fun k hk => Or.inl hk) (km_kb hb hk)); clear hm hr hb hr2 hm2 hk);go_ret;exact ⟨rfl, HM2.out.1, HM2.out.2⟩
 · rw [if_neg hmx];go_wp2_with (go_at_call 95; obtain ⟨hm, hr, hb⟩ := HQ.out _ _ _; have hq := times_any X HX.out x ia HFr.out ⟨6, z4, nd.a, 0, max 0 (nd.mn - (c : Int)), (nd.mx - (c : Int)), 0⟩ HNA.out p hp _ _ hm _ hr (Or.inr (by simp)) HBS.out; refine hq.mono ?_; clear hq; rintro e w2 ⟨rfl, hr2, hm2, hk⟩; have HR := Lib.hid hr2; have hcl := hr2.cell (i := j) (by omega); have HM2 := Lib.hid (And.intro (hm2.mono fun k hk => Or.inl hk) (km_kb hb hk)); clear hm hr hb hr2 hm2 hk);go_ret;exact ⟨rfl, HM2.out.1, HM2.out.2⟩
/-- Where a part is, how many times it was, which end is tried next, what groups have. -/
structure Std where
 p : Nat
 c : Nat
 k : Nat
 a : Caps
section
variable {f : Nat → Nat → Caps → Option Caps} {mn mx : Int} {j : Nat}
def ansS (f : Nat → Nat → Caps → Option Caps) (mn mx : Int) (j : Nat) (s : Std) : Option Caps :=
 if s.p = j then (if mn ≤ (s.c : Int) then some s.a else f j j s.a)
 else if mx ≠ -1 ∧ mx ≤ (s.c : Int) then none
 else if s.k ≤ s.p then none
 else down (fun q => (f s.p q s.a).bind fun a => timesP f mn mx j (j - q) q (s.c + 1) a) (s.p + 1) (s.k - s.p - 1)
def resS (f : Nat → Nat → Caps → Option Caps) (mn mx : Int) (j : Nat) (l : List Std) : Option Caps := l.foldl (fun acc s => (ansS f mn mx j s).or acc) none
theorem resS_push (r : List Std) (s : Std) : resS f mn mx j (r ++ [s]) = (ansS f mn mx j s).or (resS f mn mx j r) := by
 unfold resS; rw [List.foldl_append]; rfl
theorem ansS_new (p c : Nat) (a : Caps) (hp : p ≤ j) : ansS f mn mx j ⟨p, c, j, a⟩ = timesP f mn mx j (j - p) p c a := by
 conv => rhs; unfold timesP
 unfold ansS;dsimp only;by_cases h1 : p = j
 · rw [if_pos h1, if_pos h1]
 ·
  rw [if_neg h1, if_neg h1];by_cases h2 : mx ≠ -1 ∧ mx ≤ (c : Int)
  · rw [if_pos h2, if_pos h2]
  ·
   rw [if_neg h2, if_neg h2, if_neg (by omega)];obtain ⟨n, hn⟩ : ∃ n, j - p = n + 1 := ⟨j - p - 1, by omega⟩;rw [hn];dsimp only;(refine down_congr fun q h3 h4 => ?_);cases f p q a with
   | none => rfl
   | some x => exact times_fuel (f := f) (mn := mn) (mx := mx) (j := j) (j - q) n q (c + 1) x (by omega) (by omega) (by omega)
theorem ansS_at (c k : Nat) (a : Caps) (h : mn ≤ (c : Int)) : ansS f mn mx j ⟨j, c, k, a⟩ = some a := by
 unfold ansS; rw [if_pos rfl, if_pos h]
theorem ansS_one (c k : Nat) (a : Caps) (h : ¬ mn ≤ (c : Int)) : ansS f mn mx j ⟨j, c, k, a⟩ = f j j a := by
 unfold ansS; rw [if_pos rfl, if_neg h]
theorem ansS_most (p c k : Nat) (a : Caps) (h1 : p ≠ j) (h2 : mx ≠ -1 ∧ mx ≤ (c : Int)) : ansS f mn mx j ⟨p, c, k, a⟩ = none := by
 unfold ansS; rw [if_neg h1, if_pos h2]
theorem ansS_done (p c k : Nat) (a : Caps) (h1 : p ≠ j) (h3 : k ≤ p) : ansS f mn mx j ⟨p, c, k, a⟩ = none := by
 unfold ansS;dsimp only;rw [if_neg h1];by_cases h2 : mx ≠ -1 ∧ mx ≤ (c : Int)
 · rw [if_pos h2]
 · rw [if_neg h2, if_pos h3]
theorem ansS_step (p c k : Nat) (a : Caps) (h1 : p ≠ j) (h2 : ¬ (mx ≠ -1 ∧ mx ≤ (c : Int))) (h3 : p < k) (h4 : k ≤ j) :
  ansS f mn mx j ⟨p, c, k, a⟩ = match f p k a with
   | some x => (ansS f mn mx j ⟨k, c + 1, j, x⟩).or (ansS f mn mx j ⟨p, c, k - 1, a⟩)
   | none => ansS f mn mx j ⟨p, c, k - 1, a⟩ := by
 have hg : (fun q => (f p q a).bind fun a => timesP f mn mx j (j - q) q (c + 1) a) k = (f p k a).bind fun x => ansS f mn mx j ⟨k, c + 1, j, x⟩ := by
  dsimp only;cases f p k a with
  | none => rfl
  | some x => exact (ansS_new k (c + 1) x h4).symm
 obtain ⟨n, rfl⟩ : ∃ n, k = p + 1 + n := ⟨k - p - 1, by omega⟩;have e1 : ansS f mn mx j ⟨p, c, p + 1 + n, a⟩ = down (fun q => (f p q a).bind fun a => timesP f mn mx j (j - q) q (c + 1) a) (p + 1) n := by
  unfold ansS; rw [if_neg h1, if_neg h2, if_neg (by dsimp only; omega)]; dsimp only; rw [show p + 1 + n - p - 1 = n by omega]
 rw [e1];cases n with
 | zero =>
  rw [ansS_done p c (p + 1 + 0 - 1) a h1 (by omega)];show (fun q => (f p q a).bind fun a => timesP f mn mx j (j - q) q (c + 1) a) (p + 1 + 0) = _;rw [hg];cases f p (p + 1 + 0) a with
  | none => rfl
  | some x => simp
 | succ m =>
  have e2 : ansS f mn mx j ⟨p, c, p + 1 + (m + 1) - 1, a⟩ = down (fun q => (f p q a).bind fun a => timesP f mn mx j (j - q) q (c + 1) a) (p + 1) m := by
   unfold ansS; rw [if_neg h1, if_neg h2, if_neg (by dsimp only; omega)]; dsimp only; rw [show p + 1 + (m + 1) - 1 - p - 1 = m by omega]
  rw [e2];have e3 : ∀ (F : Nat → Option Caps) (b n : Nat), down F b (n + 1) = match F (b + n + 1) with
    | some a => some a
    | none => down F b n := fun F b n => by rw [down]; cases F (b + n + 1) <;> rfl
  dsimp only at hg;rw [e3, show p + 1 + m + 1 = p + 1 + (m + 1) by omega];(try dsimp only);rw [hg];cases f p (p + 1 + (m + 1)) a with
  | none => rfl
  | some x =>
   cases hx : ansS f mn mx j ⟨p + 1 + (m + 1), c + 1, j, x⟩ with
   | none => simp [hx]
   | some y => simp [hx]
def muN (j p : Nat) : Nat → Nat
 | 0 => 1
 | n + 1 => muN j p n + 2 ^ (j - (p + n + 1) + 1)
def mu (j : Nat) (s : Std) : Nat := muN j s.p (s.k - s.p)
def muL (j : Nat) (l : List Std) : Nat := (l.map (mu j)).sum
theorem muL_push (r : List Std) (s : Std) : muL j (r ++ [s]) = muL j r + mu j s := by simp [muL]
theorem muN_pos (p n : Nat) : 1 ≤ muN j p n := by
 induction n with
 | zero => exact Nat.le_refl _
 | succ m ih => exact Nat.le_trans ih (Nat.le_add_right _ _)
theorem mu_pos (s : Std) : 1 ≤ mu j s := muN_pos _ _
theorem muN_sum (p : Nat) : ∀ n, p + n ≤ j → muN j p n + 2 ^ (j - (p + n) + 1) = 1 + 2 ^ (j - p + 1)
 | 0, _ => rfl
 | n + 1, h => by
  have ih := muN_sum p n (by omega);(have e : j - (p + n) + 1 = j - (p + n + 1) + 1 + 1 := by omega);rw [e, Nat.pow_succ] at ih;unfold muN;rw [show p + (n + 1) = p + n + 1 by omega];omega
theorem mu_down (p c k : Nat) (a : Caps) (h3 : p < k) : mu j ⟨p, c, k - 1, a⟩ ≤ mu j ⟨p, c, k, a⟩ := by
 unfold mu;dsimp only;obtain ⟨n, hn⟩ : ∃ n, k - p = n + 1 := ⟨k - p - 1, by omega⟩;rw [hn, show k - 1 - p = n by omega];exact Nat.le_add_right _ _
theorem mu_step (p c k : Nat) (a x : Caps) (h3 : p < k) (h4 : k ≤ j) : mu j ⟨p, c, k - 1, a⟩ + mu j ⟨k, c + 1, j, x⟩ < mu j ⟨p, c, k, a⟩ := by
 unfold mu;dsimp only;obtain ⟨n, hn⟩ : ∃ n, k - p = n + 1 := ⟨k - p - 1, by omega⟩;have e := muN_sum (j := j) k (j - k) (by omega);rw [show j - (k + (j - k)) + 1 = 1 by omega] at e;rw [hn, show k - 1 - p = n by omega];have e2 : muN j p (n + 1) = muN j p n + 2 ^ (j - k + 1) := by
  show muN j p n + 2 ^ (j - (p + n + 1) + 1) = _;rw [show p + n + 1 = k by omega]
 omega
end
def flatS (l : List Std) : List Value := l.flatMap fun s => [E (s.p : Nat), E (s.c : Nat), E (s.k : Nat), capV (gr s.a 0), capV (gr s.a 1), capV (gr s.a 2), capV (gr s.a 3), capV (gr s.a 4), capV (gr s.a 5), capV (gr s.a 6), capV (gr s.a 7), capV (gr s.a 8), capV (gr s.a 9)]
theorem flatS_len (l : List Std) : (flatS l).length = l.length * 13 := by
 induction l with
 | nil => rfl
 | cons s r ih => rw [show flatS (s :: r) = [E (s.p : Nat), E (s.c : Nat), E (s.k : Nat), capV (gr s.a 0), capV (gr s.a 1), capV (gr s.a 2), capV (gr s.a 3), capV (gr s.a 4), capV (gr s.a 5), capV (gr s.a 6), capV (gr s.a 7), capV (gr s.a 8), capV (gr s.a 9)] ++ flatS r from rfl, List.length_append, ih]; simp; omega
theorem flatS_push (r : List Std) (s : Std) : flatS (r ++ [s]) = flatS r ++ [E (s.p : Nat), E (s.c : Nat), E (s.k : Nat), capV (gr s.a 0), capV (gr s.a 1), capV (gr s.a 2), capV (gr s.a 3), capV (gr s.a 4), capV (gr s.a 5), capV (gr s.a 6), capV (gr s.a 7), capV (gr s.a 8), capV (gr s.a 9)] := by
 unfold flatS; rw [List.flatMap_append]; simp
/-- The row of stands: of its own. -/
def SR (w : World) (B g cap : Nat) (l : List Std) : Prop := w.ownsRow B 173 13 (.slice (some ⟨g, 0, none⟩) l.length cap) l.length (flatS l)
theorem SR.parts {w : World} {B g cap : Nat} {l : List Std} (h : SR w B g cap l) : ∃ cur, B ≤ g ∧ w.heap[g]? = some (.cells cur 173 (0, 0)) ∧ l.length ≤ cap ∧ cap ≤ maxLen ∧ cur.size = cap * 13 ∧ cur.toList.take (l.length * 13) = flatS l := by
 rcases h.2 with ⟨h1, _⟩ | ⟨g', cap', cur, hv, h2, h3, h4, h5, h6, h7⟩
 · cases h1
 · simp only [Value.slice.injEq, Option.some.injEq, Addr.mk.injEq, and_true, true_and] at hv;obtain ⟨rfl, rfl⟩ := hv;exact ⟨cur, h2, h3, h4, h5, h6, h7⟩
theorem SR.of {w : World} {B g cap : Nat} {l : List Std} {cur : Array Value} (h2 : B ≤ g) (h3 : w.heap[g]? = some (.cells cur 173 (0, 0))) (h4 : l.length ≤ cap) (h5 : cap ≤ maxLen) (h6 : cur.size = cap * 13) (h7 : cur.toList.take (l.length * 13) = flatS l) : SR w B g cap l :=
 ⟨flatS_len l, Or.inr ⟨g, cap, cur, rfl, h2, h3, h4, h5, h6, h7⟩⟩
theorem SR.keep {w w' : World} {B g cap : Nat} {l : List Std} (h : SR w B g cap l) (hk : w'.heap[g]? = w.heap[g]?) : SR w' B g cap l := by
 obtain ⟨cur, h2, h3, h4, h5, h6, h7⟩ := h.parts;exact SR.of h2 (hk.trans h3) h4 h5 h6 h7
theorem SR.lt {w : World} {B g cap : Nat} {l : List Std} (h : SR w B g cap l) : g < w.heap.size := by
 obtain ⟨cur, h2, h3, _⟩ := h.parts;exact lt_heap' h3
theorem SR.pop {w : World} {B g cap : Nat} {r : List Std} {s : Std} (h : SR w B g cap (r ++ [s])) : SR w B g cap r := by
 obtain ⟨cur, h2, h3, h4, h5, h6, h7⟩ := h.parts;rw [List.length_append, List.length_singleton] at h4 h7;refine SR.of h2 h3 (by omega) h5 h6 ?_;rw [flatS_push] at h7;have e := congrArg (List.take (r.length * 13)) h7;rw [List.take_take, Nat.min_eq_left (by omega)] at e;rw [e, List.take_append_of_le_length (by rw [flatS_len]; exact Nat.le_refl _)];exact List.take_of_length_le (by rw [flatS_len]; exact Nat.le_refl _)
theorem SR.cell {w : World} {B g cap : Nat} {r : List Std} {s : Std} (h : SR w B g cap (r ++ [s])) (q : Nat) (u : Value) (hq : [E (s.p : Nat), E (s.c : Nat), E (s.k : Nat), capV (gr s.a 0), capV (gr s.a 1), capV (gr s.a 2), capV (gr s.a 3), capV (gr s.a 4), capV (gr s.a 5), capV (gr s.a 6), capV (gr s.a 7), capV (gr s.a 8), capV (gr s.a 9)][q]? = some u) : w.cell? ⟨g, r.length * 13 + q, none⟩ = some u := by
 obtain ⟨cur, h2, h3, h4, h5, h6, h7⟩ := h.parts;have hl : q < 13 := (List.getElem?_eq_some_iff.1 hq).1;rw [Lib.cell_of_heap h3];have e : cur.toList[r.length * 13 + q]? = some u := by
  rw [← List.getElem?_take_of_lt (j := (r ++ [s]).length * 13) (by rw [List.length_append, List.length_singleton]; omega), h7, flatS_push, List.getElem?_append_right (by rw [flatS_len]; omega), flatS_len, show r.length * 13 + q - r.length * 13 = q by omega];exact hq
 simpa using e
/-- The end that is tried next is turned. -/
theorem SR.next {w : World} {B g cap : Nat} {r : List Std} {p c k k' : Nat} {a : Caps} (h : SR w B g cap (r ++ [⟨p, c, k, a⟩])) : SR (w.setCell ⟨g, r.length * 13 + 2, none⟩ (E (k' : Nat))) B g cap (r ++ [⟨p, c, k', a⟩]) := by
 obtain ⟨cur, h2, h3, h4, h5, h6, h7⟩ := h.parts;have h8 : (w.setCell ⟨g, r.length * 13 + 2, none⟩ (E (k' : Nat))).heap[g]? = some (.cells (cur.setIfInBounds (r.length * 13 + 2) (E (k' : Nat))) 173 (0, 0)) := Go.Joins.block_setCell h3 (i := r.length * 13 + 2) (E (k' : Nat));refine SR.of h2 h8 (by simpa using h4) h5 (by simpa using h6) ?_;rw [Array.toList_setIfInBounds, List.length_append, List.length_singleton];rw [List.length_append, List.length_singleton] at h7;rw [List.take_set, h7, flatS_push, flatS_push, List.set_append_right _ _ (by rw [flatS_len]; omega), flatS_len, show r.length * 13 + 2 - r.length * 13 = 2 by omega];rfl
end Go.Proofs.YtlicoffnjphphaaGreatDoor.Mt
