/- The texts MtWno MtWhit MtWmiss MtI MtX MtY. -/
import Derived.Test.YtlicoffnjphphaaGreatDoorQk21
import Derived.Test.YtlicoffnjphphaaGreatDoorQk22
import Derived.Test.YtlicoffnjphphaaGreatDoorQk24
import Derived.Test.YtlicoffnjphphaaGreatDoorQk25
set_option linter.unusedVariables false
set_option linter.unusedSimpArgs false
set_option maxHeartbeats 3200000
set_option maxRecDepth 100000
namespace Go.Proofs.YtlicoffnjphphaaGreatDoor.Mt
open Go.RowKit Go.Shelf
open Go.Proofs.YtlicoffnjphphaaGreatDoor.Rx
open Go.Proofs.YtlicoffnjphphaaGreatDoor.Rx.Tr
open Go.Proofs.YtlicoffnjphphaaGreatDoor.St (Wf word mem SV SV_eq)
theorem fits_no (X : Par) (hX : X.Ok) (hrf : X.refs = false) (x : Tr) (ia : Nat) (HF : FromOk X x ia) (HL : LookOk X x ia) (hs : ∀ (i j : Nat) (c a : Caps), i ≤ j → j ≤ X.N → fitP X.T x i j c = some a → endsP X.T x i j = true) : FitOk X x ia := by
 intro pr i j c w hij hj hc hM;obtain ⟨c0, c1, c2, c3, c4⟩ := hM.facts;rw [hrf] at c2;have hbm := lt_heap' hM.hb;(have hbm2 : X.bm < w.heap.size + 1 := by omega);(have hj0 : (0 : Int) ≤ (j : Int) := by omega);(have hj1 : (j : Int) < (X.N : Int) + 1 := by omega);have HT := Lib.hid (tf_start hM c);have HC := Lib.hid hc;(have hi : i ≤ X.N := by omega);have HFr := Lib.hid HF;have HLk := Lib.hid HL;have HS := Lib.hid hs;clear HF HL hs hM hc;go_enter Tryz.func47, Tryz.ntmps47;cases hgj : endsP X.T x i j
 ·
  go_wp2_with (first
   | (go_at_call 68; have hq := HFr.out _ i _ hi HT.out.mm; refine hq.mono ?_; clear hq; rintro e w2 ⟨g, rfl, hr, hng, hm, hk⟩; have hcl := hr.cell (i := j) (by omega); rw [hgj] at hcl; have HT2 := Lib.hid (HT.out.call hm hk); clear hr hng hm hk HT)
   | (refine wpList_load_row rfl 27 (.tmp 9) rfl w.heap.size rfl _ (CC c) (0, 0) _ HT2.out.bx Tryz.underlying27 rfl (by kernel_rfl) ?_; simp only [Act.put, List.setIfInBounds_toArray, List.set_cons_zero, List.set_cons_succ])
   | (refine wpList_store_row rfl 27 (.tmp 10) (.tmp 28) rfl (w.heap.size + 1) (CC c) rfl rfl _ CZ HT2.out.rs (by kernel_rfl) rfl (cc_one c) ?_; simp only [Act.put, List.setIfInBounds_toArray, List.set_cons_zero, List.set_cons_succ]; obtain ⟨r1, r2, r3⟩ := HT2.out.ret c; have HR := Lib.hid (And.intro r1 (And.intro r2 r3)); clear r1 r2 r3 HT2; generalize World.setRow _ _ _ = W9 at HR ⊢))
  refine bodyPost_ret (res_caps rfl rfl HR.out.1 rfl) rfl ?_;refine ⟨c, false, rfl, ⟨HC.out, ?_⟩, HR.out.2.1, HR.out.2.2⟩;cases hf : fitP X.T x i j c with
  | none => rfl
  | some a => have := HS.out i j c a hij hj hf; rw [hgj] at this; exact absurd this (by simp)
 ·
  go_wp2_with (first
   | (go_at_call 68; have hq := HFr.out _ i _ hi HT.out.mm; refine hq.mono ?_; clear hq; rintro e w2 ⟨g, rfl, hr, hng, hm, hk⟩; have hcl := hr.cell (i := j) (by omega); rw [hgj] at hcl; have HT2 := Lib.hid (HT.out.call hm hk); clear hr hng hm hk HT)
   | (refine wpList_load_row rfl 27 (.tmp 9) rfl w.heap.size rfl _ (CC c) (0, 0) _ HT2.out.bx Tryz.underlying27 rfl (by kernel_rfl) ?_; simp only [Act.put, List.setIfInBounds_toArray, List.set_cons_zero, List.set_cons_succ])
   | (go_at_call 69; have hq := HLk.out _ i j c _ hij hj HC.out HT2.out.mm; refine hq.mono ?_; clear hq; rintro e w3 ⟨c', b, rfl, hl, hm, hk⟩; have HT3 := Lib.hid (HT2.out.call hm hk); have HLE := Lib.hid hl; clear hl hm hk HT2 hcl)
   | (refine wpList_store_row rfl 27 (.tmp 10) (.tmp 35) rfl (w.heap.size + 1) (CC c') rfl rfl _ CZ HT3.out.rs (by kernel_rfl) rfl (cc_one c') ?_; simp only [Act.put, List.setIfInBounds_toArray, List.set_cons_zero, List.set_cons_succ]; obtain ⟨r1, r2, r3⟩ := HT3.out.ret c'; have HR := Lib.hid (And.intro r1 (And.intro r2 r3)); clear r1 r2 r3 HT3; generalize World.setRow _ _ _ = W9 at HR ⊢))
  refine bodyPost_ret (res_caps rfl rfl HR.out.1 rfl) rfl ?_;exact ⟨c', b, rfl, HLE.out, HR.out.2.1, HR.out.2.2⟩
theorem fits_hit (X : Par) (hX : X.Ok) (hrf : X.refs = true) (x : Tr) (o ia : Nat) (ha : At X.l x o) (hia : ia = o + x.size - 1) (pr : Nat → Prop) (i j : Nat) (c : Caps) (w : World) (hij : i ≤ j) (hj : j ≤ X.N) (hc : CapsOk X.N c) (hM : MM X pr w) (a0 : Caps) (b0 : Bool) (hl : LeftOk X.N (fitP X.T x i j c) a0 b0) (hlook : ∀ w' : World, w'.heap[X.b2]? = w.heap[X.b2]? → (Instr.lookup 92 (.map (some X.b2)) (TK ia i j c) true).run Tryz.prog w' = .ok (.tuple #[(LV a0 b0), .bool true]) w') : Calls Tryz.prog 47 #[PT X.bm, E (ia : Nat), E (i : Nat), E (j : Nat), CV c] w (FitAns X pr w (fitP X.T x i j c)) := by
 obtain ⟨c0, c1, c2, c3, c4⟩ := hM.facts;rw [hrf] at c2;have hbm := lt_heap' hM.hb;(have hbm2 : X.bm < w.heap.size + 1 := by omega);have HT := Lib.hid (th_start2 (ia := ia) (i := i) (j := j) (c := c) hM);have HC := Lib.hid hc;have HLK := Lib.hid hlook;have HX := Lib.hid hX;have HAT := Lib.hid ha;have HIA := Lib.hid hia;have HLE := Lib.hid hl;clear hl;clear hM hc hlook hX ha hia;go_enter Tryz.func47, Tryz.ntmps47;rw [show Code.region 6 = Fz 6 from rfl];go_wp2_with (refine wpList_store_row rfl 114 (.tmp 12) (.tmp 41) rfl (w.heap.size + 1 + 1) (KC ia i j c) rfl rfl _ KZ (key_there _ _ _) (by kernel_rfl) rfl (kc_one _ _ _ _) ?_; simp only [Act.put, List.setIfInBounds_toArray, List.set_cons_zero, List.set_cons_succ]; clear c0 c1 c2 c3 c4 hbm hbm2; generalize World.setRow _ _ _ = W0 at HT ⊢);rw [show Fz 6 = Code.region 6 from rfl];refine wp_region_noPanic ?_;refine wp_region_held_drew (S := fun w' => HQ X w ia i j c w') (by kernel_rfl) ?_ (fun hHeld => ?_)
 · (try dsimp only); exact HT.out.drew.hq
 have HTD := Lib.hid HT.out.drew;clear HT;generalize World.drew _ = W1 at HTD hHeld ⊢;refine Tk.t 0 ?_;refine Tk.t 1 ?_;refine Tk.t 2 ?_;refine Tk.t 3 (hy := by (intro wv hSw; (try dsimp only at hSw); obtain ⟨q0, q1, q2⟩ := hSw; go_simp) <;> with_reducible rfl) ?_;refine Tk.t 4 (hy := fun wv hSw => exec_load_row 114 (.tmp 12) rfl (w.heap.size + 1 + 1) rfl _ (KC ia i j c) _ _ hSw.2.1 Tryz.underlying114 rfl (by kernel_rfl)) ?_;refine Tk.t 5 (hy := by (intro wv hSw; (try dsimp only at hSw); obtain ⟨q0, q1, q2⟩ := hSw; have q4 := HLK.out _ q2; go_simp) <;> with_reducible rfl) ?_;refine Tk.t 6 ?_;refine Tk.t 7 ?_;refine Tk.t 8 ?_;refine Tk.o 9 (fun K hK => ?_);have hsz := HTD.out.sz;go_simp;refine hK.out _ _ ?_ (fun hHeld => Tk.w ?_)
 · (try dsimp only); (exact HTD.out.lay_hq LZ)
 clear hK K;refine Tk.o 10 (fun K hK => ?_);refine step_store_row rfl 116 (.tmp 13) (.tmp 49) rfl (w.heap.size + 1 + 1 + 1) (LC a0 b0) rfl rfl _ LZ (left_there HTD.out) (by kernel_rfl) rfl (lc_one a0 b0) ?_;rw [left_laid HTD.out (LC a0 b0)];refine hK.out _ _ ?_ (fun hHeld => Tk.w ?_)
 · (try dsimp only); (exact HTD.out.lay_hq (LC a0 b0))
 clear hK K;refine Tk.t 11 ?_;refine Tk.d ?_;have HG := Lib.hid (HTD.out.lay (LC a0 b0));have HB2 := Lib.hid (HTD.out.lay_hq (LC a0 b0)).2.2;clear hHeld HTD HLK hsz;generalize World.alloc _ _ = W2 at HG HB2 ⊢;go_wp2;have HGD := Lib.hid (HG.out.below (Below.refl _ _).drew);refine wp_region_noPanic ?_;refine wp_region_held_drew (S := fun w' => w'.heap[w.heap.size + 1 + 1 + 1]? = some (.cells (LC a0 b0) 116 (0, 0))) (by kernel_rfl) ?_ (fun hHeld => ?_)
 · (try dsimp only); exact HGD.out.xx
 clear HG;generalize World.drew _ = W5 at HGD hHeld ⊢;refine Tk.t 0 ?_;refine Tk.t 1 (hy := fun wv hSw => exec_load_mid 27 (.tmp 70) rfl (w.heap.size + 1 + 1 + 1) 0 rfl (CC a0).toList _ (range_part (pre := []) (post := [.bool b0]) hSw rfl) Tryz.underlying27 rfl (by kernel_rfl)) ?_;refine Tk.t 2 ?_;refine Tk.k (fun _ h => cells11 h) 3 ?_;refine Tk.o 4 (fun K hK => ?_);refine step_store_row rfl 27 (.tmp 10) (.tmp 71) rfl (w.heap.size + 1) (CC a0) rfl rfl _ CZ HGD.out.rs (by kernel_rfl) rfl (cc_one a0) ?_;obtain ⟨r1, r2, r3, r4⟩ := HGD.out.ret a0;have HR := Lib.hid (And.intro r1 (And.intro r2 r3));clear r1 r2 r3 HGD;generalize World.setRow _ _ _ = W9 at HR r4 ⊢;refine hK.out _ _ ?_ (fun hHeld => Tk.w ?_)
 · (try dsimp only); (exact r4)
 clear hK K;refine Tk.t 5 ?_;refine Tk.d ?_;clear hHeld r4;go_wp2;refine bodyPost_ret (res_caps rfl rfl HR.out.1 rfl) rfl ?_;exact ⟨a0, b0, rfl, HLE.out, HR.out.2.1, HR.out.2.2⟩
theorem fits_miss (X : Par) (hX : X.Ok) (hrf : X.refs = true) (x : Tr) (o ia : Nat) (ha : At X.l x o) (hia : ia = o + x.size - 1) (pr : Nat → Prop) (i j : Nat) (c : Caps) (w : World) (hij : i ≤ j) (hj : j ≤ X.N) (hc : CapsOk X.N c) (hM : MM X pr w) (HL : LookOk X x ia) (hlook : ∀ w' : World, w'.heap[X.b2]? = w.heap[X.b2]? → (Instr.lookup 92 (.map (some X.b2)) (TK ia i j c) true).run Tryz.prog w' = .ok (.tuple #[(.agg LZ), .bool false]) w') : Calls Tryz.prog 47 #[PT X.bm, E (ia : Nat), E (i : Nat), E (j : Nat), CV c] w (FitAns X pr w (fitP X.T x i j c)) := by
 obtain ⟨c0, c1, c2, c3, c4⟩ := hM.facts;rw [hrf] at c2;have hbm := lt_heap' hM.hb;(have hbm2 : X.bm < w.heap.size + 1 := by omega);have HT := Lib.hid (th_start2 (ia := ia) (i := i) (j := j) (c := c) hM);have HC := Lib.hid hc;have HLK := Lib.hid hlook;have HX := Lib.hid hX;have HAT := Lib.hid ha;have HIA := Lib.hid hia;have HLk := Lib.hid HL;clear HL;clear hM hc hlook hX ha hia;go_enter Tryz.func47, Tryz.ntmps47;rw [show Code.region 6 = Fz 6 from rfl];go_wp2_with (refine wpList_store_row rfl 114 (.tmp 12) (.tmp 41) rfl (w.heap.size + 1 + 1) (KC ia i j c) rfl rfl _ KZ (key_there _ _ _) (by kernel_rfl) rfl (kc_one _ _ _ _) ?_; simp only [Act.put, List.setIfInBounds_toArray, List.set_cons_zero, List.set_cons_succ]; clear c0 c1 c2 c3 c4 hbm hbm2; generalize World.setRow _ _ _ = W0 at HT ⊢);rw [show Fz 6 = Code.region 6 from rfl];refine wp_region_noPanic ?_;refine wp_region_held_drew (S := fun w' => HQ X w ia i j c w') (by kernel_rfl) ?_ (fun hHeld => ?_)
 · (try dsimp only); exact HT.out.drew.hq
 have HTD := Lib.hid HT.out.drew;clear HT;generalize World.drew _ = W1 at HTD hHeld ⊢;refine Tk.t 0 ?_;refine Tk.t 1 ?_;refine Tk.t 2 ?_;refine Tk.t 3 (hy := by (intro wv hSw; (try dsimp only at hSw); obtain ⟨q0, q1, q2⟩ := hSw; go_simp) <;> with_reducible rfl) ?_;refine Tk.t 4 (hy := fun wv hSw => exec_load_row 114 (.tmp 12) rfl (w.heap.size + 1 + 1) rfl _ (KC ia i j c) _ _ hSw.2.1 Tryz.underlying114 rfl (by kernel_rfl)) ?_;refine Tk.t 5 (hy := by (intro wv hSw; (try dsimp only at hSw); obtain ⟨q0, q1, q2⟩ := hSw; have q4 := HLK.out _ q2; go_simp) <;> with_reducible rfl) ?_;refine Tk.t 6 ?_;refine Tk.t 7 ?_;refine Tk.t 8 ?_;refine Tk.o 9 (fun K hK => ?_);have hsz := HTD.out.sz;go_simp;refine hK.out _ _ ?_ (fun hHeld => Tk.w ?_)
 · (try dsimp only); (exact HTD.out.lay_hq LZ)
 clear hK K;refine Tk.o 10 (fun K hK => ?_);refine step_store_row rfl 116 (.tmp 13) (.tmp 49) rfl (w.heap.size + 1 + 1 + 1) LZ rfl rfl _ LZ (left_there HTD.out) (by kernel_rfl) rfl (by simp [Value.oneCell']) ?_;rw [left_laid HTD.out LZ];refine hK.out _ _ ?_ (fun hHeld => Tk.w ?_)
 · (try dsimp only); (exact HTD.out.lay_hq LZ)
 clear hK K;refine Tk.t 11 ?_;refine Tk.d ?_;have HG := Lib.hid (HTD.out.lay LZ);have HB2 := Lib.hid (HTD.out.lay_hq LZ).2.2;clear hHeld HTD HLK hsz;generalize World.alloc _ _ = W2 at HG HB2 ⊢;go_wp2_with (first
  | (refine wpList_load_row rfl 27 (.tmp 9) rfl w.heap.size rfl _ (CC c) (0, 0) _ HG.out.bx Tryz.underlying27 rfl (by kernel_rfl) ?_; simp only [Act.put, List.setIfInBounds_toArray, List.set_cons_zero, List.set_cons_succ])
  | (go_at_call 69; have hq := HLk.out _ i j c _ hij hj HC.out HG.out.mm; refine hq.mono ?_; clear hq; rintro e w3 ⟨a1, b1, rfl, hl, hm, hk⟩; have HG3 := Lib.hid (HG.out.call hm hk); have HLE := Lib.hid hl; clear hl hm hk HG HB2)
  | (refine wpList_store_mid rfl 27 (.tmp 62) (.tmp 60) rfl (w.heap.size + 1 + 1 + 1) 0 (CC a1) rfl rfl HG3.out.there (by kernel_rfl) (cc_one a1) ?_; simp only [Act.put, List.setIfInBounds_toArray, List.set_cons_zero, List.set_cons_succ]; have HG4 := Lib.hid (HG3.out.caps a1); clear HG3; generalize World.setCells _ _ _ _ = W4 at HG4 ⊢; have hfz := HG4.out.fz 10; have hcl := (cells11 HG4.out.xx).2.2.2.2.2.2.2.2.2.2; have HG5 := Lib.hid (HG4.out.bool b1)))
 have HG6 := Lib.hid (HG5.out.below (Below.refl _ _).drew);clear HG4 HG5 hfz hcl;refine wp_region_noPanic ?_;refine wp_region_held_drew (S := fun w' => w'.cell? ⟨X.bm, 4, none⟩ = some (.map (some X.b2)) ∧ w'.heap[w.heap.size + 1 + 1]? = some (.cells (KC ia i j c) 114 (0, 0)) ∧ w'.heap[w.heap.size + 1 + 1 + 1]? = some (.cells (LC a1 b1) 116 (0, 0))) (by kernel_rfl) ?_ (fun hHeld => ?_)
 · (try dsimp only); exact ⟨HG6.out.mm.facts.2.2.2.2, HG6.out.kk, HG6.out.xx⟩
 generalize World.drew _ = W6 at HG6 hHeld ⊢;refine Tk.t 0 ?_;refine Tk.t 1 ?_;refine Tk.t 2 ?_;refine Tk.t 3 (hy := by (intro wv hSw; (try dsimp only at hSw); obtain ⟨q0, q1, q2⟩ := hSw; go_simp) <;> with_reducible rfl) ?_;refine Tk.t 4 (hy := fun wv hSw => exec_load_row 114 (.tmp 12) rfl (w.heap.size + 1 + 1) rfl _ (KC ia i j c) _ _ hSw.2.1 Tryz.underlying114 rfl (by kernel_rfl)) ?_;refine Tk.t 5 (hy := fun wv hSw => exec_load_row 116 (.tmp 13) rfl (w.heap.size + 1 + 1 + 1) rfl _ (LC a1 b1) _ _ hSw.2.2 Tryz.underlying116 rfl (by kernel_rfl)) ?_;refine Tk.o 6 (fun K hK => ?_);obtain ⟨w9, hrun, hmm, hkm⟩ := HG6.out.mm.put2 HX.out HAT.out HC.out HLE.out;rw [← HIA.out] at hrun;have HG7 := Lib.hid (HG6.out.call hmm hkm);clear hmm hkm;go_simp;refine hK.out _ _ ?_ (fun hHeld => Tk.w ?_)
 · (try dsimp only); (exact ⟨HG7.out.mm.facts.2.2.2.2, HG7.out.kk, HG7.out.xx⟩)
 clear hK K;refine Tk.d ?_;clear hHeld hrun HG6;go_wp2;have HGD := Lib.hid (HG7.out.below (Below.refl _ _).drew);refine wp_region_noPanic ?_;refine wp_region_held_drew (S := fun w' => w'.heap[w.heap.size + 1 + 1 + 1]? = some (.cells (LC a1 b1) 116 (0, 0))) (by kernel_rfl) ?_ (fun hHeld => ?_)
 · (try dsimp only); exact HGD.out.xx
 clear HG7;generalize World.drew _ = W5 at HGD hHeld ⊢;refine Tk.t 0 ?_;refine Tk.t 1 (hy := fun wv hSw => exec_load_mid 27 (.tmp 70) rfl (w.heap.size + 1 + 1 + 1) 0 rfl (CC a1).toList _ (range_part (pre := []) (post := [.bool b1]) hSw rfl) Tryz.underlying27 rfl (by kernel_rfl)) ?_;refine Tk.t 2 ?_;refine Tk.k (fun _ h => cells11 h) 3 ?_;refine Tk.o 4 (fun K hK => ?_);refine step_store_row rfl 27 (.tmp 10) (.tmp 71) rfl (w.heap.size + 1) (CC a1) rfl rfl _ CZ HGD.out.rs (by kernel_rfl) rfl (cc_one a1) ?_;obtain ⟨r1, r2, r3, r4⟩ := HGD.out.ret a1;have HR := Lib.hid (And.intro r1 (And.intro r2 r3));clear r1 r2 r3 HGD;generalize World.setRow _ _ _ = W9 at HR r4 ⊢;refine hK.out _ _ ?_ (fun hHeld => Tk.w ?_)
 · (try dsimp only); (exact r4)
 clear hK K;refine Tk.t 5 ?_;refine Tk.d ?_;clear hHeld r4;go_wp2;refine bodyPost_ret (res_caps rfl rfl HR.out.1 rfl) rfl ?_;exact ⟨a1, b1, rfl, HLE.out, HR.out.2.1, HR.out.2.2⟩
theorem fits_all (X : Par) (hX : X.Ok) (x : Tr) (o : Nat) (ha : At X.l x o) (hn : NumsOk x) (hs : SetsOk x) (hr : X.refs = false → refsT x = 0) (HL : LookOk X x (o + x.size - 1)) : FitOk X x (o + x.size - 1) := by
 cases hrf : X.refs with
 | false => exact fits_no X hX hrf x _ (from_all X hX x o ha (hr hrf) hs) HL fun i j c a h1 h2 h => ends_sound x (hr hrf) hn i j c a h1 h2 h
 | true =>
  intro pr i j c w hij hj hc hM;obtain ⟨v, b, hlook, hb⟩ := hM.look2 hX ha (size_pos x) i j hc;rcases hb with ⟨rfl, z, rfl, rfl⟩ | ⟨rfl, c', b', rfl, hl⟩
  · exact fits_miss X hX hrf x o _ ha rfl pr i j c w hij hj hc hM HL hlook
  · exact fits_hit X hX hrf x o _ ha rfl pr i j c w hij hj hc hM c' b' hl hlook
theorem reaches_all (X : Par) (hX : X.Ok) (x : Tr) (o : Nat) (ha : At X.l x o) (hs : SetsOk x) (hr : X.refs = false → refsT x = 0) (b m : Nat) (z : List Nat) (mn mx : Int) (h1 : 0 ≤ mn) (h2 : mn ≤ 255) (h3 : -1 ≤ mx) (h4 : mx ≤ 255) (j : Nat) (hj : j ≤ X.N) :
  ∀ (pr : Nat → Prop) (k cc : Nat) (a : Caps) (w : World), k ≤ X.N → cc ≤ 200000 → MM X pr w → Calls Tryz.prog 117 #[PT X.bm, NV ⟨6, z, ((o + x.size - 1 : Nat) : Int), (b : Nat), mn, mx, (m : Nat)⟩, SD k cc j a, E (j : Nat)] w fun e w' => e = .returned (.bool (rch X x mn mx k cc j)) ∧ MM X pr w' ∧ Km X w w' := by
 intro pr k cc a w hk hcc hM;cases hrf : X.refs with
 | true =>
  refine (reaches_refs X hrf pr _ k cc j a j w hM).mono ?_;rintro e w' ⟨rfl, hb⟩;refine ⟨?_, hM.below hb, Km.of_below hb⟩;unfold rch;rw [hrf];rfl
 | false =>
  refine (reaches_no X hX hrf x _ (from_all X hX x o ha (hr hrf) hs) pr ⟨6, z, ((o + x.size - 1 : Nat) : Int), (b : Nat), mn, mx, (m : Nat)⟩ rfl h1 h2 h3 h4 k cc j hk hcc a j hj w hM).mono ?_;rintro e w' ⟨rfl, hm, hk⟩;refine ⟨?_, hm, hk⟩;unfold rch;rw [hrf];rfl
theorem look_all (X : Par) (hX : X.Ok) (em : Prop) : ∀ (x : Tr) (o : Nat), At X.l x o → x.Fine em → SetsOk x → (X.refs = false → refsT x = 0) → LookOk X x (o + x.size - 1) := by
 intro x
 induction x with
 | e =>
  intro o ha hf hs hr pr i j c w hij hj hc hM;obtain ⟨nb, no, cap, hv, hlt, hN⟩ := hM.node hX ha;exact look_0 X hX _ pr i j c w hij hj hc hM nb no cap hv hlt z4 0 0 0 0 0 hN _ rfl
 | set s =>
  intro o ha hf hs hr pr i j c w hij hj hc hM;obtain ⟨nb, no, cap, hv, hlt, hN⟩ := hM.node hX ha;exact look_1 X hX _ pr i j c w hij hj hc hM nb no cap hv hlt s 0 0 0 0 0 hN hs _ rfl
 | beg =>
  intro o ha hf hs hr pr i j c w hij hj hc hM;obtain ⟨nb, no, cap, hv, hlt, hN⟩ := hM.node hX ha;exact look_2 X hX _ pr i j c w hij hj hc hM nb no cap hv hlt z4 0 0 0 0 0 hN _ rfl
 | fin =>
  intro o ha hf hs hr pr i j c w hij hj hc hM;obtain ⟨nb, no, cap, hv, hlt, hN⟩ := hM.node hX ha;exact look_3 X hX _ pr i j c w hij hj hc hM nb no cap hv hlt z4 0 0 0 0 0 hN _ rfl
 | cat x y ihx ihy =>
  intro o ha hf hs hr pr i j c w hij hj hc hM;obtain ⟨nb, no, cap, hv, hlt, hN⟩ := hM.node hX ha;have hx := at_left ha (r := _ ++ _) (by rw [← List.append_assoc]; rfl);have hy := at_right ha (by rw [← List.append_assoc]; rfl);(have hrx : X.refs = false → refsT x = 0 := fun q => by have := hr q; simp only [refsT] at this; omega);(have hry : X.refs = false → refsT y = 0 := fun q => by have := hr q; simp only [refsT] at this; omega);have h3 := fits_all X hX x o hx (nums_fine em x hf.1) hs.1 hrx (ihx o hx hf.1 hs.1 hrx);have h4 := fits_all X hX y (o + x.size) hy (nums_fine em y hf.2.1) hs.2 hry (ihy _ hy hf.2.1 hs.2 hry);exact look_4 X hX _ pr i j c w hij hj hc hM nb no cap hv hlt z4 _ _ 0 0 0 hN x y h3 h4 _ rfl
 | alt x y ihx ihy =>
  intro o ha hf hs hr pr i j c w hij hj hc hM;obtain ⟨nb, no, cap, hv, hlt, hN⟩ := hM.node hX ha;have hx := at_left ha (r := _ ++ _) (by rw [← List.append_assoc]; rfl);have hy := at_right ha (by rw [← List.append_assoc]; rfl);(have hrx : X.refs = false → refsT x = 0 := fun q => by have := hr q; simp only [refsT] at this; omega);(have hry : X.refs = false → refsT y = 0 := fun q => by have := hr q; simp only [refsT] at this; omega);have h3 := fits_all X hX x o hx (nums_fine em x hf.1) hs.1 hrx (ihx o hx hf.1 hs.1 hrx);have h4 := fits_all X hX y (o + x.size) hy (nums_fine em y hf.2.1) hs.2 hry (ihy _ hy hf.2.1 hs.2 hry);refine look_5 X hX _ pr i j c w hij hj hc hM nb no cap hv hlt z4 _ _ 0 0 0 hN x y h3 h4 _ ?_;show fitP X.T (.alt x y) i j c = _;rw [fitP];cases fitP X.T x i j c <;> rfl
 | times mn mx x ihx =>
  intro o ha hf hs hr pr i j c w hij hj hc hM;obtain ⟨nb, no, cap, hv, hlt, hN⟩ := hM.node hX ha;have hx := at_left ha rfl;(have hrx : X.refs = false → refsT x = 0 := fun q => by have := hr q; simp only [refsT] at this; omega);have h3 := fits_all X hX x o hx (nums_fine em x hf.1) hs hrx (ihx o hx hf.1 hs hrx);obtain ⟨_, f1, f2, f3, _⟩ := hf;refine look_6 X hX _ pr i j c w hij hj hc hM nb no cap hv hlt z4 _ 0 mn mx 0 hN _ (fun pr w hM => ?_) _ rfl;obtain ⟨nb, no, cap, hv, hlt, hN⟩ := hM.node hX ha;by_cases hmx : mx = -1
  · subst hmx;exact again_inf X hX _ _ x mn f1 f2 hrx (nums_fine em x ‹_›) pr i j c w hij hj hc hM nb no cap hv hlt z4 0 0 hN h3 (reaches_all X hX x o hx hs hrx 0 0 z4 mn (-1) f1 f2 (by omega) (by omega) j hj) _ rfl
  · exact again_max X hX _ _ x mn mx f1 f2 hmx (by omega) hrx (nums_fine em x ‹_›) pr i j c w hij hj hc hM nb no cap hv hlt z4 0 0 hN h3 (reaches_all X hX x o hx hs hrx 0 0 z4 mn mx f1 f2 (by omega) (by omega) j hj) _ rfl
 | grp n x ihx =>
  intro o ha hf hs hr pr i j c w hij hj hc hM;obtain ⟨nb, no, cap, hv, hlt, hN⟩ := hM.node hX ha;have hx := at_left ha rfl;(have hrx : X.refs = false → refsT x = 0 := fun q => by have := hr q; simp only [refsT] at this; omega);have h3 := fits_all X hX x o hx (nums_fine em x hf.1) hs hrx (ihx o hx hf.1 hs hrx);obtain ⟨_, f1, f2⟩ := hf;obtain ⟨m, rfl⟩ : ∃ m : Nat, n = (m : Int) := ⟨n.toNat, by omega⟩;exact look_7 X hX _ pr i j c w hij hj hc hM nb no cap hv hlt z4 _ 0 0 0 m hN (by omega) (by omega) x h3 _ rfl
 | ref n =>
  intro o ha hf hs hr pr i j c w hij hj hc hM;obtain ⟨nb, no, cap, hv, hlt, hN⟩ := hM.node hX ha;obtain ⟨f1, f2⟩ := hf;obtain ⟨m, rfl⟩ : ∃ m : Nat, n = (m : Int) := ⟨n.toNat, by omega⟩;exact look_8 X hX _ pr i j c w hij hj hc hM nb no cap hv hlt z4 0 0 0 0 m hN (by omega) (by omega) _ rfl
/-- The whole pattern. -/
theorem fits_whole (X : Par) (hX : X.Ok) : FitOk X X.t (X.l.length - 1) := by
 have hw := hX.good.1;have ha : At X.l X.t 0 := at_self X.t;have hr : X.refs = false → refsT X.t = 0 := fun q => by
  unfold Par.refs at q;have := of_decide_eq_false q;omega
 have := fits_all X hX X.t 0 ha (nums_fine _ X.t hw) hX.sets hr (look_all X hX _ X.t 0 ha hw hX.sets hr);rw [show X.l.length = X.t.size from nodes_len _ _]
 rwa [Nat.zero_add] at this
/-- What a group has of a text. -/
def groupP (T : List UInt8) (c : Caps) (n : Int) : List UInt8 := if 0 ≤ n ∧ n < 10 then cutC T (gr c n.toNat) else []
theorem group_any (T : List UInt8) (hT : T.length ≤ 100000) (c : Caps) (hc : CapsOk T.length c) (n : Int) (w : World) (R : List UInt8) (hR : R = groupP T c n) : Calls Tryz.prog 19 #[S T, CV c, E n] w fun e w' => e = .returned (S R) ∧ Below w.heap.size w w' := by
 have HRR := Lib.hid hR;have HB := Lib.hid ((Below.refl w.heap.size w).alloc (Nat.le_refl _) (.cells (CC c) 27));clear hR;by_cases h0 : n < 0
 · have HN := Lib.hid h0;go_enter Tryz.func19, Tryz.ntmps19;go_wp2;go_ret;refine ⟨?_, HB.out⟩;rw [HRR.out, groupP, if_neg (by have := HN.out; omega)];try rfl
 ·
  by_cases h1 : 10 ≤ n
  · have HN := Lib.hid h1;go_enter Tryz.func19, Tryz.ntmps19;go_wp2;go_ret;refine ⟨?_, HB.out⟩;rw [HRR.out, groupP, if_neg (by have := HN.out; omega)];try rfl
  · obtain ⟨m, rfl⟩ : ∃ m : Nat, n = (m : Int) := ⟨n.toNat, by omega⟩;(have hm : m < 10 := by omega);have HM := Lib.hid hm;have hcl := cap_cell (show CB (w.alloc (.cells (CC c) 27)) w.heap.size c from heap_alloc_new _ _) hm;(have hm0 : (0 : Int) ≤ (m : Int) := by omega);have HCU := Lib.hid (fun W => cut_cap (T := T) (by omega) (hc.at m) W);generalize hcv : capV (gr c m) = cv at HCU hcl;clear hcv hc hm;go_enter Tryz.func19, Tryz.ntmps19;go_wp2_with (go_at_call 37; refine (HCU.out _).mono ?_; rintro e w2 ⟨rfl, rfl⟩);go_ret;refine ⟨?_, HB.out⟩;rw [HRR.out, groupP, if_pos (by have := HM.out; omega)];try rfl
/-- The matcher that has just been made. -/
theorem mat_new {e : Ending} {t : Tr} {w1 w' : World} {T : List UInt8} {v : Value} (h : ∃ X : Par, X.Ok ∧ X.w0 = w1 ∧ X.T = T ∧ X.t = t ∧ X.v = v ∧ e = .returned (PT X.bm) ∧ MM X (fun _ => False) w') :
  ∃ bm b1 b2, e = .returned (PT bm) ∧ (⟨w1, T, t, v, bm, b1, b2⟩ : Par).Ok ∧ MM ⟨w1, T, t, v, bm, b1, b2⟩ (fun _ => False) w' := by
 obtain ⟨⟨w0, T0, t0, v0, bm, b1, b2⟩, hX, e1, e2, e3, e4, e5, hM⟩ := h;dsimp only at e1 e2 e3 e4 e5;subst e1 e2 e3 e4;exact ⟨bm, b1, b2, e5, hX, hM⟩
/-- The whole, of such a matcher. -/
theorem whole_mat {X : Par} (hX : X.Ok) {w : World} (hM : MM X (fun _ => False) w) {i j : Nat} (hij : i ≤ j) (hj : j ≤ X.N) {R : Option Caps} (hR : R = wholeP X.T X.t i j) :
  Calls Tryz.prog 33 #[PT X.bm, E (i : Nat), E (j : Nat)] w fun e w' => e = .returned (.tuple #[CV (R.getD nones), .bool R.isSome]) ∧ MM X (fun _ => False) w' ∧ Km X w w' := by
 obtain ⟨nb, no, cap, hv, _⟩ := hM.node hX (at_self X.t);have hl : X.l.length = X.t.size := nodes_len _ _;have hp := size_pos X.t;have hg := hX.good.2.1;refine (whole_any X hX _ i j hij hj w hM nb no cap hv (by omega) (by omega) (fits_whole X hX) R hR).mono ?_;rintro e w' ⟨rfl, hm, hk⟩;exact ⟨rfl, hm, hk⟩
theorem own_km {X : Par} {pr : Nat → Prop} {w w' : World} (h : MM X pr w) {B e n z : Nat} {v : Value} {xs : List Value} (ho : w.ownsRow B e z v n xs) (hk : Km X w w') : w'.ownsRow B e z v n xs := by
 refine ⟨ho.1, ?_⟩;rcases ho.2 with hv | ⟨g, cap, cur, hv, h1, h2, h3⟩
 · exact Or.inl hv
 · exact Or.inr ⟨g, cap, cur, hv, h1, mm_keep h hk h2, h3⟩
theorem Whole_no (l : List Nd) (ao : Option Addr) (c : Nat) (w : World) (h : Ns w (.slice ao l.length c) l) (hw : ∀ n ∈ l, Wf n.s) (T : List UInt8) (i j : Int) (hbad : mayL l = false ∨ i < 0 ∨ j < i ∨ (T.length : Int) < j) :
  Calls Tryz.prog 17 #[.slice ao l.length c, S T, E i, E j] w fun e w' => e = .returned (ansC none) ∧ Below w.heap.size w w' := by
 have HZ := Lib.hid (heap_alloc_new w (.cells CZ 27));have HB0 := Lib.hid ((Below.refl w.heap.size w).alloc (Nat.le_refl _) (.cells CZ 27));have HMAY := Lib.hid (fun (W : World) (hb : Below w.heap.size w W) => may_any ao c l W (h.below hb) hw);have HNA := Lib.hid (fun W => none_any W);clear h hw;generalize l.length = n at *;cases hm : mayL l
 ·
  clear hbad;rw [hm] at HMAY;clear hm;go_enter Tryz.func17, Tryz.ntmps17;go_wp2_with (first
   | (go_at_call 24; refine (HMAY.out _ HB0.out).mono ?_; rintro e w1 ⟨rfl, hb⟩; have HBL := Lib.hid (HB0.out.trans (hb.mono HB0.out.size)); have HRL := Lib.hid ((hb.block _ (by simp)).trans HZ.out); clear hb)
   | (go_at_call 21; refine (HNA.out _).mono ?_; rintro e w8 ⟨rfl, hb⟩; have HB8 := Lib.hid (HBL.out.trans (hb.mono HBL.out.size)); have HR8 := Lib.hid ((hb.block _ (lt_heap' HRL.out)).trans HRL.out); clear hb)
   | (refine wpList_store_row rfl 27 (.tmp 8) (.tmp 28) rfl w.heap.size (CC nones) rfl rfl _ CZ HR8.out (by kernel_rfl) rfl (cc_one nones) ?_; simp only [Act.put, List.setIfInBounds_toArray, List.set_cons_zero, List.set_cons_succ]; have HR := Lib.hid (And.intro (setRow_heap _ _ _ (CC nones) _ _ HR8.out) (below_setRow (B := w.heap.size) HB8.out (g := w.heap.size) (Nat.le_refl _) (CC nones))); generalize World.setRow _ _ _ = W9 at HR ⊢))
  refine bodyPost_ret (res_caps rfl rfl HR.out.1 rfl) rfl ?_;exact ⟨rfl, HR.out.2⟩
 ·
  rw [hm] at hbad;(replace hbad : i < 0 ∨ j < i ∨ (T.length : Int) < j := by simpa using hbad);by_cases h0 : i < 0
  ·
   clear hbad;rw [hm] at HMAY;clear hm;go_enter Tryz.func17, Tryz.ntmps17;go_wp2_with (first
    | (go_at_call 24; refine (HMAY.out _ HB0.out).mono ?_; rintro e w1 ⟨rfl, hb⟩; have HBL := Lib.hid (HB0.out.trans (hb.mono HB0.out.size)); have HRL := Lib.hid ((hb.block _ (by simp)).trans HZ.out); clear hb)
    | (go_at_call 21; refine (HNA.out _).mono ?_; rintro e w8 ⟨rfl, hb⟩; have HB8 := Lib.hid (HBL.out.trans (hb.mono HBL.out.size)); have HR8 := Lib.hid ((hb.block _ (lt_heap' HRL.out)).trans HRL.out); clear hb)
    | (refine wpList_store_row rfl 27 (.tmp 8) (.tmp 28) rfl w.heap.size (CC nones) rfl rfl _ CZ HR8.out (by kernel_rfl) rfl (cc_one nones) ?_; simp only [Act.put, List.setIfInBounds_toArray, List.set_cons_zero, List.set_cons_succ]; have HR := Lib.hid (And.intro (setRow_heap _ _ _ (CC nones) _ _ HR8.out) (below_setRow (B := w.heap.size) HB8.out (g := w.heap.size) (Nat.le_refl _) (CC nones))); generalize World.setRow _ _ _ = W9 at HR ⊢))
   refine bodyPost_ret (res_caps rfl rfl HR.out.1 rfl) rfl ?_;exact ⟨rfl, HR.out.2⟩
  by_cases h1 : j < i
  ·
   clear hbad;rw [hm] at HMAY;clear hm;go_enter Tryz.func17, Tryz.ntmps17;go_wp2_with (first
    | (go_at_call 24; refine (HMAY.out _ HB0.out).mono ?_; rintro e w1 ⟨rfl, hb⟩; have HBL := Lib.hid (HB0.out.trans (hb.mono HB0.out.size)); have HRL := Lib.hid ((hb.block _ (by simp)).trans HZ.out); clear hb)
    | (go_at_call 21; refine (HNA.out _).mono ?_; rintro e w8 ⟨rfl, hb⟩; have HB8 := Lib.hid (HBL.out.trans (hb.mono HBL.out.size)); have HR8 := Lib.hid ((hb.block _ (lt_heap' HRL.out)).trans HRL.out); clear hb)
    | (refine wpList_store_row rfl 27 (.tmp 8) (.tmp 28) rfl w.heap.size (CC nones) rfl rfl _ CZ HR8.out (by kernel_rfl) rfl (cc_one nones) ?_; simp only [Act.put, List.setIfInBounds_toArray, List.set_cons_zero, List.set_cons_succ]; have HR := Lib.hid (And.intro (setRow_heap _ _ _ (CC nones) _ _ HR8.out) (below_setRow (B := w.heap.size) HB8.out (g := w.heap.size) (Nat.le_refl _) (CC nones))); generalize World.setRow _ _ _ = W9 at HR ⊢))
   refine bodyPost_ret (res_caps rfl rfl HR.out.1 rfl) rfl ?_;exact ⟨rfl, HR.out.2⟩
  (have h2 : (T.length : Int) < j := by omega);clear hbad;rw [hm] at HMAY;clear hm;go_enter Tryz.func17, Tryz.ntmps17;go_wp2_with (first
   | (go_at_call 24; refine (HMAY.out _ HB0.out).mono ?_; rintro e w1 ⟨rfl, hb⟩; have HBL := Lib.hid (HB0.out.trans (hb.mono HB0.out.size)); have HRL := Lib.hid ((hb.block _ (by simp)).trans HZ.out); clear hb)
   | (go_at_call 21; refine (HNA.out _).mono ?_; rintro e w8 ⟨rfl, hb⟩; have HB8 := Lib.hid (HBL.out.trans (hb.mono HBL.out.size)); have HR8 := Lib.hid ((hb.block _ (lt_heap' HRL.out)).trans HRL.out); clear hb)
   | (refine wpList_store_row rfl 27 (.tmp 8) (.tmp 28) rfl w.heap.size (CC nones) rfl rfl _ CZ HR8.out (by kernel_rfl) rfl (cc_one nones) ?_; simp only [Act.put, List.setIfInBounds_toArray, List.set_cons_zero, List.set_cons_succ]; have HR := Lib.hid (And.intro (setRow_heap _ _ _ (CC nones) _ _ HR8.out) (below_setRow (B := w.heap.size) HB8.out (g := w.heap.size) (Nat.le_refl _) (CC nones))); generalize World.setRow _ _ _ = W9 at HR ⊢))
  refine bodyPost_ret (res_caps rfl rfl HR.out.1 rfl) rfl ?_;exact ⟨rfl, HR.out.2⟩
theorem Longest_no (l : List Nd) (ao : Option Addr) (c : Nat) (w : World) (h : Ns w (.slice ao l.length c) l) (hw : ∀ n ∈ l, Wf n.s) (T : List UInt8) (i : Int) (hbad : mayL l = false ∨ i < 0 ∨ (T.length : Int) < i) :
  Calls Tryz.prog 11 #[.slice ao l.length c, S T, E i] w fun e w' => e = .returned (ansC none) ∧ Below w.heap.size w w' := by
 have HZ := Lib.hid (heap_alloc_new w (.cells CZ 27));have HB0 := Lib.hid ((Below.refl w.heap.size w).alloc (Nat.le_refl _) (.cells CZ 27));have HMAY := Lib.hid (fun (W : World) (hb : Below w.heap.size w W) => may_any ao c l W (h.below hb) hw);have HNA := Lib.hid (fun W => none_any W);clear h hw;generalize l.length = n at *;cases hm : mayL l
 ·
  clear hbad;rw [hm] at HMAY;clear hm;go_enter Tryz.func11, Tryz.ntmps11;go_wp2_with (first
   | (go_at_call 24; refine (HMAY.out _ HB0.out).mono ?_; rintro e w1 ⟨rfl, hb⟩; have HBL := Lib.hid (HB0.out.trans (hb.mono HB0.out.size)); have HRL := Lib.hid ((hb.block _ (by simp)).trans HZ.out); clear hb)
   | (go_at_call 21; refine (HNA.out _).mono ?_; rintro e w8 ⟨rfl, hb⟩; have HB8 := Lib.hid (HBL.out.trans (hb.mono HBL.out.size)); have HR8 := Lib.hid ((hb.block _ (lt_heap' HRL.out)).trans HRL.out); clear hb)
   | (refine wpList_store_row rfl 27 (.tmp 6) (.tmp 25) rfl w.heap.size (CC nones) rfl rfl _ CZ HR8.out (by kernel_rfl) rfl (cc_one nones) ?_; simp only [Act.put, List.setIfInBounds_toArray, List.set_cons_zero, List.set_cons_succ]; have HR := Lib.hid (And.intro (setRow_heap _ _ _ (CC nones) _ _ HR8.out) (below_setRow (B := w.heap.size) HB8.out (g := w.heap.size) (Nat.le_refl _) (CC nones))); generalize World.setRow _ _ _ = W9 at HR ⊢))
  refine bodyPost_ret (res_caps rfl rfl HR.out.1 rfl) rfl ?_;exact ⟨rfl, HR.out.2⟩
 ·
  rw [hm] at hbad;(replace hbad : i < 0 ∨ (T.length : Int) < i := by simpa using hbad);by_cases h0 : i < 0
  ·
   clear hbad;rw [hm] at HMAY;clear hm;go_enter Tryz.func11, Tryz.ntmps11;go_wp2_with (first
    | (go_at_call 24; refine (HMAY.out _ HB0.out).mono ?_; rintro e w1 ⟨rfl, hb⟩; have HBL := Lib.hid (HB0.out.trans (hb.mono HB0.out.size)); have HRL := Lib.hid ((hb.block _ (by simp)).trans HZ.out); clear hb)
    | (go_at_call 21; refine (HNA.out _).mono ?_; rintro e w8 ⟨rfl, hb⟩; have HB8 := Lib.hid (HBL.out.trans (hb.mono HBL.out.size)); have HR8 := Lib.hid ((hb.block _ (lt_heap' HRL.out)).trans HRL.out); clear hb)
    | (refine wpList_store_row rfl 27 (.tmp 6) (.tmp 25) rfl w.heap.size (CC nones) rfl rfl _ CZ HR8.out (by kernel_rfl) rfl (cc_one nones) ?_; simp only [Act.put, List.setIfInBounds_toArray, List.set_cons_zero, List.set_cons_succ]; have HR := Lib.hid (And.intro (setRow_heap _ _ _ (CC nones) _ _ HR8.out) (below_setRow (B := w.heap.size) HB8.out (g := w.heap.size) (Nat.le_refl _) (CC nones))); generalize World.setRow _ _ _ = W9 at HR ⊢))
   refine bodyPost_ret (res_caps rfl rfl HR.out.1 rfl) rfl ?_;exact ⟨rfl, HR.out.2⟩
  (have h1 : (T.length : Int) < i := by omega);clear hbad;rw [hm] at HMAY;clear hm;go_enter Tryz.func11, Tryz.ntmps11;go_wp2_with (first
   | (go_at_call 24; refine (HMAY.out _ HB0.out).mono ?_; rintro e w1 ⟨rfl, hb⟩; have HBL := Lib.hid (HB0.out.trans (hb.mono HB0.out.size)); have HRL := Lib.hid ((hb.block _ (by simp)).trans HZ.out); clear hb)
   | (go_at_call 21; refine (HNA.out _).mono ?_; rintro e w8 ⟨rfl, hb⟩; have HB8 := Lib.hid (HBL.out.trans (hb.mono HBL.out.size)); have HR8 := Lib.hid ((hb.block _ (lt_heap' HRL.out)).trans HRL.out); clear hb)
   | (refine wpList_store_row rfl 27 (.tmp 6) (.tmp 25) rfl w.heap.size (CC nones) rfl rfl _ CZ HR8.out (by kernel_rfl) rfl (cc_one nones) ?_; simp only [Act.put, List.setIfInBounds_toArray, List.set_cons_zero, List.set_cons_succ]; have HR := Lib.hid (And.intro (setRow_heap _ _ _ (CC nones) _ _ HR8.out) (below_setRow (B := w.heap.size) HB8.out (g := w.heap.size) (Nat.le_refl _) (CC nones))); generalize World.setRow _ _ _ = W9 at HR ⊢))
  refine bodyPost_ret (res_caps rfl rfl HR.out.1 rfl) rfl ?_;exact ⟨rfl, HR.out.2⟩
theorem Whole_yes (t : Tr) (hg : Go.Proofs.YtlicoffnjphphaaGreatDoor.Rx.Good t) (hs : SetsOk t) (ao : Option Addr) (c : Nat) (w : World) (h : Ns w (.slice ao (t.nodes 0).length c) (t.nodes 0)) (T : List UInt8) (hT : T.length ≤ 100000) (i j : Nat) (hij : i ≤ j) (hj : j ≤ T.length) (R : Option Caps) (hR : R = wholeP T t i j) :
  Calls Tryz.prog 17 #[.slice ao (t.nodes 0).length c, S T, E (i : Nat), E (j : Nat)] w fun e w' => e = .returned (ansC R) ∧ Below w.heap.size w w' := by
 have hw := nodes_sets t 0 hs;have HZ := Lib.hid (heap_alloc_new w (.cells CZ 27));have HB0 := Lib.hid ((Below.refl w.heap.size w).alloc (Nat.le_refl _) (.cells CZ 27));have hmay := (fun (W : World) (hb : Below w.heap.size w W) => may_any ao c (t.nodes 0) W (h.below hb) hw);rw [show mayL (t.nodes 0) = true from by unfold mayL; rw [patOf_good hg]; rfl] at hmay;have HMAY := Lib.hid hmay;have HNEW := Lib.hid (fun (W : World) (hb : Below w.heap.size w W) => new_any t hg hs hw (.slice ao (t.nodes 0).length c) T hT W (h.below hb));have HNA := Lib.hid (fun W => none_any W);have HRR := Lib.hid hR;have HIJ := Lib.hid (And.intro hij hj);(have h0 : ¬ (i : Int) < 0 := by omega);(have h1 : ¬ (j : Int) < (i : Int) := by omega);(have h2 : ¬ (T.length : Int) < (j : Int) := by omega);clear hmay hw hR hij hj h hg hs hT;generalize (t.nodes 0).length = n at *;go_enter Tryz.func17, Tryz.ntmps17;go_wp2_with (first
  | (go_at_call 24; refine (HMAY.out _ HB0.out).mono ?_; rintro e w1 ⟨rfl, hb⟩; have HB1 := Lib.hid (HB0.out.trans (hb.mono HB0.out.size)); have HRS := Lib.hid ((hb.block _ (by simp)).trans HZ.out); clear hb)
  | (go_at_call 32; refine (HNEW.out _ HB1.out).mono ?_; intro e w2 hnew; obtain ⟨bm, b1, b2, rfl, hX, hM⟩ := mat_new hnew; have HX := Lib.hid hX; have HM := Lib.hid hM; clear hX hM hnew)
  | (go_at_call 33; have hq := whole_mat HX.out HM.out HIJ.out.1 HIJ.out.2 HRR.out; refine hq.mono ?_; clear hq; rintro e w3 ⟨rfl, hm, hk⟩; have HBL := Lib.hid (HB1.out.trans (hm.bel.mono HB1.out.size)); have HRL := Lib.hid ((hm.bel.block _ (lt_heap' HRS.out)).trans HRS.out); clear hm)
  | (refine wpList_store_row rfl 27 (.tmp 8) (.tmp 35) rfl w.heap.size (CC (R.getD nones)) rfl rfl _ CZ HRL.out (by kernel_rfl) rfl (cc_one (R.getD nones)) ?_; simp only [Act.put, List.setIfInBounds_toArray, List.set_cons_zero, List.set_cons_succ]; have HR := Lib.hid (And.intro (setRow_heap _ _ _ (CC (R.getD nones)) _ _ HRL.out) (below_setRow (B := w.heap.size) HBL.out (g := w.heap.size) (Nat.le_refl _) (CC (R.getD nones)))); generalize World.setRow _ _ _ = W9 at HR ⊢))
 refine bodyPost_ret (res_caps rfl rfl HR.out.1 rfl) rfl ?_;exact ⟨rfl, HR.out.2⟩
theorem Longest_yes (t : Tr) (hg : Go.Proofs.YtlicoffnjphphaaGreatDoor.Rx.Good t) (hs : SetsOk t) (ao : Option Addr) (c : Nat) (w : World) (h : Ns w (.slice ao (t.nodes 0).length c) (t.nodes 0)) (T : List UInt8) (hT : T.length ≤ 100000) (i : Nat) (hi : i ≤ T.length) (R : Option Caps) (hR : R = longP T t i) :
  Calls Tryz.prog 11 #[.slice ao (t.nodes 0).length c, S T, E (i : Nat)] w fun e w' => e = .returned (ansC R) ∧ Below w.heap.size w w' := by
 have hw := nodes_sets t 0 hs;have HZ := Lib.hid (heap_alloc_new w (.cells CZ 27));have HB0 := Lib.hid ((Below.refl w.heap.size w).alloc (Nat.le_refl _) (.cells CZ 27));have hmay := (fun (W : World) (hb : Below w.heap.size w W) => may_any ao c (t.nodes 0) W (h.below hb) hw);rw [show mayL (t.nodes 0) = true from by unfold mayL; rw [patOf_good hg]; rfl] at hmay;have HMAY := Lib.hid hmay;have HNEW := Lib.hid (fun (W : World) (hb : Below w.heap.size w W) => new_any t hg hs hw (.slice ao (t.nodes 0).length c) T hT W (h.below hb));have HNA := Lib.hid (fun W => none_any W);have HRR := Lib.hid hR;have HI := Lib.hid (And.intro hi hT);(have h0 : ¬ (i : Int) < 0 := by omega);(have h2 : ¬ (T.length : Int) < (i : Int) := by omega);clear hmay hw hR hi h hg hs hT;generalize (t.nodes 0).length = n at *;go_enter Tryz.func11, Tryz.ntmps11;go_wp2_with (first
  | (go_at_call 24; refine (HMAY.out _ HB0.out).mono ?_; rintro e w1 ⟨rfl, hb⟩; have HB1 := Lib.hid (HB0.out.trans (hb.mono HB0.out.size)); have HRS := Lib.hid ((hb.block _ (by simp)).trans HZ.out); clear hb)
  | (go_at_call 32; refine (HNEW.out _ HB1.out).mono ?_; intro e w2 hnew; obtain ⟨bm, b1, b2, rfl, hX, hM⟩ := mat_new hnew; have HX := Lib.hid hX; have HM := Lib.hid hM; clear hX hM hnew))
 obtain ⟨G, hG⟩ : ∃ G, G = (fun j => wholeP T t i j) := ⟨_, rfl⟩;have HG := Lib.hid hG;have HR0 := Lib.hid (show R = dn G i (T.length + 1 - i) from by rw [HRR.out, hG]; rfl);clear hG HRR;go_loopg [9] (T.length + 1 - i) (fun m jv wr => m ≤ T.length + 1 - i ∧ ∃ k : Int, k = (i : Int) + (m : Int) - 1 ∧ jv = .int .i64 k ∧ Hid (R = dn G i m) ∧ Hid (MM ⟨w1, T, t, .slice ao n c, bm, b1, b2⟩ (fun _ => False) wr));(case atStart => exact ⟨Nat.le_refl _, (T.length : Int), by have := HI.out; omega, rfl, HR0, HM⟩);case round =>
  clear HM HR0;obtain ⟨hn, k, hk, rfl, HD, HM⟩ := hrel;have HBL := Lib.hid (HB1.out.trans (HM.out.bel.mono HB1.out.size));have HRL := Lib.hid ((HM.out.bel.block _ (lt_heap' HRS.out)).trans HRS.out);cases gk with
  | zero =>
   (have hlt : ¬ ((i : Int) ≤ k) := by omega);clear hk;go_wp2_with (first
    | (go_at_call 21; refine (HNA.out _).mono ?_; rintro e w8 ⟨rfl, hb⟩; have HB8 := Lib.hid (HBL.out.trans (hb.mono HBL.out.size)); have HR8 := Lib.hid ((hb.block _ (lt_heap' HRL.out)).trans HRL.out); clear hb)
    | (refine wpList_store_row rfl 27 (.tmp 6) (.tmp 45) rfl w.heap.size (CC nones) rfl rfl _ CZ HR8.out (by kernel_rfl) rfl (cc_one nones) ?_; simp only [Act.put, List.setIfInBounds_toArray, List.set_cons_zero, List.set_cons_succ]; have HR := Lib.hid (And.intro (setRow_heap _ _ _ (CC nones) _ _ HR8.out) (below_setRow (B := w.heap.size) HB8.out (g := w.heap.size) (Nat.le_refl _) (CC nones))); generalize World.setRow _ _ _ = W9 at HR ⊢))
   refine bodyPost_ret (res_caps rfl rfl HR.out.1 rfl) rfl ?_;refine ⟨?_, HR.out.2⟩;rw [HD.out]; rfl
  | succ m =>
   obtain ⟨q, hq⟩ : ∃ q, q = i + m := ⟨_, rfl⟩;(obtain rfl : k = (q : Int) := by omega);(have hle : (i : Int) ≤ (q : Int) := by omega);(have hlt : ¬ ((q : Int) < (i : Int)) := by omega);(have hwq : IntKind.i64.wrap ((q : Int) - 1) = (q : Int) - 1 := by rw [IntKind.wrap_i64]; have := HI.out; omega);have HQ := Lib.hid (show i ≤ q ∧ q ≤ T.length ∧ q = i + m ∧ m ≤ T.length + 1 - i from ⟨by omega, by omega, hq, by omega⟩);have HDN := Lib.hid (show R = (match G q with | some a => some a | none => dn G i m) from by rw [HD.out, hq, dn_succ]; cases G (i + m) <;> rfl);obtain ⟨R1, hR1⟩ : ∃ R1, R1 = wholeP T t i q := ⟨_, rfl⟩;have HR1 := Lib.hid hR1;have HGQ := Lib.hid (show G q = R1 from by rw [HG.out, hR1]);clear hk hq hn HD hR1;cases hc : R1 with
   | none =>
    rw [hc] at HR1 HGQ;go_wp2_with (first
     | (go_at_call 33; have hq := whole_mat HX.out HM.out HQ.out.1 HQ.out.2.1 HR1.out; refine hq.mono ?_; clear hq; rintro e w3 ⟨rfl, hm, hk⟩; have HM3 := Lib.hid hm; clear hm)
     | (refine wpList_store_row rfl 27 (.tmp 10) (.tmp 41) rfl _ (CC nones) rfl rfl _ CZ (heap_alloc_new _ _) (by kernel_rfl) rfl (cc_one nones) ?_; simp only [Act.put, List.setIfInBounds_toArray, List.set_cons_zero, List.set_cons_succ]; rw [box_laid]; have HM4 := Lib.hid (HM3.out.below ((Below.refl _ _).alloc (Nat.le_refl _) (.cells (CC nones) 27))); clear HM3; generalize World.alloc _ _ = W4 at HM4 ⊢))
    go_roundg m;(case measure => omega);case rel => exact ⟨by have := HQ.out; omega, _, by have := HQ.out; omega, rfl, Lib.hid (by rw [HDN.out, HGQ.out]), HM4⟩
   | some a1 =>
    rw [hc] at HR1 HGQ;go_wp2_with (first
     | (go_at_call 33; have hq := whole_mat HX.out HM.out HQ.out.1 HQ.out.2.1 HR1.out; refine hq.mono ?_; clear hq; rintro e w3 ⟨rfl, hm, hk⟩; have HM3 := Lib.hid hm; clear hm)
     | (refine wpList_store_row rfl 27 (.tmp 10) (.tmp 41) rfl _ (CC a1) rfl rfl _ CZ (heap_alloc_new _ _) (by kernel_rfl) rfl (cc_one a1) ?_; simp only [Act.put, List.setIfInBounds_toArray, List.set_cons_zero, List.set_cons_succ]; rw [box_laid]; have HM4 := Lib.hid (HM3.out.below ((Below.refl _ _).alloc (Nat.le_refl _) (.cells (CC a1) 27))); have HX4 := Lib.hid (heap_alloc_new w3 (.cells (CC a1) 27)); have HB8 := Lib.hid (HB1.out.trans (HM4.out.bel.mono HB1.out.size)); have HR8 := Lib.hid ((HM4.out.bel.block _ (lt_heap' HRS.out)).trans HRS.out); clear HM3; generalize World.alloc _ _ = W4 at HM4 HX4 HB8 HR8 ⊢)
     | (refine wpList_load_row rfl 27 (.tmp 10) rfl w3.heap.size rfl _ (CC a1) (0, 0) _ HX4.out Tryz.underlying27 rfl (by kernel_rfl) ?_; simp only [Act.put, List.setIfInBounds_toArray, List.set_cons_zero, List.set_cons_succ])
     | (refine wpList_store_row rfl 27 (.tmp 6) (.tmp 44) rfl w.heap.size (CC a1) rfl rfl _ CZ HR8.out (by kernel_rfl) rfl (cc_one a1) ?_; simp only [Act.put, List.setIfInBounds_toArray, List.set_cons_zero, List.set_cons_succ]; have HR := Lib.hid (And.intro (setRow_heap _ _ _ (CC a1) _ _ HR8.out) (below_setRow (B := w.heap.size) HB8.out (g := w.heap.size) (Nat.le_refl _) (CC a1))); generalize World.setRow _ _ _ = W9 at HR ⊢))
    refine bodyPost_ret (res_caps rfl rfl HR.out.1 rfl) rfl ?_;refine ⟨?_, HR.out.2⟩;rw [HDN.out, HGQ.out]; rfl
/-- The ends ahead of a place. -/
def endsK (T : List UInt8) (t : Tr) (i k : Nat) : List Nat := (List.range' i (k - i)).filter fun j => (wholeP T t i j).isSome
def ints (l : List Nat) : List Value := l.map fun j => E (j : Nat)
theorem ends_next (T : List UInt8) (t : Tr) (i k : Nat) (h : i ≤ k) : endsK T t i (k + 1) = endsK T t i k ++ (if (wholeP T t i k).isSome = true then [k] else []) := by
 unfold endsK;rw [show k + 1 - i = (k - i) + 1 by omega, List.range'_concat, List.filter_append, Nat.one_mul, show i + (k - i) = k by omega];rw [List.filter_cons, List.filter_nil]
theorem ends_len (T : List UInt8) (t : Tr) (i k : Nat) : (endsK T t i k).length ≤ k - i := by
 unfold endsK;exact Nat.le_trans (List.length_filter_le _ _) (by simp)
/-- What Ends answers. -/
def EndsAns (w : World) (l : List Nat) (e : Ending) (w' : World) : Prop := ∃ v B, e = .returned v ∧ w.heap.size ≤ B ∧ w'.ownsRow B 3 1 v l.length (ints l) ∧ Below w.heap.size w w'
theorem infoI : (Tryz.prog.info? 3).map (fun i => (i.zero, i.size, i.bytes)) = some (some (.int .i64 0), 1, 8) := by kernel_rfl
theorem MM.grown {X : Par} {pr : Nat → Prop} {w w' : World} (h : MM X pr w) {v : Value} {n : Nat} {xs : List Value} (ho : w.ownsRow X.w0.heap.size 3 1 v n xs) (hg : w.grownBy w' v.ownBlock) : MM X pr w' := by
 have hb : Below X.w0.heap.size X.w0 w' := h.bel.grown hg h.bel.size (fun k hk => (ho.lt k hk).1);rcases ho.2 with ⟨rfl, _⟩ | ⟨g, cap, cur, rfl, h2, h3, h4, h5, h6, h7⟩
 · exact h.below ((Below.refl _ _).grown hg (Nat.le_refl _) (fun k hk => by cases hk))
 · exact h.other (by decide) (by decide) h3 hg.size (fun k hk hne => hg.block k hk (by simp only [Value.ownBlock, ne_eq, Option.some.injEq]; exact hne)) hb
theorem news_int (w : World) (k : Nat) (B : Nat) (hB : B = w.heap.size) : ∀ j u, ([E (k : Nat)] : List Value)[j]? = some u → (w.alloc (.cells #[E (k : Nat)] 3)).cell? ((⟨B, 0, none⟩ : Addr).add j) = some u := by
 intro j u hj;subst hB;rw [Addr.add_lit, Lib.cell_of_heap (heap_alloc_new _ _), Nat.zero_add];simpa using hj
theorem Ends_yes (t : Tr) (hg : Go.Proofs.YtlicoffnjphphaaGreatDoor.Rx.Good t) (hs : SetsOk t) (ao : Option Addr) (c : Nat) (w : World) (h : Ns w (.slice ao (t.nodes 0).length c) (t.nodes 0)) (T : List UInt8) (hT : T.length ≤ 100000) (i : Nat) (hi : i ≤ T.length) :
  Calls Tryz.prog 15 #[.slice ao (t.nodes 0).length c, S T, E (i : Nat)] w (EndsAns w (endsK T t i (T.length + 1))) := by
 have hw := nodes_sets t 0 hs;have hmay := may_any ao c (t.nodes 0) w h hw;rw [show mayL (t.nodes 0) = true from by unfold mayL; rw [patOf_good hg]; rfl] at hmay;have HMAY := Lib.hid hmay;have HNEW := Lib.hid (fun (W : World) (hb : Below w.heap.size w W) => new_any t hg hs hw (.slice ao (t.nodes 0).length c) T hT W (h.below hb));have HI := Lib.hid (And.intro hi hT);(have h0 : ¬ (i : Int) < 0 := by omega);(have h2 : ¬ (T.length : Int) < (i : Int) := by omega);clear hmay hw hi h hg hs hT;generalize (t.nodes 0).length = n at *;go_enter Tryz.func15, Tryz.ntmps15;go_wp2_with (first
  | (go_at_call 24; refine HMAY.out.mono ?_; rintro e w1 ⟨rfl, hb⟩; have HB1 := Lib.hid hb; clear hb)
  | (go_at_call 32; refine (HNEW.out _ HB1.out).mono ?_; intro e w2 hnew; obtain ⟨bm, b1, b2, rfl, hX, hM⟩ := mat_new hnew; have HX := Lib.hid hX; have HM := Lib.hid hM; clear hX hM hnew))
 go_loopg [6, 8] (T.length + 1 - i) (fun m sv kv wr => ∃ k : Nat, m = T.length + 1 - k ∧ i ≤ k ∧ k ≤ T.length + 1 ∧ kv = .int .i64 (k : Nat) ∧ Hid (wr.ownsRow w1.heap.size 3 1 sv (endsK T t i k).length (ints (endsK T t i k))) ∧ Hid (MM ⟨w1, T, t, .slice ao n c, bm, b1, b2⟩ (fun _ => False) wr));(case atStart => exact ⟨i, rfl, Nat.le_refl _, by have := HI.out; omega, rfl, Lib.hid (by rw [show endsK T t i i = [] from by unfold endsK; simp]; exact World.ownsRow_nil _ _ _ _), HM⟩);case round =>
  clear HM;obtain ⟨k, hm, hk1, hk2, rfl, HO, HM⟩ := hrel;subst hm;by_cases hlt : k ≤ T.length
  ·
   (have hle : (k : Int) ≤ (T.length : Int) := by omega);(have hnlt : ¬ ((T.length : Int) < (k : Int)) := by omega);(have hwk : IntKind.i64.wrap ((k : Int) + 1) = (k : Int) + 1 := by rw [IntKind.wrap_i64]; have := HI.out; omega);have HK := Lib.hid (show i ≤ k ∧ k ≤ T.length from ⟨hk1, hlt⟩);have HNX := Lib.hid (ends_next T t i k hk1);have HLN := Lib.hid (ends_len T t i k);obtain ⟨R1, hR1⟩ : ∃ R1, R1 = wholeP T t i k := ⟨_, rfl⟩;have HR1 := Lib.hid hR1;rw [← hR1] at HNX;clear hk1 hk2 hlt hR1;cases hc : R1 with
   | none =>
    rw [hc] at HR1 HNX;go_wp2_with (first
     | (go_at_call 33; have hq := whole_mat HX.out HM.out HK.out.1 HK.out.2 HR1.out; refine hq.mono ?_; clear hq; rintro e w3 ⟨rfl, hm, hk⟩; have HM3 := Lib.hid hm; have HO3 := Lib.hid (own_km HM.out HO.out hk); clear hm hk HO)
     | (refine wpList_store_row rfl 27 (.tmp 9) (.tmp 39) rfl _ (CC nones) rfl rfl _ CZ (heap_alloc_new _ _) (by kernel_rfl) rfl (cc_one nones) ?_; simp only [Act.put, List.setIfInBounds_toArray, List.set_cons_zero, List.set_cons_succ]; rw [box_laid]; have hbb := (Below.refl w3.heap.size w3).alloc (Nat.le_refl _) (.cells (CC nones) 27); have HM4 := Lib.hid (HM3.out.below hbb); have HO4 := Lib.hid (own_below HO3.out hbb); clear HM3 HO3 hbb; generalize World.alloc _ _ = W4 at HM4 HO4 ⊢))
    go_roundg (T.length - k);(case measure => have := HK.out; omega);case rel => exact ⟨k + 1, by omega, by have := HK.out; omega, by have := HK.out; omega, by go_num, Lib.hid (by rw [HNX.out]; simpa using HO4.out), HM4⟩
   | some a1 =>
    rw [hc] at HR1 HNX;rw [show Code.region 9 = Fz 9 from rfl];go_wp2_with (first
     | (go_at_call 33; have hq := whole_mat HX.out HM.out HK.out.1 HK.out.2 HR1.out; refine hq.mono ?_; clear hq; rintro e w3 ⟨rfl, hm, hk⟩; have HM3 := Lib.hid hm; have HO3 := Lib.hid (own_km HM.out HO.out hk); clear hm hk HO)
     | (refine wpList_store_row rfl 27 (.tmp 9) (.tmp 39) rfl _ (CC a1) rfl rfl _ CZ (heap_alloc_new _ _) (by kernel_rfl) rfl (cc_one a1) ?_; simp only [Act.put, List.setIfInBounds_toArray, List.set_cons_zero, List.set_cons_succ]; rw [box_laid]; have hbb := (Below.refl w3.heap.size w3).alloc (Nat.le_refl _) (.cells (CC a1) 27); have HM4 := Lib.hid (HM3.out.below hbb); have HO4 := Lib.hid (own_below HO3.out hbb); clear HM3 HO3 hbb; generalize World.alloc _ _ = W4 at HM4 HO4 ⊢))
    have HOA := Lib.hid (HO4.out.alloc (.cells #[E (k : Nat)] 3));have HMA := Lib.hid (HM4.out.below ((Below.refl _ _).alloc (Nat.le_refl _) (.cells #[E (k : Nat)] 3)));have HSZ := Lib.hid (show w1.heap.size ≤ W4.heap.size from HM4.out.bel.size);obtain ⟨i0, hi, hz0, hz1, hz2⟩ := info_parts infoI;rw [show Fz 9 = Code.region 9 from rfl];go_wp2_with (at_builtin; go_loud (refine wpList_append_lies _ rfl _ _ 36 rfl w1.heap.size 3 i0 _ 1 8 Tryz.underlying36 hi hz0 hz1 hz2 rfl (by decide) _ _ _ rfl HOA.out ⟨_, 0, none⟩ 1 1 [E (k : Nat)] rfl rfl (news_int _ k _ (by simp)) (by intro u hu; simp only [List.mem_singleton] at hu; subst hu; rfl) (by decide) (by have := HLN.out; have := HK.out; have := HI.out; unfold maxLen; omega) (by have := HLN.out; have := HK.out; have := HI.out; omega) (by have := HSZ.out; simp at this ⊢; omega) _ rfl ?_));rintro gg gcap w5 hown hgrow hat hlt4;have HM5 := Lib.hid (HMA.out.grown HOA.out hgrow);have HO5 := Lib.hid (show w5.ownsRow w1.heap.size 3 1 (.slice (some ⟨gg, 0, none⟩) ((endsK T t i k).length + 1) gcap) (endsK T t i (k + 1)).length (ints (endsK T t i (k + 1))) from by
     rw [HNX.out, show (some a1 : Option Caps).isSome = true from rfl, if_pos rfl, List.length_append];unfold ints at hown ⊢;rw [List.map_append];exact hown)
    clear hown hgrow hat hlt4 HMA HOA HSZ hi hz0 hz1 hz2;go_wp2;go_roundg (T.length - k);(case measure => have := HK.out; omega);case rel => exact ⟨k + 1, by omega, by have := HK.out; omega, by have := HK.out; omega, by go_num, HO5, HM5⟩
  · (have hle : ¬ (k : Int) ≤ (T.length : Int) := by omega);have HN := Lib.hid (show k = T.length + 1 from by omega);go_wp2;go_ret;refine ⟨_, w1.heap.size, rfl, HB1.out.size, ?_, HB1.out.trans (HM.out.bel.mono HB1.out.size)⟩;have := HO.out;rw [HN.out] at this;exact this
theorem Ends_no (l : List Nd) (ao : Option Addr) (c : Nat) (w : World) (h : Ns w (.slice ao l.length c) l) (hw : ∀ n ∈ l, Wf n.s) (T : List UInt8) (i : Int) (hbad : mayL l = false ∨ i < 0 ∨ (T.length : Int) < i) :
  Calls Tryz.prog 15 #[.slice ao l.length c, S T, E i] w (EndsAns w []) := by
 have HMAY := Lib.hid (may_any ao c l w h hw);have HA := Lib.hid (fun (W : World) (hb : Below w.heap.size w W) => (⟨.slice none 0 0, w.heap.size, rfl, Nat.le_refl _, World.ownsRow_nil _ _ _ _, hb⟩ : EndsAns w [] (.returned (.slice none 0 0)) W));clear h hw;generalize l.length = n at *;cases hm : mayL l
 · clear hbad;rw [hm] at HMAY;clear hm;go_enter Tryz.func15, Tryz.ntmps15;go_wp2_with (go_at_call 24; refine HMAY.out.mono ?_; rintro e w1 ⟨rfl, hb⟩; have HB1 := Lib.hid hb; clear hb);go_ret;exact HA.out _ HB1.out
 ·
  rw [hm] at hbad;(replace hbad : i < 0 ∨ (T.length : Int) < i := by simpa using hbad);by_cases h0 : i < 0
  · clear hbad;rw [hm] at HMAY;clear hm;go_enter Tryz.func15, Tryz.ntmps15;go_wp2_with (go_at_call 24; refine HMAY.out.mono ?_; rintro e w1 ⟨rfl, hb⟩; have HB1 := Lib.hid hb; clear hb);go_ret;exact HA.out _ HB1.out
  (have h1 : (T.length : Int) < i := by omega);clear hbad;rw [hm] at HMAY;clear hm;go_enter Tryz.func15, Tryz.ntmps15;go_wp2_with (go_at_call 24; refine HMAY.out.mono ?_; rintro e w1 ⟨rfl, hb⟩; have HB1 := Lib.hid hb; clear hb);go_ret;exact HA.out _ HB1.out
end Go.Proofs.YtlicoffnjphphaaGreatDoor.Mt
