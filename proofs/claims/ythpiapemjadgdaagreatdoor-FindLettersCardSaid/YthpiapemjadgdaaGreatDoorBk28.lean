/- The texts MtWno MtWhit MtWmiss MtI MtX MtY RxS MtB MtLaw0. -/
import Derived.Deep.AppendLies
import Derived.Test.YthpiapemjadgdaaGreatDoorBk08
import Derived.Test.YthpiapemjadgdaaGreatDoorBk10
import Derived.Test.YthpiapemjadgdaaGreatDoorBk23
import Derived.Test.YthpiapemjadgdaaGreatDoorBk24
import Derived.Test.YthpiapemjadgdaaGreatDoorBk26
import Derived.Test.YthpiapemjadgdaaGreatDoorBk27
set_option linter.unusedVariables false
set_option linter.unusedSimpArgs false
set_option maxHeartbeats 3200000
set_option maxRecDepth 100000
namespace Go.Proofs.YthpiapemjadgdaaGreatDoor.Mt
open Go.RowKit Go.Shelf
open Go.Proofs.YthpiapemjadgdaaGreatDoor.Rx
open Go.Proofs.YthpiapemjadgdaaGreatDoor.Rx.Tr
open Go.Proofs.YthpiapemjadgdaaGreatDoor.St (Wf word mem SV SV_eq)
theorem fits_no (X : Par) (hX : X.Ok) (hrf : X.refs = false) (x : Tr) (ia : Nat) (HF : FromOk X x ia) (HL : LookOk X x ia) (hs : ∀ (i j : Nat) (c a : Caps), i ≤ j → j ≤ X.N → fitP X.T x i j c = some a → endsP X.T x i j = true) : FitOk X x ia := by
 intro pr i j c w hij hj hc hM;obtain ⟨c0, c1, c2, c3, c4⟩ := hM.facts;rw [hrf] at c2;have hbm := lt_heap' hM.hb;(have hbm2 : X.bm < w.heap.size + 1 := by omega);(have hj0 : (0 : Int) ≤ (j : Int) := by omega);(have hj1 : (j : Int) < (X.N : Int) + 1 := by omega);have HT := Lib.hid (tf_start hM c);have HC := Lib.hid hc;(have hi : i ≤ X.N := by omega);have HFr := Lib.hid HF;have HLk := Lib.hid HL;have HS := Lib.hid hs;clear HF HL hs hM hc;go_enter Tryz.func71, Tryz.ntmps71;cases hgj : endsP X.T x i j
 ·
  go_wp2_with (first
   | (go_at_call 97; have hq := HFr.out _ i _ hi HT.out.mm; refine hq.mono ?_; clear hq; rintro e w2 ⟨g, rfl, hr, hng, hm, hk⟩; have hcl := hr.cell (i := j) (by omega); rw [hgj] at hcl; have HT2 := Lib.hid (HT.out.call hm hk); clear hr hng hm hk HT)
   | (refine wpList_load_row rfl 27 (.tmp 9) rfl w.heap.size rfl _ (CC c) (0, 0) _ HT2.out.bx Tryz.underlying27 rfl (by kernel_rfl) ?_; simp only [Act.put, List.setIfInBounds_toArray, List.set_cons_zero, List.set_cons_succ])
   | (refine wpList_store_row rfl 27 (.tmp 10) (.tmp 28) rfl (w.heap.size + 1) (CC c) rfl rfl _ CZ HT2.out.rs (by kernel_rfl) rfl (cc_one c) ?_; simp only [Act.put, List.setIfInBounds_toArray, List.set_cons_zero, List.set_cons_succ]; obtain ⟨r1, r2, r3⟩ := HT2.out.ret c; have HR := Lib.hid (And.intro r1 (And.intro r2 r3)); clear r1 r2 r3 HT2; generalize World.setRow _ _ _ = W9 at HR ⊢))
  refine bodyPost_ret (res_caps rfl rfl HR.out.1 rfl) rfl ?_;refine ⟨c, false, rfl, ⟨HC.out, ?_⟩, HR.out.2.1, HR.out.2.2⟩;cases hf : fitP X.T x i j c with
  | none => rfl
  | some a => have := HS.out i j c a hij hj hf; rw [hgj] at this; exact absurd this (by simp)
 ·
  go_wp2_with (first
   | (go_at_call 97; have hq := HFr.out _ i _ hi HT.out.mm; refine hq.mono ?_; clear hq; rintro e w2 ⟨g, rfl, hr, hng, hm, hk⟩; have hcl := hr.cell (i := j) (by omega); rw [hgj] at hcl; have HT2 := Lib.hid (HT.out.call hm hk); clear hr hng hm hk HT)
   | (refine wpList_load_row rfl 27 (.tmp 9) rfl w.heap.size rfl _ (CC c) (0, 0) _ HT2.out.bx Tryz.underlying27 rfl (by kernel_rfl) ?_; simp only [Act.put, List.setIfInBounds_toArray, List.set_cons_zero, List.set_cons_succ])
   | (go_at_call 98; have hq := HLk.out _ i j c _ hij hj HC.out HT2.out.mm; refine hq.mono ?_; clear hq; rintro e w3 ⟨c', b, rfl, hl, hm, hk⟩; have HT3 := Lib.hid (HT2.out.call hm hk); have HLE := Lib.hid hl; clear hl hm hk HT2 hcl)
   | (refine wpList_store_row rfl 27 (.tmp 10) (.tmp 35) rfl (w.heap.size + 1) (CC c') rfl rfl _ CZ HT3.out.rs (by kernel_rfl) rfl (cc_one c') ?_; simp only [Act.put, List.setIfInBounds_toArray, List.set_cons_zero, List.set_cons_succ]; obtain ⟨r1, r2, r3⟩ := HT3.out.ret c'; have HR := Lib.hid (And.intro r1 (And.intro r2 r3)); clear r1 r2 r3 HT3; generalize World.setRow _ _ _ = W9 at HR ⊢))
  refine bodyPost_ret (res_caps rfl rfl HR.out.1 rfl) rfl ?_;exact ⟨c', b, rfl, HLE.out, HR.out.2.1, HR.out.2.2⟩
theorem fits_hit (X : Par) (hX : X.Ok) (hrf : X.refs = true) (x : Tr) (o ia : Nat) (ha : At X.l x o) (hia : ia = o + x.size - 1) (pr : Nat → Prop) (i j : Nat) (c : Caps) (w : World) (hij : i ≤ j) (hj : j ≤ X.N) (hc : CapsOk X.N c) (hM : MM X pr w) (a0 : Caps) (b0 : Bool) (hl : LeftOk X.N (fitP X.T x i j c) a0 b0) (hlook : ∀ w' : World, w'.heap[X.b2]? = w.heap[X.b2]? → (Instr.lookup 124 (.map (some X.b2)) (TK ia i j c) true).run Tryz.prog w' = .ok (.tuple #[(LV a0 b0), .bool true]) w') : Calls Tryz.prog 71 #[PT X.bm, E (ia : Nat), E (i : Nat), E (j : Nat), CV c] w (FitAns X pr w (fitP X.T x i j c)) := by
 obtain ⟨c0, c1, c2, c3, c4⟩ := hM.facts;rw [hrf] at c2;have hbm := lt_heap' hM.hb;(have hbm2 : X.bm < w.heap.size + 1 := by omega);have HT := Lib.hid (th_start2 (ia := ia) (i := i) (j := j) (c := c) hM);have HC := Lib.hid hc;have HLK := Lib.hid hlook;have HX := Lib.hid hX;have HAT := Lib.hid ha;have HIA := Lib.hid hia;have HLE := Lib.hid hl;clear hl;clear hM hc hlook hX ha hia;go_enter Tryz.func71, Tryz.ntmps71;rw [show Code.region 6 = Fz 6 from rfl];go_wp2_with (refine wpList_store_row rfl 168 (.tmp 12) (.tmp 41) rfl (w.heap.size + 1 + 1) (KC ia i j c) rfl rfl _ KZ (key_there _ _ _) (by kernel_rfl) rfl (kc_one _ _ _ _) ?_; simp only [Act.put, List.setIfInBounds_toArray, List.set_cons_zero, List.set_cons_succ]; clear c0 c1 c2 c3 c4 hbm hbm2; generalize World.setRow _ _ _ = W0 at HT ⊢);rw [show Fz 6 = Code.region 6 from rfl];refine wp_region_noPanic ?_;refine wp_region_held_drew (S := fun w' => HQ X w ia i j c w') (by kernel_rfl) ?_ (fun hHeld => ?_)
 · (try dsimp only); exact HT.out.drew.hq
 have HTD := Lib.hid HT.out.drew;clear HT;generalize World.drew _ = W1 at HTD hHeld ⊢;refine Tk.t 0 ?_;refine Tk.t 1 ?_;refine Tk.t 2 ?_;refine Tk.t 3 (hy := by (intro wv hSw; (try dsimp only at hSw); obtain ⟨q0, q1, q2⟩ := hSw; go_simp) <;> with_reducible rfl) ?_;refine Tk.t 4 (hy := fun wv hSw => exec_load_row 168 (.tmp 12) rfl (w.heap.size + 1 + 1) rfl _ (KC ia i j c) _ _ hSw.2.1 Tryz.underlying168 rfl (by kernel_rfl)) ?_;refine Tk.t 5 (hy := by (intro wv hSw; (try dsimp only at hSw); obtain ⟨q0, q1, q2⟩ := hSw; have q4 := HLK.out _ q2; go_simp) <;> with_reducible rfl) ?_;refine Tk.t 6 ?_;refine Tk.t 7 ?_;refine Tk.t 8 ?_;refine Tk.o 9 (fun K hK => ?_);have hsz := HTD.out.sz;go_simp;refine hK.out _ _ ?_ (fun hHeld => Tk.w ?_)
 · (try dsimp only); (exact HTD.out.lay_hq LZ)
 clear hK K;refine Tk.o 10 (fun K hK => ?_);refine step_store_row rfl 170 (.tmp 13) (.tmp 49) rfl (w.heap.size + 1 + 1 + 1) (LC a0 b0) rfl rfl _ LZ (left_there HTD.out) (by kernel_rfl) rfl (lc_one a0 b0) ?_;rw [left_laid HTD.out (LC a0 b0)];refine hK.out _ _ ?_ (fun hHeld => Tk.w ?_)
 · (try dsimp only); (exact HTD.out.lay_hq (LC a0 b0))
 clear hK K;refine Tk.t 11 ?_;refine Tk.d ?_;have HG := Lib.hid (HTD.out.lay (LC a0 b0));have HB2 := Lib.hid (HTD.out.lay_hq (LC a0 b0)).2.2;clear hHeld HTD HLK hsz;generalize World.alloc _ _ = W2 at HG HB2 ⊢;go_wp2;have HGD := Lib.hid (HG.out.below (Below.refl _ _).drew);refine wp_region_noPanic ?_;refine wp_region_held_drew (S := fun w' => w'.heap[w.heap.size + 1 + 1 + 1]? = some (.cells (LC a0 b0) 170 (0, 0))) (by kernel_rfl) ?_ (fun hHeld => ?_)
 · (try dsimp only); exact HGD.out.xx
 clear HG;generalize World.drew _ = W5 at HGD hHeld ⊢;refine Tk.t 0 ?_;refine Tk.t 1 (hy := fun wv hSw => exec_load_mid 27 (.tmp 70) rfl (w.heap.size + 1 + 1 + 1) 0 rfl (CC a0).toList _ (range_part (pre := []) (post := [.bool b0]) hSw rfl) Tryz.underlying27 rfl (by kernel_rfl)) ?_;refine Tk.t 2 ?_;refine Tk.k (fun _ h => cells11 h) 3 ?_;refine Tk.o 4 (fun K hK => ?_);refine step_store_row rfl 27 (.tmp 10) (.tmp 71) rfl (w.heap.size + 1) (CC a0) rfl rfl _ CZ HGD.out.rs (by kernel_rfl) rfl (cc_one a0) ?_;obtain ⟨r1, r2, r3, r4⟩ := HGD.out.ret a0;have HR := Lib.hid (And.intro r1 (And.intro r2 r3));clear r1 r2 r3 HGD;generalize World.setRow _ _ _ = W9 at HR r4 ⊢;refine hK.out _ _ ?_ (fun hHeld => Tk.w ?_)
 · (try dsimp only); (exact r4)
 clear hK K;refine Tk.t 5 ?_;refine Tk.d ?_;clear hHeld r4;go_wp2;refine bodyPost_ret (res_caps rfl rfl HR.out.1 rfl) rfl ?_;exact ⟨a0, b0, rfl, HLE.out, HR.out.2.1, HR.out.2.2⟩
theorem fits_miss (X : Par) (hX : X.Ok) (hrf : X.refs = true) (x : Tr) (o ia : Nat) (ha : At X.l x o) (hia : ia = o + x.size - 1) (pr : Nat → Prop) (i j : Nat) (c : Caps) (w : World) (hij : i ≤ j) (hj : j ≤ X.N) (hc : CapsOk X.N c) (hM : MM X pr w) (HL : LookOk X x ia) (hlook : ∀ w' : World, w'.heap[X.b2]? = w.heap[X.b2]? → (Instr.lookup 124 (.map (some X.b2)) (TK ia i j c) true).run Tryz.prog w' = .ok (.tuple #[(.agg LZ), .bool false]) w') : Calls Tryz.prog 71 #[PT X.bm, E (ia : Nat), E (i : Nat), E (j : Nat), CV c] w (FitAns X pr w (fitP X.T x i j c)) := by
 obtain ⟨c0, c1, c2, c3, c4⟩ := hM.facts;rw [hrf] at c2;have hbm := lt_heap' hM.hb;(have hbm2 : X.bm < w.heap.size + 1 := by omega);have HT := Lib.hid (th_start2 (ia := ia) (i := i) (j := j) (c := c) hM);have HC := Lib.hid hc;have HLK := Lib.hid hlook;have HX := Lib.hid hX;have HAT := Lib.hid ha;have HIA := Lib.hid hia;have HLk := Lib.hid HL;clear HL;clear hM hc hlook hX ha hia;go_enter Tryz.func71, Tryz.ntmps71;rw [show Code.region 6 = Fz 6 from rfl];go_wp2_with (refine wpList_store_row rfl 168 (.tmp 12) (.tmp 41) rfl (w.heap.size + 1 + 1) (KC ia i j c) rfl rfl _ KZ (key_there _ _ _) (by kernel_rfl) rfl (kc_one _ _ _ _) ?_; simp only [Act.put, List.setIfInBounds_toArray, List.set_cons_zero, List.set_cons_succ]; clear c0 c1 c2 c3 c4 hbm hbm2; generalize World.setRow _ _ _ = W0 at HT ⊢);rw [show Fz 6 = Code.region 6 from rfl];refine wp_region_noPanic ?_;refine wp_region_held_drew (S := fun w' => HQ X w ia i j c w') (by kernel_rfl) ?_ (fun hHeld => ?_)
 · (try dsimp only); exact HT.out.drew.hq
 have HTD := Lib.hid HT.out.drew;clear HT;generalize World.drew _ = W1 at HTD hHeld ⊢;refine Tk.t 0 ?_;refine Tk.t 1 ?_;refine Tk.t 2 ?_;refine Tk.t 3 (hy := by (intro wv hSw; (try dsimp only at hSw); obtain ⟨q0, q1, q2⟩ := hSw; go_simp) <;> with_reducible rfl) ?_;refine Tk.t 4 (hy := fun wv hSw => exec_load_row 168 (.tmp 12) rfl (w.heap.size + 1 + 1) rfl _ (KC ia i j c) _ _ hSw.2.1 Tryz.underlying168 rfl (by kernel_rfl)) ?_;refine Tk.t 5 (hy := by (intro wv hSw; (try dsimp only at hSw); obtain ⟨q0, q1, q2⟩ := hSw; have q4 := HLK.out _ q2; go_simp) <;> with_reducible rfl) ?_;refine Tk.t 6 ?_;refine Tk.t 7 ?_;refine Tk.t 8 ?_;refine Tk.o 9 (fun K hK => ?_);have hsz := HTD.out.sz;go_simp;refine hK.out _ _ ?_ (fun hHeld => Tk.w ?_)
 · (try dsimp only); (exact HTD.out.lay_hq LZ)
 clear hK K;refine Tk.o 10 (fun K hK => ?_);refine step_store_row rfl 170 (.tmp 13) (.tmp 49) rfl (w.heap.size + 1 + 1 + 1) LZ rfl rfl _ LZ (left_there HTD.out) (by kernel_rfl) rfl (by simp [Value.oneCell']) ?_;rw [left_laid HTD.out LZ];refine hK.out _ _ ?_ (fun hHeld => Tk.w ?_)
 · (try dsimp only); (exact HTD.out.lay_hq LZ)
 clear hK K;refine Tk.t 11 ?_;refine Tk.d ?_;have HG := Lib.hid (HTD.out.lay LZ);have HB2 := Lib.hid (HTD.out.lay_hq LZ).2.2;clear hHeld HTD HLK hsz;generalize World.alloc _ _ = W2 at HG HB2 ⊢;go_wp2_with (first
  | (refine wpList_load_row rfl 27 (.tmp 9) rfl w.heap.size rfl _ (CC c) (0, 0) _ HG.out.bx Tryz.underlying27 rfl (by kernel_rfl) ?_; simp only [Act.put, List.setIfInBounds_toArray, List.set_cons_zero, List.set_cons_succ])
  | (go_at_call 98; have hq := HLk.out _ i j c _ hij hj HC.out HG.out.mm; refine hq.mono ?_; clear hq; rintro e w3 ⟨a1, b1, rfl, hl, hm, hk⟩; have HG3 := Lib.hid (HG.out.call hm hk); have HLE := Lib.hid hl; clear hl hm hk HG HB2)
  | (refine wpList_store_mid rfl 27 (.tmp 62) (.tmp 60) rfl (w.heap.size + 1 + 1 + 1) 0 (CC a1) rfl rfl HG3.out.there (by kernel_rfl) (cc_one a1) ?_; simp only [Act.put, List.setIfInBounds_toArray, List.set_cons_zero, List.set_cons_succ]; have HG4 := Lib.hid (HG3.out.caps a1); clear HG3; generalize World.setCells _ _ _ _ = W4 at HG4 ⊢; have hfz := HG4.out.fz 10; have hcl := (cells11 HG4.out.xx).2.2.2.2.2.2.2.2.2.2; have HG5 := Lib.hid (HG4.out.bool b1)))
 have HG6 := Lib.hid (HG5.out.below (Below.refl _ _).drew);clear HG4 HG5 hfz hcl;refine wp_region_noPanic ?_;refine wp_region_held_drew (S := fun w' => w'.cell? ⟨X.bm, 4, none⟩ = some (.map (some X.b2)) ∧ w'.heap[w.heap.size + 1 + 1]? = some (.cells (KC ia i j c) 168 (0, 0)) ∧ w'.heap[w.heap.size + 1 + 1 + 1]? = some (.cells (LC a1 b1) 170 (0, 0))) (by kernel_rfl) ?_ (fun hHeld => ?_)
 · (try dsimp only); exact ⟨HG6.out.mm.facts.2.2.2.2, HG6.out.kk, HG6.out.xx⟩
 generalize World.drew _ = W6 at HG6 hHeld ⊢;refine Tk.t 0 ?_;refine Tk.t 1 ?_;refine Tk.t 2 ?_;refine Tk.t 3 (hy := by (intro wv hSw; (try dsimp only at hSw); obtain ⟨q0, q1, q2⟩ := hSw; go_simp) <;> with_reducible rfl) ?_;refine Tk.t 4 (hy := fun wv hSw => exec_load_row 168 (.tmp 12) rfl (w.heap.size + 1 + 1) rfl _ (KC ia i j c) _ _ hSw.2.1 Tryz.underlying168 rfl (by kernel_rfl)) ?_;refine Tk.t 5 (hy := fun wv hSw => exec_load_row 170 (.tmp 13) rfl (w.heap.size + 1 + 1 + 1) rfl _ (LC a1 b1) _ _ hSw.2.2 Tryz.underlying170 rfl (by kernel_rfl)) ?_;refine Tk.o 6 (fun K hK => ?_);obtain ⟨w9, hrun, hmm, hkm⟩ := HG6.out.mm.put2 HX.out HAT.out HC.out HLE.out;rw [← HIA.out] at hrun;have HG7 := Lib.hid (HG6.out.call hmm hkm);clear hmm hkm;go_simp;refine hK.out _ _ ?_ (fun hHeld => Tk.w ?_)
 · (try dsimp only); (exact ⟨HG7.out.mm.facts.2.2.2.2, HG7.out.kk, HG7.out.xx⟩)
 clear hK K;refine Tk.d ?_;clear hHeld hrun HG6;go_wp2;have HGD := Lib.hid (HG7.out.below (Below.refl _ _).drew);refine wp_region_noPanic ?_;refine wp_region_held_drew (S := fun w' => w'.heap[w.heap.size + 1 + 1 + 1]? = some (.cells (LC a1 b1) 170 (0, 0))) (by kernel_rfl) ?_ (fun hHeld => ?_)
 · (try dsimp only); exact HGD.out.xx
 clear HG7;generalize World.drew _ = W5 at HGD hHeld ⊢;refine Tk.t 0 ?_;refine Tk.t 1 (hy := fun wv hSw => exec_load_mid 27 (.tmp 70) rfl (w.heap.size + 1 + 1 + 1) 0 rfl (CC a1).toList _ (range_part (pre := []) (post := [.bool b1]) hSw rfl) Tryz.underlying27 rfl (by kernel_rfl)) ?_;refine Tk.t 2 ?_;refine Tk.k (fun _ h => cells11 h) 3 ?_;refine Tk.o 4 (fun K hK => ?_);refine step_store_row rfl 27 (.tmp 10) (.tmp 71) rfl (w.heap.size + 1) (CC a1) rfl rfl _ CZ HGD.out.rs (by kernel_rfl) rfl (cc_one a1) ?_;obtain ⟨r1, r2, r3, r4⟩ := HGD.out.ret a1;have HR := Lib.hid (And.intro r1 (And.intro r2 r3));clear r1 r2 r3 HGD;generalize World.setRow _ _ _ = W9 at HR r4 ⊢;refine hK.out _ _ ?_ (fun hHeld => Tk.w ?_)
 · (try dsimp only); (exact r4)
 clear hK K;refine Tk.t 5 ?_;refine Tk.d ?_;clear hHeld r4;go_wp2;refine bodyPost_ret (res_caps rfl rfl HR.out.1 rfl) rfl ?_;exact ⟨a1, b1, rfl, HLE.out, HR.out.2.1, HR.out.2.2⟩
theorem fits_all (X : Par) (hX : X.Ok) (x : Tr) (o : Nat) (ha : At X.l x o) (hn : NumsOk x) (hs : SetsOk x) (hr : X.refs = false → refsT x = 0) (HL : LookOk X x (o + x.size - 1)) : FitOk X x (o + x.size - 1) := by
 cases hrf : X.refs with
 | false => exact fits_no X hX hrf x _ (from_all X hX x o ha (hr hrf) hs) HL fun i j c a h1 h2 h => ends_sound x (hr hrf) hn i j c a h1 h2 h
 | true =>
  intro pr i j c w hij hj hc hM;obtain ⟨v, b, hlook, hb⟩ := hM.look2 hX ha (size_pos x) i j hc;rcases hb with ⟨rfl, z, rfl, rfl⟩ | ⟨rfl, c', b', rfl, hl⟩
  · exact fits_miss X hX hrf x o _ ha rfl pr i j c w hij hj hc hM HL hlook
  · exact fits_hit X hX hrf x o _ ha rfl pr i j c w hij hj hc hM c' b' hl hlook
theorem reaches_all (X : Par) (hX : X.Ok) (x : Tr) (o : Nat) (ha : At X.l x o) (hs : SetsOk x) (hr : X.refs = false → refsT x = 0) (b m : Nat) (z : List Nat) (mn mx : Int) (h1 : 0 ≤ mn) (h2 : mn ≤ 255) (h3 : -1 ≤ mx) (h4 : mx ≤ 255) (j : Nat) (hj : j ≤ X.N) :
  ∀ (pr : Nat → Prop) (k cc : Nat) (a : Caps) (w : World), k ≤ X.N → cc ≤ 200000 → MM X pr w → Calls Tryz.prog 151 #[PT X.bm, NV ⟨6, z, ((o + x.size - 1 : Nat) : Int), (b : Nat), mn, mx, (m : Nat)⟩, SD k cc j a, E (j : Nat)] w fun e w' => e = .returned (.bool (rch X x mn mx k cc j)) ∧ MM X pr w' ∧ Km X w w' := by
 intro pr k cc a w hk hcc hM;cases hrf : X.refs with
 | true =>
  refine (reaches_refs X hrf pr _ k cc j a j w hM).mono ?_;rintro e w' ⟨rfl, hb⟩;refine ⟨?_, hM.below hb, Km.of_below hb⟩;unfold rch;rw [hrf];rfl
 | false =>
  refine (reaches_no X hX hrf x _ (from_all X hX x o ha (hr hrf) hs) pr ⟨6, z, ((o + x.size - 1 : Nat) : Int), (b : Nat), mn, mx, (m : Nat)⟩ rfl h1 h2 h3 h4 k cc j hk hcc a j hj w hM).mono ?_;rintro e w' ⟨rfl, hm, hk⟩;refine ⟨?_, hm, hk⟩;unfold rch;rw [hrf];rfl
theorem look_all (X : Par) (hX : X.Ok) (em : Prop) : ∀ (x : Tr) (o : Nat), At X.l x o → x.Fine em → SetsOk x → (X.refs = false → refsT x = 0) → LookOk X x (o + x.size - 1) := by
 intro x
 induction x with
 | e =>
  intro o ha hf hs hr pr i j c w hij hj hc hM;obtain ⟨nb, no, cap, hv, hlt, hN⟩ := hM.node hX ha;exact look_0 X hX _ pr i j c w hij hj hc hM nb no cap hv hlt z4 0 0 0 0 0 hN _ rfl
 | set s =>
  intro o ha hf hs hr pr i j c w hij hj hc hM;obtain ⟨nb, no, cap, hv, hlt, hN⟩ := hM.node hX ha;exact look_1 X hX _ pr i j c w hij hj hc hM nb no cap hv hlt s 0 0 0 0 0 hN hs _ rfl
 | beg =>
  intro o ha hf hs hr pr i j c w hij hj hc hM;obtain ⟨nb, no, cap, hv, hlt, hN⟩ := hM.node hX ha;exact look_2 X hX _ pr i j c w hij hj hc hM nb no cap hv hlt z4 0 0 0 0 0 hN _ rfl
 | fin =>
  intro o ha hf hs hr pr i j c w hij hj hc hM;obtain ⟨nb, no, cap, hv, hlt, hN⟩ := hM.node hX ha;exact look_3 X hX _ pr i j c w hij hj hc hM nb no cap hv hlt z4 0 0 0 0 0 hN _ rfl
 | cat x y ihx ihy =>
  intro o ha hf hs hr pr i j c w hij hj hc hM;obtain ⟨nb, no, cap, hv, hlt, hN⟩ := hM.node hX ha;have hx := at_left ha (r := _ ++ _) (by rw [← List.append_assoc]; rfl);have hy := at_right ha (by rw [← List.append_assoc]; rfl);(have hrx : X.refs = false → refsT x = 0 := fun q => by have := hr q; simp only [refsT] at this; omega);(have hry : X.refs = false → refsT y = 0 := fun q => by have := hr q; simp only [refsT] at this; omega);have h3 := fits_all X hX x o hx (nums_fine em x hf.1) hs.1 hrx (ihx o hx hf.1 hs.1 hrx);have h4 := fits_all X hX y (o + x.size) hy (nums_fine em y hf.2.1) hs.2 hry (ihy _ hy hf.2.1 hs.2 hry);exact look_4 X hX _ pr i j c w hij hj hc hM nb no cap hv hlt z4 _ _ 0 0 0 hN x y h3 h4 _ rfl
 | alt x y ihx ihy =>
  intro o ha hf hs hr pr i j c w hij hj hc hM;obtain ⟨nb, no, cap, hv, hlt, hN⟩ := hM.node hX ha;have hx := at_left ha (r := _ ++ _) (by rw [← List.append_assoc]; rfl);have hy := at_right ha (by rw [← List.append_assoc]; rfl);(have hrx : X.refs = false → refsT x = 0 := fun q => by have := hr q; simp only [refsT] at this; omega);(have hry : X.refs = false → refsT y = 0 := fun q => by have := hr q; simp only [refsT] at this; omega);have h3 := fits_all X hX x o hx (nums_fine em x hf.1) hs.1 hrx (ihx o hx hf.1 hs.1 hrx);have h4 := fits_all X hX y (o + x.size) hy (nums_fine em y hf.2.1) hs.2 hry (ihy _ hy hf.2.1 hs.2 hry);refine look_5 X hX _ pr i j c w hij hj hc hM nb no cap hv hlt z4 _ _ 0 0 0 hN x y h3 h4 _ ?_;show fitP X.T (.alt x y) i j c = _;rw [fitP];cases fitP X.T x i j c <;> rfl
 | times mn mx x ihx =>
  intro o ha hf hs hr pr i j c w hij hj hc hM;obtain ⟨nb, no, cap, hv, hlt, hN⟩ := hM.node hX ha;have hx := at_left ha rfl;(have hrx : X.refs = false → refsT x = 0 := fun q => by have := hr q; simp only [refsT] at this; omega);have h3 := fits_all X hX x o hx (nums_fine em x hf.1) hs hrx (ihx o hx hf.1 hs hrx);obtain ⟨_, f1, f2, f3, _⟩ := hf;refine look_6 X hX _ pr i j c w hij hj hc hM nb no cap hv hlt z4 _ 0 mn mx 0 hN _ (fun pr w hM => ?_) _ rfl;obtain ⟨nb, no, cap, hv, hlt, hN⟩ := hM.node hX ha;by_cases hmx : mx = -1
  · subst hmx;exact again_inf X hX _ _ x mn f1 f2 hrx (nums_fine em x ‹_›) pr i j c w hij hj hc hM nb no cap hv hlt z4 0 0 hN h3 (reaches_all X hX x o hx hs hrx 0 0 z4 mn (-1) f1 f2 (by omega) (by omega) j hj) _ rfl
  · exact again_max X hX _ _ x mn mx f1 f2 hmx (by omega) hrx (nums_fine em x ‹_›) pr i j c w hij hj hc hM nb no cap hv hlt z4 0 0 hN h3 (reaches_all X hX x o hx hs hrx 0 0 z4 mn mx f1 f2 (by omega) (by omega) j hj) _ rfl
 | grp n x ihx =>
  intro o ha hf hs hr pr i j c w hij hj hc hM;obtain ⟨nb, no, cap, hv, hlt, hN⟩ := hM.node hX ha;have hx := at_left ha rfl;(have hrx : X.refs = false → refsT x = 0 := fun q => by have := hr q; simp only [refsT] at this; omega);have h3 := fits_all X hX x o hx (nums_fine em x hf.1) hs hrx (ihx o hx hf.1 hs hrx);obtain ⟨_, f1, f2⟩ := hf;obtain ⟨m, rfl⟩ : ∃ m : Nat, n = (m : Int) := ⟨n.toNat, by omega⟩;exact look_7 X hX _ pr i j c w hij hj hc hM nb no cap hv hlt z4 _ 0 0 0 m hN (by omega) (by omega) x h3 _ rfl
 | ref n =>
  intro o ha hf hs hr pr i j c w hij hj hc hM;obtain ⟨nb, no, cap, hv, hlt, hN⟩ := hM.node hX ha;obtain ⟨f1, f2⟩ := hf;obtain ⟨m, rfl⟩ : ∃ m : Nat, n = (m : Int) := ⟨n.toNat, by omega⟩;exact look_8 X hX _ pr i j c w hij hj hc hM nb no cap hv hlt z4 0 0 0 0 m hN (by omega) (by omega) _ rfl
/-- The whole pattern. -/
theorem fits_whole (X : Par) (hX : X.Ok) : FitOk X X.t (X.l.length - 1) := by
 have hw := hX.good.1;have ha : At X.l X.t 0 := at_self X.t;have hr : X.refs = false → refsT X.t = 0 := fun q => by
  unfold Par.refs at q;have := of_decide_eq_false q;omega
 have := fits_all X hX X.t 0 ha (nums_fine _ X.t hw) hX.sets hr (look_all X hX _ X.t 0 ha hw hX.sets hr);rw [show X.l.length = X.t.size from nodes_len _ _]
 rwa [Nat.zero_add] at this
/-- What a group has of a text. -/
def groupP (T : List UInt8) (c : Caps) (n : Int) : List UInt8 := if 0 ≤ n ∧ n < 10 then cutC T (gr c n.toNat) else []
theorem group_any (T : List UInt8) (hT : T.length ≤ 100000) (c : Caps) (hc : CapsOk T.length c) (n : Int) (w : World) (R : List UInt8) (hR : R = groupP T c n) : Calls Tryz.prog 76 #[S T, CV c, E n] w fun e w' => e = .returned (S R) ∧ Below w.heap.size w w' := by
 have HRR := Lib.hid hR;have HB := Lib.hid ((Below.refl w.heap.size w).alloc (Nat.le_refl _) (.cells (CC c) 27));clear hR;by_cases h0 : n < 0
 · have HN := Lib.hid h0;go_enter Tryz.func76, Tryz.ntmps76;go_wp2;go_ret;refine ⟨?_, HB.out⟩;rw [HRR.out, groupP, if_neg (by have := HN.out; omega)];try rfl
 ·
  by_cases h1 : 10 ≤ n
  · have HN := Lib.hid h1;go_enter Tryz.func76, Tryz.ntmps76;go_wp2;go_ret;refine ⟨?_, HB.out⟩;rw [HRR.out, groupP, if_neg (by have := HN.out; omega)];try rfl
  · obtain ⟨m, rfl⟩ : ∃ m : Nat, n = (m : Int) := ⟨n.toNat, by omega⟩;(have hm : m < 10 := by omega);have HM := Lib.hid hm;have hcl := cap_cell (show CB (w.alloc (.cells (CC c) 27)) w.heap.size c from heap_alloc_new _ _) hm;(have hm0 : (0 : Int) ≤ (m : Int) := by omega);have HCU := Lib.hid (fun W => cut_cap (T := T) (by omega) (hc.at m) W);generalize hcv : capV (gr c m) = cv at HCU hcl;clear hcv hc hm;go_enter Tryz.func76, Tryz.ntmps76;go_wp2_with (go_at_call 39; refine (HCU.out _).mono ?_; rintro e w2 ⟨rfl, rfl⟩);go_ret;refine ⟨?_, HB.out⟩;rw [HRR.out, groupP, if_pos (by have := HM.out; omega)];try rfl
/-- The matcher that has just been made. -/
theorem mat_new {e : Ending} {t : Tr} {w1 w' : World} {T : List UInt8} {v : Value} (h : ∃ X : Par, X.Ok ∧ X.w0 = w1 ∧ X.T = T ∧ X.t = t ∧ X.v = v ∧ e = .returned (PT X.bm) ∧ MM X (fun _ => False) w') :
  ∃ bm b1 b2, e = .returned (PT bm) ∧ (⟨w1, T, t, v, bm, b1, b2⟩ : Par).Ok ∧ MM ⟨w1, T, t, v, bm, b1, b2⟩ (fun _ => False) w' := by
 obtain ⟨⟨w0, T0, t0, v0, bm, b1, b2⟩, hX, e1, e2, e3, e4, e5, hM⟩ := h;dsimp only at e1 e2 e3 e4 e5;subst e1 e2 e3 e4;exact ⟨bm, b1, b2, e5, hX, hM⟩
/-- The whole, of such a matcher. -/
theorem whole_mat {X : Par} (hX : X.Ok) {w : World} (hM : MM X (fun _ => False) w) {i j : Nat} (hij : i ≤ j) (hj : j ≤ X.N) {R : Option Caps} (hR : R = wholeP X.T X.t i j) :
  Calls Tryz.prog 49 #[PT X.bm, E (i : Nat), E (j : Nat)] w fun e w' => e = .returned (.tuple #[CV (R.getD nones), .bool R.isSome]) ∧ MM X (fun _ => False) w' ∧ Km X w w' := by
 obtain ⟨nb, no, cap, hv, _⟩ := hM.node hX (at_self X.t);have hl : X.l.length = X.t.size := nodes_len _ _;have hp := size_pos X.t;have hg := hX.good.2.1;refine (whole_any X hX _ i j hij hj w hM nb no cap hv (by omega) (by omega) (fits_whole X hX) R hR).mono ?_;rintro e w' ⟨rfl, hm, hk⟩;exact ⟨rfl, hm, hk⟩
theorem own_km {X : Par} {pr : Nat → Prop} {w w' : World} (h : MM X pr w) {B e n z : Nat} {v : Value} {xs : List Value} (ho : w.ownsRow B e z v n xs) (hk : Km X w w') : w'.ownsRow B e z v n xs := by
 refine ⟨ho.1, ?_⟩;rcases ho.2 with hv | ⟨g, cap, cur, hv, h1, h2, h3⟩
 · exact Or.inl hv
 · exact Or.inr ⟨g, cap, cur, hv, h1, mm_keep h hk h2, h3⟩
theorem Longest_no (l : List Nd) (ao : Option Addr) (c : Nat) (w : World) (h : Ns w (.slice ao l.length c) l) (hw : ∀ n ∈ l, Wf n.s) (T : List UInt8) (i : Int) (hbad : mayL l = false ∨ i < 0 ∨ (T.length : Int) < i) :
  Calls Tryz.prog 23 #[.slice ao l.length c, S T, E i] w fun e w' => e = .returned (ansC none) ∧ Below w.heap.size w w' := by
 have HZ := Lib.hid (heap_alloc_new w (.cells CZ 27));have HB0 := Lib.hid ((Below.refl w.heap.size w).alloc (Nat.le_refl _) (.cells CZ 27));have HMAY := Lib.hid (fun (W : World) (hb : Below w.heap.size w W) => may_any ao c l W (h.below hb) hw);have HNA := Lib.hid (fun W => none_any W);clear h hw;generalize l.length = n at *;cases hm : mayL l
 ·
  clear hbad;rw [hm] at HMAY;clear hm;go_enter Tryz.func23, Tryz.ntmps23;go_wp2_with (first
   | (go_at_call 27; refine (HMAY.out _ HB0.out).mono ?_; rintro e w1 ⟨rfl, hb⟩; have HBL := Lib.hid (HB0.out.trans (hb.mono HB0.out.size)); have HRL := Lib.hid ((hb.block _ (by simp)).trans HZ.out); clear hb)
   | (go_at_call 40; refine (HNA.out _).mono ?_; rintro e w8 ⟨rfl, hb⟩; have HB8 := Lib.hid (HBL.out.trans (hb.mono HBL.out.size)); have HR8 := Lib.hid ((hb.block _ (lt_heap' HRL.out)).trans HRL.out); clear hb)
   | (refine wpList_store_row rfl 27 (.tmp 6) (.tmp 25) rfl w.heap.size (CC nones) rfl rfl _ CZ HR8.out (by kernel_rfl) rfl (cc_one nones) ?_; simp only [Act.put, List.setIfInBounds_toArray, List.set_cons_zero, List.set_cons_succ]; have HR := Lib.hid (And.intro (setRow_heap _ _ _ (CC nones) _ _ HR8.out) (below_setRow (B := w.heap.size) HB8.out (g := w.heap.size) (Nat.le_refl _) (CC nones))); generalize World.setRow _ _ _ = W9 at HR ⊢))
  refine bodyPost_ret (res_caps rfl rfl HR.out.1 rfl) rfl ?_;exact ⟨rfl, HR.out.2⟩
 ·
  rw [hm] at hbad;(replace hbad : i < 0 ∨ (T.length : Int) < i := by simpa using hbad);by_cases h0 : i < 0
  ·
   clear hbad;rw [hm] at HMAY;clear hm;go_enter Tryz.func23, Tryz.ntmps23;go_wp2_with (first
    | (go_at_call 27; refine (HMAY.out _ HB0.out).mono ?_; rintro e w1 ⟨rfl, hb⟩; have HBL := Lib.hid (HB0.out.trans (hb.mono HB0.out.size)); have HRL := Lib.hid ((hb.block _ (by simp)).trans HZ.out); clear hb)
    | (go_at_call 40; refine (HNA.out _).mono ?_; rintro e w8 ⟨rfl, hb⟩; have HB8 := Lib.hid (HBL.out.trans (hb.mono HBL.out.size)); have HR8 := Lib.hid ((hb.block _ (lt_heap' HRL.out)).trans HRL.out); clear hb)
    | (refine wpList_store_row rfl 27 (.tmp 6) (.tmp 25) rfl w.heap.size (CC nones) rfl rfl _ CZ HR8.out (by kernel_rfl) rfl (cc_one nones) ?_; simp only [Act.put, List.setIfInBounds_toArray, List.set_cons_zero, List.set_cons_succ]; have HR := Lib.hid (And.intro (setRow_heap _ _ _ (CC nones) _ _ HR8.out) (below_setRow (B := w.heap.size) HB8.out (g := w.heap.size) (Nat.le_refl _) (CC nones))); generalize World.setRow _ _ _ = W9 at HR ⊢))
   refine bodyPost_ret (res_caps rfl rfl HR.out.1 rfl) rfl ?_;exact ⟨rfl, HR.out.2⟩
  (have h1 : (T.length : Int) < i := by omega);clear hbad;rw [hm] at HMAY;clear hm;go_enter Tryz.func23, Tryz.ntmps23;go_wp2_with (first
   | (go_at_call 27; refine (HMAY.out _ HB0.out).mono ?_; rintro e w1 ⟨rfl, hb⟩; have HBL := Lib.hid (HB0.out.trans (hb.mono HB0.out.size)); have HRL := Lib.hid ((hb.block _ (by simp)).trans HZ.out); clear hb)
   | (go_at_call 40; refine (HNA.out _).mono ?_; rintro e w8 ⟨rfl, hb⟩; have HB8 := Lib.hid (HBL.out.trans (hb.mono HBL.out.size)); have HR8 := Lib.hid ((hb.block _ (lt_heap' HRL.out)).trans HRL.out); clear hb)
   | (refine wpList_store_row rfl 27 (.tmp 6) (.tmp 25) rfl w.heap.size (CC nones) rfl rfl _ CZ HR8.out (by kernel_rfl) rfl (cc_one nones) ?_; simp only [Act.put, List.setIfInBounds_toArray, List.set_cons_zero, List.set_cons_succ]; have HR := Lib.hid (And.intro (setRow_heap _ _ _ (CC nones) _ _ HR8.out) (below_setRow (B := w.heap.size) HB8.out (g := w.heap.size) (Nat.le_refl _) (CC nones))); generalize World.setRow _ _ _ = W9 at HR ⊢))
  refine bodyPost_ret (res_caps rfl rfl HR.out.1 rfl) rfl ?_;exact ⟨rfl, HR.out.2⟩
theorem Longest_yes (t : Tr) (hg : Go.Proofs.YthpiapemjadgdaaGreatDoor.Rx.Good t) (hs : SetsOk t) (ao : Option Addr) (c : Nat) (w : World) (h : Ns w (.slice ao (t.nodes 0).length c) (t.nodes 0)) (T : List UInt8) (hT : T.length ≤ 100000) (i : Nat) (hi : i ≤ T.length) (R : Option Caps) (hR : R = longP T t i) :
  Calls Tryz.prog 23 #[.slice ao (t.nodes 0).length c, S T, E (i : Nat)] w fun e w' => e = .returned (ansC R) ∧ Below w.heap.size w w' := by
 have hw := nodes_sets t 0 hs;have HZ := Lib.hid (heap_alloc_new w (.cells CZ 27));have HB0 := Lib.hid ((Below.refl w.heap.size w).alloc (Nat.le_refl _) (.cells CZ 27));have hmay := (fun (W : World) (hb : Below w.heap.size w W) => may_any ao c (t.nodes 0) W (h.below hb) hw);rw [show mayL (t.nodes 0) = true from by unfold mayL; rw [patOf_good hg]; rfl] at hmay;have HMAY := Lib.hid hmay;have HNEW := Lib.hid (fun (W : World) (hb : Below w.heap.size w W) => new_any t hg hs hw (.slice ao (t.nodes 0).length c) T hT W (h.below hb));have HNA := Lib.hid (fun W => none_any W);have HRR := Lib.hid hR;have HI := Lib.hid (And.intro hi hT);(have h0 : ¬ (i : Int) < 0 := by omega);(have h2 : ¬ (T.length : Int) < (i : Int) := by omega);clear hmay hw hR hi h hg hs hT;generalize (t.nodes 0).length = n at *;go_enter Tryz.func23, Tryz.ntmps23;go_wp2_with (first
  | (go_at_call 27; refine (HMAY.out _ HB0.out).mono ?_; rintro e w1 ⟨rfl, hb⟩; have HB1 := Lib.hid (HB0.out.trans (hb.mono HB0.out.size)); have HRS := Lib.hid ((hb.block _ (by simp)).trans HZ.out); clear hb)
  | (go_at_call 48; refine (HNEW.out _ HB1.out).mono ?_; intro e w2 hnew; obtain ⟨bm, b1, b2, rfl, hX, hM⟩ := mat_new hnew; have HX := Lib.hid hX; have HM := Lib.hid hM; clear hX hM hnew))
 obtain ⟨G, hG⟩ : ∃ G, G = (fun j => wholeP T t i j) := ⟨_, rfl⟩;have HG := Lib.hid hG;have HR0 := Lib.hid (show R = dn G i (T.length + 1 - i) from by rw [HRR.out, hG]; rfl);clear hG HRR;go_loopg [9] (T.length + 1 - i) (fun m jv wr => m ≤ T.length + 1 - i ∧ ∃ k : Int, k = (i : Int) + (m : Int) - 1 ∧ jv = .int .i64 k ∧ Hid (R = dn G i m) ∧ Hid (MM ⟨w1, T, t, .slice ao n c, bm, b1, b2⟩ (fun _ => False) wr));(case atStart => exact ⟨Nat.le_refl _, (T.length : Int), by have := HI.out; omega, rfl, HR0, HM⟩);case round =>
  clear HM HR0;obtain ⟨hn, k, hk, rfl, HD, HM⟩ := hrel;have HBL := Lib.hid (HB1.out.trans (HM.out.bel.mono HB1.out.size));have HRL := Lib.hid ((HM.out.bel.block _ (lt_heap' HRS.out)).trans HRS.out);cases gk with
  | zero =>
   (have hlt : ¬ ((i : Int) ≤ k) := by omega);clear hk;go_wp2_with (first
    | (go_at_call 40; refine (HNA.out _).mono ?_; rintro e w8 ⟨rfl, hb⟩; have HB8 := Lib.hid (HBL.out.trans (hb.mono HBL.out.size)); have HR8 := Lib.hid ((hb.block _ (lt_heap' HRL.out)).trans HRL.out); clear hb)
    | (refine wpList_store_row rfl 27 (.tmp 6) (.tmp 45) rfl w.heap.size (CC nones) rfl rfl _ CZ HR8.out (by kernel_rfl) rfl (cc_one nones) ?_; simp only [Act.put, List.setIfInBounds_toArray, List.set_cons_zero, List.set_cons_succ]; have HR := Lib.hid (And.intro (setRow_heap _ _ _ (CC nones) _ _ HR8.out) (below_setRow (B := w.heap.size) HB8.out (g := w.heap.size) (Nat.le_refl _) (CC nones))); generalize World.setRow _ _ _ = W9 at HR ⊢))
   refine bodyPost_ret (res_caps rfl rfl HR.out.1 rfl) rfl ?_;refine ⟨?_, HR.out.2⟩;rw [HD.out]; rfl
  | succ m =>
   obtain ⟨q, hq⟩ : ∃ q, q = i + m := ⟨_, rfl⟩;(obtain rfl : k = (q : Int) := by omega);(have hle : (i : Int) ≤ (q : Int) := by omega);(have hlt : ¬ ((q : Int) < (i : Int)) := by omega);(have hwq : IntKind.i64.wrap ((q : Int) - 1) = (q : Int) - 1 := by rw [IntKind.wrap_i64]; have := HI.out; omega);have HQ := Lib.hid (show i ≤ q ∧ q ≤ T.length ∧ q = i + m ∧ m ≤ T.length + 1 - i from ⟨by omega, by omega, hq, by omega⟩);have HDN := Lib.hid (show R = (match G q with | some a => some a | none => dn G i m) from by rw [HD.out, hq, dn_succ]; cases G (i + m) <;> rfl);obtain ⟨R1, hR1⟩ : ∃ R1, R1 = wholeP T t i q := ⟨_, rfl⟩;have HR1 := Lib.hid hR1;have HGQ := Lib.hid (show G q = R1 from by rw [HG.out, hR1]);clear hk hq hn HD hR1;cases hc : R1 with
   | none =>
    rw [hc] at HR1 HGQ;go_wp2_with (first
     | (go_at_call 49; have hq := whole_mat HX.out HM.out HQ.out.1 HQ.out.2.1 HR1.out; refine hq.mono ?_; clear hq; rintro e w3 ⟨rfl, hm, hk⟩; have HM3 := Lib.hid hm; clear hm)
     | (refine wpList_store_row rfl 27 (.tmp 10) (.tmp 41) rfl _ (CC nones) rfl rfl _ CZ (heap_alloc_new _ _) (by kernel_rfl) rfl (cc_one nones) ?_; simp only [Act.put, List.setIfInBounds_toArray, List.set_cons_zero, List.set_cons_succ]; rw [box_laid]; have HM4 := Lib.hid (HM3.out.below ((Below.refl _ _).alloc (Nat.le_refl _) (.cells (CC nones) 27))); clear HM3; generalize World.alloc _ _ = W4 at HM4 ⊢))
    go_roundg m;(case measure => omega);case rel => exact ⟨by have := HQ.out; omega, _, by have := HQ.out; omega, rfl, Lib.hid (by rw [HDN.out, HGQ.out]), HM4⟩
   | some a1 =>
    rw [hc] at HR1 HGQ;go_wp2_with (first
     | (go_at_call 49; have hq := whole_mat HX.out HM.out HQ.out.1 HQ.out.2.1 HR1.out; refine hq.mono ?_; clear hq; rintro e w3 ⟨rfl, hm, hk⟩; have HM3 := Lib.hid hm; clear hm)
     | (refine wpList_store_row rfl 27 (.tmp 10) (.tmp 41) rfl _ (CC a1) rfl rfl _ CZ (heap_alloc_new _ _) (by kernel_rfl) rfl (cc_one a1) ?_; simp only [Act.put, List.setIfInBounds_toArray, List.set_cons_zero, List.set_cons_succ]; rw [box_laid]; have HM4 := Lib.hid (HM3.out.below ((Below.refl _ _).alloc (Nat.le_refl _) (.cells (CC a1) 27))); have HX4 := Lib.hid (heap_alloc_new w3 (.cells (CC a1) 27)); have HB8 := Lib.hid (HB1.out.trans (HM4.out.bel.mono HB1.out.size)); have HR8 := Lib.hid ((HM4.out.bel.block _ (lt_heap' HRS.out)).trans HRS.out); clear HM3; generalize World.alloc _ _ = W4 at HM4 HX4 HB8 HR8 ⊢)
     | (refine wpList_load_row rfl 27 (.tmp 10) rfl w3.heap.size rfl _ (CC a1) (0, 0) _ HX4.out Tryz.underlying27 rfl (by kernel_rfl) ?_; simp only [Act.put, List.setIfInBounds_toArray, List.set_cons_zero, List.set_cons_succ])
     | (refine wpList_store_row rfl 27 (.tmp 6) (.tmp 44) rfl w.heap.size (CC a1) rfl rfl _ CZ HR8.out (by kernel_rfl) rfl (cc_one a1) ?_; simp only [Act.put, List.setIfInBounds_toArray, List.set_cons_zero, List.set_cons_succ]; have HR := Lib.hid (And.intro (setRow_heap _ _ _ (CC a1) _ _ HR8.out) (below_setRow (B := w.heap.size) HB8.out (g := w.heap.size) (Nat.le_refl _) (CC a1))); generalize World.setRow _ _ _ = W9 at HR ⊢))
    refine bodyPost_ret (res_caps rfl rfl HR.out.1 rfl) rfl ?_;refine ⟨?_, HR.out.2⟩;rw [HDN.out, HGQ.out]; rfl
/-- The ends ahead of a place. -/
def endsK (T : List UInt8) (t : Tr) (i k : Nat) : List Nat := (List.range' i (k - i)).filter fun j => (wholeP T t i j).isSome
def ints (l : List Nat) : List Value := l.map fun j => E (j : Nat)
theorem ends_next (T : List UInt8) (t : Tr) (i k : Nat) (h : i ≤ k) : endsK T t i (k + 1) = endsK T t i k ++ (if (wholeP T t i k).isSome = true then [k] else []) := by
 unfold endsK;rw [show k + 1 - i = (k - i) + 1 by omega, List.range'_concat, List.filter_append, Nat.one_mul, show i + (k - i) = k by omega];rw [List.filter_cons, List.filter_nil]
theorem ends_len (T : List UInt8) (t : Tr) (i k : Nat) : (endsK T t i k).length ≤ k - i := by
 unfold endsK;exact Nat.le_trans (List.length_filter_le _ _) (by simp)
/-- What Ends answers. -/
def EndsAns (w : World) (l : List Nat) (e : Ending) (w' : World) : Prop := ∃ v B, e = .returned v ∧ w.heap.size ≤ B ∧ w'.ownsRow B 3 1 v l.length (ints l) ∧ Below w.heap.size w w'
theorem infoI : (Tryz.prog.info? 3).map (fun i => (i.zero, i.size, i.bytes)) = some (some (.int .i64 0), 1, 8) := by kernel_rfl
theorem MM.grown {X : Par} {pr : Nat → Prop} {w w' : World} (h : MM X pr w) {v : Value} {n : Nat} {xs : List Value} (ho : w.ownsRow X.w0.heap.size 3 1 v n xs) (hg : w.grownBy w' v.ownBlock) : MM X pr w' := by
 have hb : Below X.w0.heap.size X.w0 w' := h.bel.grown hg h.bel.size (fun k hk => (ho.lt k hk).1);rcases ho.2 with ⟨rfl, _⟩ | ⟨g, cap, cur, rfl, h2, h3, h4, h5, h6, h7⟩
 · exact h.below ((Below.refl _ _).grown hg (Nat.le_refl _) (fun k hk => by cases hk))
 · exact h.other (by decide) (by decide) h3 hg.size (fun k hk hne => hg.block k hk (by simp only [Value.ownBlock, ne_eq, Option.some.injEq]; exact hne)) hb
theorem news_int (w : World) (k : Nat) (B : Nat) (hB : B = w.heap.size) : ∀ j u, ([E (k : Nat)] : List Value)[j]? = some u → (w.alloc (.cells #[E (k : Nat)] 3)).cell? ((⟨B, 0, none⟩ : Addr).add j) = some u := by
 intro j u hj;subst hB;rw [Addr.add_lit, Lib.cell_of_heap (heap_alloc_new _ _), Nat.zero_add];simpa using hj
end Go.Proofs.YthpiapemjadgdaaGreatDoor.Mt
namespace Go.Proofs.YthpiapemjadgdaaGreatDoor.Rx
open Go.RowKit Go.Shelf
open Go.Proofs.YthpiapemjadgdaaGreatDoor.St (Wf word zeroW)
end Go.Proofs.YthpiapemjadgdaaGreatDoor.Rx
namespace Go.Proofs.YthpiapemjadgdaaGreatDoor.Mt
open Go.RowKit Go.Shelf
open Go.Proofs.YthpiapemjadgdaaGreatDoor.Rx
open Go.Proofs.YthpiapemjadgdaaGreatDoor.Rx.Tr
open Go.Proofs.YthpiapemjadgdaaGreatDoor.St (Wf word mem SV SV_eq ofL wf_ofL bytesL)
/-- How many of the first k nodes are of a kind. -/
def cntK (l : List Nd) (q : Int) (k : Nat) : Nat := ((l.take k).filter fun n => decide (n.k = q)).length
theorem cnt_next (l : List Nd) (q : Int) {k : Nat} (hk : k < l.length) : cntK l q (k + 1) = cntK l q k + (if l[k].k = q then 1 else 0) := by
 unfold cntK;rw [List.take_succ_eq_append_getElem hk, List.filter_append, List.length_append, List.filter_cons, List.filter_nil];by_cases h : l[k].k = q
 · rw [if_pos h, decide_eq_true h]; rfl
 · rw [if_neg h, decide_eq_false h]; rfl
theorem cnt_le (l : List Nd) (q : Int) (k : Nat) : cntK l q k ≤ k := by
 unfold cntK;exact Nat.le_trans (List.length_filter_le _ _) (by simp; omega)
def boundedL (a b c : Nat) (l : List Nd) (m : Nat) : Bool := decide (l.length ≤ a) && (decide (m ≤ b) && (decide (cntK l 8 l.length = 0) || (decide (cntK l 6 l.length ≤ 2) && decide (m ≤ c))))
theorem bounded_len {a b c : Nat} {l : List Nd} {m : Nat} (h : boundedL a b c l m = true) : l.length ≤ a ∧ m ≤ b := by
 unfold boundedL at h;simp only [Bool.and_eq_true, decide_eq_true_eq] at h;exact ⟨h.1, h.2.1⟩
def T6 : Tr := .cat (.grp 1 (.times 0 (-1) (.set (ofL [97])))) (.times 0 (-1) (.grp 2 (.cat (.set (ofL [97])) (.set (ofL [98])))))
def c6 : Caps := [some (0, 3), some (0, 1), some (1, 3), none, none, none, none, none, none, none]
theorem bytes_97 : bytesL (ofL [97]) = [97] := by decide +kernel
theorem bytes_98 : bytesL (ofL [98]) = [98] := by decide +kernel
theorem t6_text : textT T6 = [38, 40, 42, 48, 44, 45, 49, 59, 91, 54, 49, 93, 41, 42, 48, 44, 45, 49, 59, 40, 38, 91, 54, 49, 93, 91, 54, 50, 93, 41] := by
 (have e0 : Lib.itoa 0 = [48] := by rw [itoa_digit (by decide) (by decide)]; rfl);have e1 : Lib.itoa (-1) = [45, 49] := by
  unfold Lib.itoa;rw [if_pos (by decide), show Int.natAbs (-1) = 1 from rfl, Lib.decDigits, dif_pos (by decide)];rfl
 simp only [T6, textT];rw [e0, e1, bytes_97, bytes_98];rfl
theorem t6_good : Go.Proofs.YthpiapemjadgdaaGreatDoor.Rx.Good T6 := by
 refine ⟨?_, by decide, by decide⟩;unfold Go.Proofs.YthpiapemjadgdaaGreatDoor.Rx.Whole;simp only [T6, Fine, Tr.rk];decide
theorem t6_sets : SetsOk T6 := ⟨wf_ofL _, wf_ofL _, wf_ofL _⟩
theorem t6_long : longP [97, 97, 98] T6 0 = some c6 := by decide +kernel
theorem t6_ends : (endsK [97, 97, 98] T6 0 4).length = 4 := by decide +kernel
theorem t6_one : groupP [97, 97, 98] c6 1 = [97] := by decide +kernel
theorem t6_two : groupP [97, 97, 98] c6 2 = [97, 98] := by decide +kernel
theorem t6_caps : CapsOk 3 c6 := whole_ok (T := [97, 97, 98]) (t := T6) (i := 0) (j := 3) (by decide) (by decide) (by decide +kernel)
theorem t6_len : (T6.nodes 0).length = 9 := rfl
def qs (q : Nat → Bool) (n : Nat) : List Nat := (List.range n).filter q
theorem qs_next (q : Nat → Bool) (n : Nat) : qs q (n + 1) = qs q n ++ (if q n = true then [n] else []) := by
 unfold qs;rw [List.range_succ, List.filter_append, List.filter_cons, List.filter_nil]
theorem qs_split (q : Nat → Bool) (j : Nat) : ∀ n, j ≤ n → ∃ r, qs q n = qs q j ++ r ∧ ∀ x ∈ r, j ≤ x := by
 intro n h
 induction h with
 | refl => exact ⟨[], by simp, by simp⟩
 | @step m h ih =>
  obtain ⟨r, h1, h2⟩ := ih;refine ⟨r ++ (if q m = true then [m] else []), by rw [qs_next, h1, List.append_assoc], ?_⟩;intro x hx;rcases List.mem_append.1 hx with hx | hx
  · exact h2 x hx
  ·
   split at hx
   · simp only [List.mem_singleton] at hx; subst hx; exact h
   · cases hx
theorem qs_len (q : Nat → Bool) (n : Nat) : (qs q n).length ≤ n := by
 unfold qs;exact Nat.le_trans (List.length_filter_le _ _) (by simp)
/-- Where something holds, the next one in the row is that place. -/
theorem qs_at {q : Nat → Bool} {j n : Nat} (hj : j < n) (h : q j = true) : (qs q n)[(qs q j).length]? = some j := by
 obtain ⟨r, h1, _⟩ := qs_split q (j + 1) n hj;rw [h1, qs_next, if_pos h, List.append_assoc];simp
theorem qs_not {q : Nat → Bool} {j n : Nat} (hj : j < n) (h : q j = false) : (qs q n)[(qs q j).length]? ≠ some j := by
 obtain ⟨r, h1, h2⟩ := qs_split q (j + 1) n hj;rw [h1, qs_next, if_neg (by rw [h]; simp), List.append_nil, List.getElem?_append_right (Nat.le_refl _), Nat.sub_self];intro e;have := h2 j (List.mem_of_getElem? e);omega
/-- The ends of a pattern that begins at a place. -/
def qW (T : List UInt8) (t : Tr) (k j : Nat) : Bool := decide (k ≤ j) && (wholeP T t k j).isSome
theorem ends_qs (T : List UInt8) (t : Tr) (k : Nat) : ∀ n, endsK T t k n = qs (qW T t k) n
 | 0 => by simp [endsK, qs]
 | n + 1 => by
  by_cases h : k ≤ n
  · rw [ends_next T t k n h, qs_next, ends_qs T t k n];unfold qW;rw [decide_eq_true h, Bool.true_and]
  · rw [qs_next, ← ends_qs T t k n];unfold qW;rw [decide_eq_false h, Bool.false_and, if_neg (by simp), List.append_nil];unfold endsK;rw [show n + 1 - k = 0 by omega, show n - k = 0 by omega]
/-- The longest one is to the last one of the ends. -/
theorem long_last {T : List UInt8} {t : Tr} {k : Nat} (hk : k ≤ T.length) :
  match longP T t k with
  | none => qs (qW T t k) (T.length + 1) = []
  | some c => CapsOk T.length c ∧ ∃ j, k ≤ j ∧ j ≤ T.length ∧ gr c 0 = some (k, j) ∧ 0 < (qs (qW T t k) (T.length + 1)).length ∧ (qs (qW T t k) (T.length + 1))[(qs (qW T t k) (T.length + 1)).length - 1]? = some j := by
 cases h : longP T t k with
 | none =>
  have h1 := dn_none h;show (List.range _).filter _ = [];rw [List.filter_eq_nil_iff];intro j hj;unfold qW;by_cases e : k ≤ j
  · have := h1 (j - k) (by have := List.mem_range.1 hj; omega);rw [show k + (j - k) = j by omega] at this;(try dsimp only at this);rw [this]; simp
  · rw [decide_eq_false e]; simp
 | some c =>
  obtain ⟨q, h1, h2, h3⟩ := dn_some h;(try dsimp only at h2);have hc := whole_ok (T := T) (t := t) (by omega : k ≤ k + q) (by omega) h2;refine ⟨hc, k + q, by omega, by omega, ?_, ?_⟩
  ·
   unfold wholeP at h2;cases hf : fitP T t k (k + q) nones with
   | none => rw [hf] at h2; cases h2
   | some a =>
    rw [hf] at h2;cases h2;have ha := (fit_ok t k (k + q) nones a (by omega) (by omega) (caps_none _) hf).len;rw [gr_set ha (by decide), if_pos rfl]
  ·
   (have hq : qW T t k (k + q) = true := by unfold qW; rw [decide_eq_true (by omega), h2]; rfl);have hr : qs (qW T t k) (T.length + 1) = qs (qW T t k) (k + q) ++ [k + q] := by
    have key : ∀ n, k + q < n → n ≤ T.length + 1 → qs (qW T t k) n = qs (qW T t k) (k + q) ++ [k + q] := by
     intro n hn
     induction hn with
     | refl => intro _; rw [qs_next, if_pos hq]
     | @step m hm ih =>
      intro hmn;have hm' : k + q < m := hm;have hn0 : qW T t k m = false := by
       have := h3 (m - k) (by omega) (by omega);rw [show k + (m - k) = m by omega] at this;(try dsimp only at this);unfold qW; rw [this]; simp
      rw [qs_next, if_neg (by rw [hn0]; simp), List.append_nil];exact ih (by omega)
    exact key _ (by omega) (Nat.le_refl _)
   rw [hr];simp
theorem ints_form {w : World} {B : Nat} {v : Value} {l : List Nat} (h : w.ownsRow B 3 1 v l.length (ints l)) : ∃ ae cap, v = .slice ae l.length cap ∧ l.length ≤ cap ∧ ∀ i (hi : i < l.length), ∃ g, ae = some ⟨g, 0, none⟩ ∧ w.cell? ⟨g, i, none⟩ = some (E (l[i] : Nat)) := by
 rcases own_forms h with ⟨rfl, h0⟩ | ⟨g, cap, rfl, hc⟩
 · exact ⟨none, 0, by rw [h0], by omega, fun i hi => by omega⟩
 · refine ⟨_, cap, rfl, hc, fun i hi => ⟨g, rfl, ?_⟩⟩;rw [h.cellAt i (by omega)];simp [ints, hi]
theorem Below.cellB {w w' : World} {g i : Nat} {v : Value} (hb : Below w.heap.size w w') (h : w.cell? ⟨g, i, none⟩ = some v) : w'.cell? ⟨g, i, none⟩ = some v := by
 have hl := lt_cell h;rw [← h];simp only [World.cell?];rw [hb.block g hl]
theorem qs_none (n : Nat) : qs (fun _ => false) n = [] := by simp [qs]
theorem u8_nat {a : Int} (h : (Lit.int .u8 a).wf = true) : ∃ x : Nat, a = (x : Int) ∧ x < 256 := by
 have hb : 0 ≤ a ∧ a < 256 := by
  simp [Lit.wf, IntKind.min, IntKind.max, IntKind.signed, IntKind.bits] at h;omega
 exact ⟨a.toNat, by omega, by omega⟩
end Go.Proofs.YthpiapemjadgdaaGreatDoor.Mt
