/- The texts MtWno MtWhit MtWmiss MtI MtX MtY SnR SnB SnS. -/
import Derived.Test.YtgaiknjmbingjaaGreatDoorEk23
import Derived.Test.YtgaiknjmbingjaaGreatDoorEk25
import Derived.Test.YtgaiknjmbingjaaGreatDoorEk26
set_option linter.unusedVariables false
set_option linter.unusedSimpArgs false
set_option maxHeartbeats 3200000
set_option maxRecDepth 100000
namespace Go.Proofs.YtgaiknjmbingjaaGreatDoor.Mt
open Go.RowKit Go.Shelf
open Rx
open Rx.Tr
open St (Wf word mem SV SV_eq)
theorem fits_no (X : Par) (hX : X.Ok) (hrf : X.refs = false) (x : Tr) (ia : Nat) (HF : FromOk X x ia) (HL : LookOk X x ia) (hs : ∀ (i j : Nat) (c a : Caps), i <= j -> j <= X.N -> fitP X.T x i j c = some a -> endsP X.T x i j = true) : FitOk X x ia := by
 intro pr i j c w hij hj hc hM;obtain ⟨c0, c1, c2, c3, c4⟩ := hM.facts;rw [hrf] at c2;have hbm := lt_heap' hM.hb;(have hbm2 : X.bm < w.heap.size + 1 := by omega);(have hj0 : (0 : Int) <= (j : Int) := by omega);(have hj1 : (j : Int) < (X.N : Int) + 1 := by omega);have HT := Hd (tf_start hM c);have HC := Hd hc;(have hi : i <= X.N := by omega);have HFr := Hd HF;have HLk := Hd HL;have HS := Hd hs;clear HF HL hs hM hc;go_enter Tryz.func54, Tryz.ntmps54;cases hgj : endsP X.T x i j
 ·
  go_wp2_with (first
   | (go_at_call 79; have hq := HFr.out _ i _ hi HT.out.mm; refine hq.mono ?_; clear hq; rintro e w2 ⟨g, rfl, hr, hng, hm, hk⟩; have hcl := hr.cell (i := j) (by omega); rw [hgj] at hcl; have HT2 := Hd (HT.out.call hm hk); clear hr hng hm hk HT)
   | (refine ldM 9 HT2.out.bx ?_)
   | (refine stM 10 28 c HT2.out.rs ?_; obtain ⟨r1, r2, r3⟩ := HT2.out.ret c; have HR := Hd (An r1 (An r2 r3)); clear r1 r2 r3 HT2; generalize World.setRow _ _ _ = W9 at HR ⊢))
  refine bodyPost_ret (res_caps rfl rfl HR.out.1 rfl) rfl ?_;refine ⟨c, false, rfl, ⟨HC.out, ?_⟩, HR.out.2.1, HR.out.2.2⟩;cases hf : fitP X.T x i j c with
  | none => rfl
  | some a => have := HS.out i j c a hij hj hf; rw [hgj] at this; exact absurd this (by simp)
 ·
  go_wp2_with (first
   | (go_at_call 79; have hq := HFr.out _ i _ hi HT.out.mm; refine hq.mono ?_; clear hq; rintro e w2 ⟨g, rfl, hr, hng, hm, hk⟩; have hcl := hr.cell (i := j) (by omega); rw [hgj] at hcl; have HT2 := Hd (HT.out.call hm hk); clear hr hng hm hk HT)
   | (refine ldM 9 HT2.out.bx ?_)
   | (go_at_call 80; have hq := HLk.out _ i j c _ hij hj HC.out HT2.out.mm; refine hq.mono ?_; clear hq; rintro e w3 ⟨c', b, rfl, hl, hm, hk⟩; have HT3 := Hd (HT2.out.call hm hk); have HLE := Hd hl; clear hl hm hk HT2 hcl)
   | (refine stM 10 35 c' HT3.out.rs ?_; obtain ⟨r1, r2, r3⟩ := HT3.out.ret c'; have HR := Hd (An r1 (An r2 r3)); clear r1 r2 r3 HT3; generalize World.setRow _ _ _ = W9 at HR ⊢))
  refine bodyPost_ret (res_caps rfl rfl HR.out.1 rfl) rfl ?_;exact ⟨c', b, rfl, HLE.out, HR.out.2.1, HR.out.2.2⟩
theorem fits_hit (X : Par) (hX : X.Ok) (hrf : X.refs = true) (x : Tr) (o ia : Nat) (ha : At X.l x o) (hia : ia = o + x.size - 1) (pr : Nat -> Prop) (i j : Nat) (c : Caps) (w : World) (hij : i <= j) (hj : j <= X.N) (hc : CapsOk X.N c) (hM : MM X pr w) (a0 : Caps) (b0 : Bool) (hl : LeftOk X.N (fitP X.T x i j c) a0 b0) (hlook : ∀ w' : World, w'.heap[X.b2]? = w.heap[X.b2]? -> (Instr.lookup 97 (.map (some X.b2)) (TK ia i j c) true).run Tryz.prog w' = .ok (.tuple #[(LV a0 b0), .bool true]) w') : Calls Tryz.prog 54 #[PT X.bm, E (ia : Nat), E (i : Nat), E (j : Nat), CV c] w (FitAns X pr w (fitP X.T x i j c)) := by
 obtain ⟨c0, c1, c2, c3, c4⟩ := hM.facts;rw [hrf] at c2;have hbm := lt_heap' hM.hb;(have hbm2 : X.bm < w.heap.size + 1 := by omega);have HT := Hd (th_start2 (ia := ia) (i := i) (j := j) (c := c) hM);have HC := Hd hc;have HLK := Hd hlook;have HX := Hd hX;have HAT := Hd ha;have HIA := Hd hia;have HLE := Hd hl;clear hl;clear hM hc hlook hX ha hia;go_enter Tryz.func54, Tryz.ntmps54;rw [show Code.region 6 = Fz 6 from rfl];go_wp2_with (refine wpList_store_row rfl 132 (.tmp 12) (.tmp 41) rfl (w.heap.size + 1 + 1) (KC ia i j c) rfl rfl _ KZ (key_there _ _ _) (by kernel_rfl) rfl (kc_one _ _ _ _) ?_; simp only [Act.put, List.setIfInBounds_toArray, List.set_cons_zero, List.set_cons_succ]; clear c0 c1 c2 c3 c4 hbm hbm2; generalize World.setRow _ _ _ = W0 at HT ⊢);rw [show Fz 6 = Code.region 6 from rfl];(refine Tk.g (fun w' => HQ X w ia i j c w') (by exact HT.out.drew.hq) fun hH => ?_);have HTD := Hd HT.out.drew;clear HT;generalize World.drew _ = W1 at HTD hH ⊢;refine Tk.t 0 ?_;refine Tk.t 1 ?_;refine Tk.t 2 ?_;refine Tk.t 3 ?_;refine Tk.t 4 (hy := fun wv hSw => exec_load_row 132 (.tmp 12) rfl (w.heap.size + 1 + 1) rfl _ (KC ia i j c) _ _ hSw.2.1 Tryz.underlying132 rfl (by kernel_rfl)) ?_;refine Tk.t 5 (hy := by (intro wv hSw; (try dsimp only at hSw); obtain ⟨q0, q1, q2⟩ := hSw; have q4 := HLK.out _ q2; go_simp) <;> with_reducible rfl) ?_;refine Tk.t 6 ?_;refine Tk.t 7 ?_;refine Tk.t 8 ?_;refine Tk.o 9 (fun K hK => ?_);have hsz := HTD.out.sz;go_simp;refine hK.out _ _ ?_ (fun hH => Tk.w ?_)
 · (exact HTD.out.lay_hq LZ)
 clear hK K;refine Tk.o 10 (fun K hK => ?_);refine step_store_row rfl 134 (.tmp 13) (.tmp 49) rfl (w.heap.size + 1 + 1 + 1) (LC a0 b0) rfl rfl _ LZ (left_there HTD.out) (by kernel_rfl) rfl (lc_one a0 b0) ?_;rw [left_laid HTD.out (LC a0 b0)];refine hK.out _ _ ?_ (fun hH => Tk.w ?_)
 · (exact HTD.out.lay_hq (LC a0 b0))
 clear hK K;refine Tk.t 11 ?_;refine Tk.d ?_;have HG := Hd (HTD.out.lay (LC a0 b0));have HB2 := Hd (HTD.out.lay_hq (LC a0 b0)).2.2;clear hH HTD HLK hsz;generalize World.alloc _ _ = W2 at HG HB2 ⊢;go_wp2;have HGD := Hd (HG.out.below (Below.refl _ _).drew);(refine Tk.g (fun w' => w'.heap[w.heap.size + 1 + 1 + 1]? = some (.cells (LC a0 b0) 134 (0, 0))) (by exact HGD.out.xx) fun hH => ?_);clear HG;generalize World.drew _ = W5 at HGD hH ⊢;refine Tk.t 0 ?_;refine Tk.t 1 (hy := fun wv hSw => exec_load_mid 27 (.tmp 70) rfl (w.heap.size + 1 + 1 + 1) 0 rfl (CC a0).toList _ (range_part (pre := []) (post := [.bool b0]) hSw rfl) Tryz.underlying27 rfl (by kernel_rfl)) ?_;refine Tk.t 2 ?_;refine Tk.k (fun _ h => cells11 h) 3 ?_;refine Tk.o 4 (fun K hK => ?_);refine ssM 10 71 a0 HGD.out.rs ?_;obtain ⟨r1, r2, r3, r4⟩ := HGD.out.ret a0;have HR := Hd (An r1 (An r2 r3));clear r1 r2 r3 HGD;generalize World.setRow _ _ _ = W9 at HR r4 ⊢;refine hK.out _ _ ?_ (fun hH => Tk.w ?_)
 · (exact r4)
 clear hK K;refine Tk.t 5 ?_;refine Tk.d ?_;clear hH r4;go_wp2;refine bodyPost_ret (res_caps rfl rfl HR.out.1 rfl) rfl ?_;exact ⟨a0, b0, rfl, HLE.out, HR.out.2.1, HR.out.2.2⟩
theorem fits_miss (X : Par) (hX : X.Ok) (hrf : X.refs = true) (x : Tr) (o ia : Nat) (ha : At X.l x o) (hia : ia = o + x.size - 1) (pr : Nat -> Prop) (i j : Nat) (c : Caps) (w : World) (hij : i <= j) (hj : j <= X.N) (hc : CapsOk X.N c) (hM : MM X pr w) (HL : LookOk X x ia) (hlook : ∀ w' : World, w'.heap[X.b2]? = w.heap[X.b2]? -> (Instr.lookup 97 (.map (some X.b2)) (TK ia i j c) true).run Tryz.prog w' = .ok (.tuple #[(.agg LZ), .bool false]) w') : Calls Tryz.prog 54 #[PT X.bm, E (ia : Nat), E (i : Nat), E (j : Nat), CV c] w (FitAns X pr w (fitP X.T x i j c)) := by
 obtain ⟨c0, c1, c2, c3, c4⟩ := hM.facts;rw [hrf] at c2;have hbm := lt_heap' hM.hb;(have hbm2 : X.bm < w.heap.size + 1 := by omega);have HT := Hd (th_start2 (ia := ia) (i := i) (j := j) (c := c) hM);have HC := Hd hc;have HLK := Hd hlook;have HX := Hd hX;have HAT := Hd ha;have HIA := Hd hia;have HLk := Hd HL;clear HL;clear hM hc hlook hX ha hia;go_enter Tryz.func54, Tryz.ntmps54;rw [show Code.region 6 = Fz 6 from rfl];go_wp2_with (refine wpList_store_row rfl 132 (.tmp 12) (.tmp 41) rfl (w.heap.size + 1 + 1) (KC ia i j c) rfl rfl _ KZ (key_there _ _ _) (by kernel_rfl) rfl (kc_one _ _ _ _) ?_; simp only [Act.put, List.setIfInBounds_toArray, List.set_cons_zero, List.set_cons_succ]; clear c0 c1 c2 c3 c4 hbm hbm2; generalize World.setRow _ _ _ = W0 at HT ⊢);rw [show Fz 6 = Code.region 6 from rfl];(refine Tk.g (fun w' => HQ X w ia i j c w') (by exact HT.out.drew.hq) fun hH => ?_);have HTD := Hd HT.out.drew;clear HT;generalize World.drew _ = W1 at HTD hH ⊢;refine Tk.t 0 ?_;refine Tk.t 1 ?_;refine Tk.t 2 ?_;refine Tk.t 3 ?_;refine Tk.t 4 (hy := fun wv hSw => exec_load_row 132 (.tmp 12) rfl (w.heap.size + 1 + 1) rfl _ (KC ia i j c) _ _ hSw.2.1 Tryz.underlying132 rfl (by kernel_rfl)) ?_;refine Tk.t 5 (hy := by (intro wv hSw; (try dsimp only at hSw); obtain ⟨q0, q1, q2⟩ := hSw; have q4 := HLK.out _ q2; go_simp) <;> with_reducible rfl) ?_;refine Tk.t 6 ?_;refine Tk.t 7 ?_;refine Tk.t 8 ?_;refine Tk.o 9 (fun K hK => ?_);have hsz := HTD.out.sz;go_simp;refine hK.out _ _ ?_ (fun hH => Tk.w ?_)
 · (exact HTD.out.lay_hq LZ)
 clear hK K;refine Tk.o 10 (fun K hK => ?_);refine step_store_row rfl 134 (.tmp 13) (.tmp 49) rfl (w.heap.size + 1 + 1 + 1) LZ rfl rfl _ LZ (left_there HTD.out) (by kernel_rfl) rfl (by simp [Value.oneCell']) ?_;rw [left_laid HTD.out LZ];refine hK.out _ _ ?_ (fun hH => Tk.w ?_)
 · (exact HTD.out.lay_hq LZ)
 clear hK K;refine Tk.t 11 ?_;refine Tk.d ?_;have HG := Hd (HTD.out.lay LZ);have HB2 := Hd (HTD.out.lay_hq LZ).2.2;clear hH HTD HLK hsz;generalize World.alloc _ _ = W2 at HG HB2 ⊢;go_wp2_with (first
  | (refine ldM 9 HG.out.bx ?_)
  | (go_at_call 80; have hq := HLk.out _ i j c _ hij hj HC.out HG.out.mm; refine hq.mono ?_; clear hq; rintro e w3 ⟨a1, b1, rfl, hl, hm, hk⟩; have HG3 := Hd (HG.out.call hm hk); have HLE := Hd hl; clear hl hm hk HG HB2)
  | (refine wpList_store_mid rfl 27 (.tmp 62) (.tmp 60) rfl (w.heap.size + 1 + 1 + 1) 0 (CC a1) rfl rfl HG3.out.there (by kernel_rfl) (cc_one a1) ?_; simp only [Act.put, List.setIfInBounds_toArray, List.set_cons_zero, List.set_cons_succ]; have HG4 := Hd (HG3.out.caps a1); clear HG3; generalize World.setCells _ _ _ _ = W4 at HG4 ⊢; have hfz := HG4.out.fz 10; have hcl := (cells11 HG4.out.xx).2.2.2.2.2.2.2.2.2.2; have HG5 := Hd (HG4.out.bool b1)))
 have HG6 := Hd (HG5.out.below (Below.refl _ _).drew);clear HG4 HG5 hfz hcl;(refine Tk.g (fun w' => w'.cell? ⟨X.bm, 4, none⟩ = some (.map (some X.b2)) /\ w'.heap[w.heap.size + 1 + 1]? = some (.cells (KC ia i j c) 132 (0, 0)) /\ w'.heap[w.heap.size + 1 + 1 + 1]? = some (.cells (LC a1 b1) 134 (0, 0))) (by exact ⟨HG6.out.mm.facts.2.2.2.2, HG6.out.kk, HG6.out.xx⟩) fun hH => ?_);generalize World.drew _ = W6 at HG6 hH ⊢;refine Tk.t 0 ?_;refine Tk.t 1 ?_;refine Tk.t 2 ?_;refine Tk.t 3 ?_;refine Tk.t 4 (hy := fun wv hSw => exec_load_row 132 (.tmp 12) rfl (w.heap.size + 1 + 1) rfl _ (KC ia i j c) _ _ hSw.2.1 Tryz.underlying132 rfl (by kernel_rfl)) ?_;refine Tk.t 5 (hy := fun wv hSw => exec_load_row 134 (.tmp 13) rfl (w.heap.size + 1 + 1 + 1) rfl _ (LC a1 b1) _ _ hSw.2.2 Tryz.underlying134 rfl (by kernel_rfl)) ?_;refine Tk.o 6 (fun K hK => ?_);obtain ⟨w9, hrun, hmm, hkm⟩ := HG6.out.mm.put2 HX.out HAT.out HC.out HLE.out;rw [<- HIA.out] at hrun;have HG7 := Hd (HG6.out.call hmm hkm);clear hmm hkm;go_simp;refine hK.out _ _ ?_ (fun hH => Tk.w ?_)
 · (exact ⟨HG7.out.mm.facts.2.2.2.2, HG7.out.kk, HG7.out.xx⟩)
 clear hK K;refine Tk.d ?_;clear hH hrun HG6;go_wp2;have HGD := Hd (HG7.out.below (Below.refl _ _).drew);(refine Tk.g (fun w' => w'.heap[w.heap.size + 1 + 1 + 1]? = some (.cells (LC a1 b1) 134 (0, 0))) (by exact HGD.out.xx) fun hH => ?_);clear HG7;generalize World.drew _ = W5 at HGD hH ⊢;refine Tk.t 0 ?_;refine Tk.t 1 (hy := fun wv hSw => exec_load_mid 27 (.tmp 70) rfl (w.heap.size + 1 + 1 + 1) 0 rfl (CC a1).toList _ (range_part (pre := []) (post := [.bool b1]) hSw rfl) Tryz.underlying27 rfl (by kernel_rfl)) ?_;refine Tk.t 2 ?_;refine Tk.k (fun _ h => cells11 h) 3 ?_;refine Tk.o 4 (fun K hK => ?_);refine ssM 10 71 a1 HGD.out.rs ?_;obtain ⟨r1, r2, r3, r4⟩ := HGD.out.ret a1;have HR := Hd (An r1 (An r2 r3));clear r1 r2 r3 HGD;generalize World.setRow _ _ _ = W9 at HR r4 ⊢;refine hK.out _ _ ?_ (fun hH => Tk.w ?_)
 · (exact r4)
 clear hK K;refine Tk.t 5 ?_;refine Tk.d ?_;clear hH r4;go_wp2;refine bodyPost_ret (res_caps rfl rfl HR.out.1 rfl) rfl ?_;exact ⟨a1, b1, rfl, HLE.out, HR.out.2.1, HR.out.2.2⟩
theorem fits_all (X : Par) (hX : X.Ok) (x : Tr) (o : Nat) (ha : At X.l x o) (hn : NumsOk x) (hs : SetsOk x) (hr : X.refs = false -> refsT x = 0) (HL : LookOk X x (o + x.size - 1)) : FitOk X x (o + x.size - 1) := by
 cases hrf : X.refs with
 | false => exact fits_no X hX hrf x _ (from_all X hX x o ha (hr hrf) hs) HL fun i j c a h1 h2 h => ends_sound x (hr hrf) hn i j c a h1 h2 h
 | true =>
  intro pr i j c w hij hj hc hM;obtain ⟨v, b, hlook, hb⟩ := hM.look2 hX ha (size_pos x) i j hc;rcases hb with ⟨rfl, z, rfl, rfl⟩ | ⟨rfl, c', b', rfl, hl⟩
  · exact fits_miss X hX hrf x o _ ha rfl pr i j c w hij hj hc hM HL hlook
  · exact fits_hit X hX hrf x o _ ha rfl pr i j c w hij hj hc hM c' b' hl hlook
theorem reaches_all (X : Par) (hX : X.Ok) (x : Tr) (o : Nat) (ha : At X.l x o) (hs : SetsOk x) (hr : X.refs = false -> refsT x = 0) (b m : Nat) (z : List Nat) (mn mx : Int) (h1 : 0 <= mn) (h2 : mn <= 255) (h3 : -1 <= mx) (h4 : mx <= 255) (j : Nat) (hj : j <= X.N) :
  ∀ (pr : Nat -> Prop) (k cc : Nat) (a : Caps) (w : World), k <= X.N -> cc <= 200000 -> MM X pr w -> Calls Tryz.prog 128 #[PT X.bm, NV ⟨6, z, ((o + x.size - 1 : Nat) : Int), (b : Nat), mn, mx, (m : Nat)⟩, SD k cc j a, E (j : Nat)] w fun e w' => e = .returned (.bool (rch X x mn mx k cc j)) /\ MM X pr w' /\ Km X w w' := by
 intro pr k cc a w hk hcc hM;cases hrf : X.refs with
 | true =>
  refine (reaches_refs X hrf pr _ k cc j a j w hM).mono ?_;rintro e w' ⟨rfl, hb⟩;refine ⟨?_, hM.below hb, Km.of_below hb⟩;unfold rch;rw [hrf];rfl
 | false =>
  refine (reaches_no X hX hrf x _ (from_all X hX x o ha (hr hrf) hs) pr ⟨6, z, ((o + x.size - 1 : Nat) : Int), (b : Nat), mn, mx, (m : Nat)⟩ rfl h1 h2 h3 h4 k cc j hk hcc a j hj w hM).mono ?_;rintro e w' ⟨rfl, hm, hk⟩;refine ⟨?_, hm, hk⟩;unfold rch;rw [hrf];rfl
theorem look_all (X : Par) (hX : X.Ok) (em : Prop) : ∀ (x : Tr) (o : Nat), At X.l x o -> x.Fine em -> SetsOk x -> (X.refs = false -> refsT x = 0) -> LookOk X x (o + x.size - 1) := by
 intro x
 induction x with
 | e =>
  intro o ha hf hs hr pr i j c w hij hj hc hM;obtain ⟨nb, no, cap, hv, hlt, hN⟩ := hM.node hX ha;exact look_0 X hX _ pr i j c w hij hj hc hM nb no cap hv hlt z4 0 0 0 0 0 hN _ rfl
 | set s =>
  intro o ha hf hs hr pr i j c w hij hj hc hM;obtain ⟨nb, no, cap, hv, hlt, hN⟩ := hM.node hX ha;exact look_1 X hX _ pr i j c w hij hj hc hM nb no cap hv hlt s 0 0 0 0 0 hN hs _ rfl
 | beg =>
  intro o ha hf hs hr pr i j c w hij hj hc hM;obtain ⟨nb, no, cap, hv, hlt, hN⟩ := hM.node hX ha;exact look_2 X hX _ pr i j c w hij hj hc hM nb no cap hv hlt z4 0 0 0 0 0 hN _ rfl
 | fin =>
  intro o ha hf hs hr pr i j c w hij hj hc hM;obtain ⟨nb, no, cap, hv, hlt, hN⟩ := hM.node hX ha;exact look_3 X hX _ pr i j c w hij hj hc hM nb no cap hv hlt z4 0 0 0 0 0 hN _ rfl
 | cat x y ihx ihy =>
  intro o ha hf hs hr pr i j c w hij hj hc hM;obtain ⟨nb, no, cap, hv, hlt, hN⟩ := hM.node hX ha;have hx := at_left ha (r := _ ++ _) (by rw [<- List.append_assoc]; rfl);have hy := at_right ha (by rw [<- List.append_assoc]; rfl);(have hrx : X.refs = false -> refsT x = 0 := fun q => by have := hr q; simp only [refsT] at this; omega);(have hry : X.refs = false -> refsT y = 0 := fun q => by have := hr q; simp only [refsT] at this; omega);have h3 := fits_all X hX x o hx (nums_fine em x hf.1) hs.1 hrx (ihx o hx hf.1 hs.1 hrx);have h4 := fits_all X hX y (o + x.size) hy (nums_fine em y hf.2.1) hs.2 hry (ihy _ hy hf.2.1 hs.2 hry);exact look_4 X hX _ pr i j c w hij hj hc hM nb no cap hv hlt z4 _ _ 0 0 0 hN x y h3 h4 _ rfl
 | alt x y ihx ihy =>
  intro o ha hf hs hr pr i j c w hij hj hc hM;obtain ⟨nb, no, cap, hv, hlt, hN⟩ := hM.node hX ha;have hx := at_left ha (r := _ ++ _) (by rw [<- List.append_assoc]; rfl);have hy := at_right ha (by rw [<- List.append_assoc]; rfl);(have hrx : X.refs = false -> refsT x = 0 := fun q => by have := hr q; simp only [refsT] at this; omega);(have hry : X.refs = false -> refsT y = 0 := fun q => by have := hr q; simp only [refsT] at this; omega);have h3 := fits_all X hX x o hx (nums_fine em x hf.1) hs.1 hrx (ihx o hx hf.1 hs.1 hrx);have h4 := fits_all X hX y (o + x.size) hy (nums_fine em y hf.2.1) hs.2 hry (ihy _ hy hf.2.1 hs.2 hry);refine look_5 X hX _ pr i j c w hij hj hc hM nb no cap hv hlt z4 _ _ 0 0 0 hN x y h3 h4 _ ?_;show fitP X.T (.alt x y) i j c = _;rw [fitP];cases fitP X.T x i j c <;> rfl
 | times mn mx x ihx =>
  intro o ha hf hs hr pr i j c w hij hj hc hM;obtain ⟨nb, no, cap, hv, hlt, hN⟩ := hM.node hX ha;have hx := at_left ha rfl;(have hrx : X.refs = false -> refsT x = 0 := fun q => by have := hr q; simp only [refsT] at this; omega);have h3 := fits_all X hX x o hx (nums_fine em x hf.1) hs hrx (ihx o hx hf.1 hs hrx);obtain ⟨_, f1, f2, f3, _⟩ := hf;refine look_6 X hX _ pr i j c w hij hj hc hM nb no cap hv hlt z4 _ 0 mn mx 0 hN _ (fun pr w hM => ?_) _ rfl;obtain ⟨nb, no, cap, hv, hlt, hN⟩ := hM.node hX ha;by_cases hmx : mx = -1
  · subst hmx;exact again_inf X hX _ _ x mn f1 f2 hrx (nums_fine em x ‹_›) pr i j c w hij hj hc hM nb no cap hv hlt z4 0 0 hN h3 (reaches_all X hX x o hx hs hrx 0 0 z4 mn (-1) f1 f2 (by omega) (by omega) j hj) _ rfl
  · exact again_max X hX _ _ x mn mx f1 f2 hmx (by omega) hrx (nums_fine em x ‹_›) pr i j c w hij hj hc hM nb no cap hv hlt z4 0 0 hN h3 (reaches_all X hX x o hx hs hrx 0 0 z4 mn mx f1 f2 (by omega) (by omega) j hj) _ rfl
 | grp n x ihx =>
  intro o ha hf hs hr pr i j c w hij hj hc hM;obtain ⟨nb, no, cap, hv, hlt, hN⟩ := hM.node hX ha;have hx := at_left ha rfl;(have hrx : X.refs = false -> refsT x = 0 := fun q => by have := hr q; simp only [refsT] at this; omega);have h3 := fits_all X hX x o hx (nums_fine em x hf.1) hs hrx (ihx o hx hf.1 hs hrx);obtain ⟨_, f1, f2⟩ := hf;obtain ⟨m, rfl⟩ : ∃ m : Nat, n = (m : Int) := ⟨n.toNat, by omega⟩;exact look_7 X hX _ pr i j c w hij hj hc hM nb no cap hv hlt z4 _ 0 0 0 m hN (by omega) (by omega) x h3 _ rfl
 | ref n =>
  intro o ha hf hs hr pr i j c w hij hj hc hM;obtain ⟨nb, no, cap, hv, hlt, hN⟩ := hM.node hX ha;obtain ⟨f1, f2⟩ := hf;obtain ⟨m, rfl⟩ : ∃ m : Nat, n = (m : Int) := ⟨n.toNat, by omega⟩;exact look_8 X hX _ pr i j c w hij hj hc hM nb no cap hv hlt z4 0 0 0 0 m hN (by omega) (by omega) _ rfl
theorem fits_whole (X : Par) (hX : X.Ok) : FitOk X X.t (X.l.length - 1) := by
 have hw := hX.good.1;have ha : At X.l X.t 0 := at_self X.t;have hr : X.refs = false -> refsT X.t = 0 := fun q => by
  unfold Par.refs at q;have := of_decide_eq_false q;omega
 have := fits_all X hX X.t 0 ha (nums_fine _ X.t hw) hX.sets hr (look_all X hX _ X.t 0 ha hw hX.sets hr);rw [show X.l.length = X.t.size from nodes_len _ _]
 rwa [Nat.zero_add] at this
theorem mat_new {e : Ending} {t : Tr} {w1 w' : World} {T : List UInt8} {v : Value} (h : ∃ X : Par, X.Ok /\ X.w0 = w1 /\ X.T = T /\ X.t = t /\ X.v = v /\ e = .returned (PT X.bm) /\ MM X (fun _ => False) w') :
  ∃ bm b1 b2, e = .returned (PT bm) /\ (⟨w1, T, t, v, bm, b1, b2⟩ : Par).Ok /\ MM ⟨w1, T, t, v, bm, b1, b2⟩ (fun _ => False) w' := by
 obtain ⟨⟨w0, T0, t0, v0, bm, b1, b2⟩, hX, e1, e2, e3, e4, e5, hM⟩ := h;dsimp only at e1 e2 e3 e4 e5;subst e1 e2 e3 e4;exact ⟨bm, b1, b2, e5, hX, hM⟩
theorem whole_mat {X : Par} (hX : X.Ok) {w : World} (hM : MM X (fun _ => False) w) {i j : Nat} (hij : i <= j) (hj : j <= X.N) {R : Option Caps} (hR : R = wholeP X.T X.t i j) :
  Calls Tryz.prog 32 #[PT X.bm, E (i : Nat), E (j : Nat)] w fun e w' => e = .returned (.tuple #[CV (R.getD nones), .bool R.isSome]) /\ MM X (fun _ => False) w' /\ Km X w w' := by
 obtain ⟨nb, no, cap, hv, _⟩ := hM.node hX (at_self X.t);have hl : X.l.length = X.t.size := nodes_len _ _;have hp := size_pos X.t;have hg := hX.good.2.1;refine (whole_any X hX _ i j hij hj w hM nb no cap hv (by omega) (by omega) (fits_whole X hX) R hR).mono ?_;rintro e w' ⟨rfl, hm, hk⟩;exact ⟨rfl, hm, hk⟩
theorem Longest_no (l : List Nd) (ao : Option Addr) (c : Nat) (w : World) (h : Ns w (.slice ao l.length c) l) (hw : ∀ n ∈ l, Wf n.s) (T : List UInt8) (i : Int) (hbad : mayL l = false \/ i < 0 \/ (T.length : Int) < i) :
  Calls Tryz.prog 18 #[.slice ao l.length c, S T, E i] w fun e w' => e = .returned (ansC none) /\ Below w.heap.size w w' := by
 have HZ := Hd (heap_alloc_new w (.cells CZ 27));have HB0 := Hd ((Below.refl w.heap.size w).alloc (Nat.le_refl _) (.cells CZ 27));have HMAY := Hd (fun (W : World) (hb : Below w.heap.size w W) => may_any ao c l W (h.below hb) hw);have HNA := Hd (fun W => none_any W);clear h hw;generalize l.length = n at *;cases hm : mayL l
 ·
  clear hbad;rw [hm] at HMAY;clear hm;go_enter Tryz.func18, Tryz.ntmps18;go_wp2_with (first
   | (go_at_call 27; refine (HMAY.out _ HB0.out).mono ?_; rintro e w1 ⟨rfl, hb⟩; have HBL := Hd (HB0.out.trans (hb.mono HB0.out.size)); have HRL := Hd ((hb.block _ (by simp)).trans HZ.out); clear hb)
   | (go_at_call 19; refine (HNA.out _).mono ?_; rintro e w8 ⟨rfl, hb⟩; have HB8 := Hd (HBL.out.trans (hb.mono HBL.out.size)); have HR8 := Hd ((hb.block _ (lt_heap' HRL.out)).trans HRL.out); clear hb)
   | (refine stM 6 25 nones HR8.out ?_; have HR := Hd (An (setRow_heap _ _ _ (CC nones) _ _ HR8.out) (below_setRow (B := w.heap.size) HB8.out (g := w.heap.size) (Nat.le_refl _) (CC nones))); generalize World.setRow _ _ _ = W9 at HR ⊢))
  refine bodyPost_ret (res_caps rfl rfl HR.out.1 rfl) rfl ?_;exact ⟨rfl, HR.out.2⟩
 ·
  rw [hm] at hbad;(replace hbad : i < 0 \/ (T.length : Int) < i := by simpa using hbad);by_cases h0 : i < 0
  ·
   clear hbad;rw [hm] at HMAY;clear hm;go_enter Tryz.func18, Tryz.ntmps18;go_wp2_with (first
    | (go_at_call 27; refine (HMAY.out _ HB0.out).mono ?_; rintro e w1 ⟨rfl, hb⟩; have HBL := Hd (HB0.out.trans (hb.mono HB0.out.size)); have HRL := Hd ((hb.block _ (by simp)).trans HZ.out); clear hb)
    | (go_at_call 19; refine (HNA.out _).mono ?_; rintro e w8 ⟨rfl, hb⟩; have HB8 := Hd (HBL.out.trans (hb.mono HBL.out.size)); have HR8 := Hd ((hb.block _ (lt_heap' HRL.out)).trans HRL.out); clear hb)
    | (refine stM 6 25 nones HR8.out ?_; have HR := Hd (An (setRow_heap _ _ _ (CC nones) _ _ HR8.out) (below_setRow (B := w.heap.size) HB8.out (g := w.heap.size) (Nat.le_refl _) (CC nones))); generalize World.setRow _ _ _ = W9 at HR ⊢))
   refine bodyPost_ret (res_caps rfl rfl HR.out.1 rfl) rfl ?_;exact ⟨rfl, HR.out.2⟩
  (have h1 : (T.length : Int) < i := by omega);clear hbad;rw [hm] at HMAY;clear hm;go_enter Tryz.func18, Tryz.ntmps18;go_wp2_with (first
   | (go_at_call 27; refine (HMAY.out _ HB0.out).mono ?_; rintro e w1 ⟨rfl, hb⟩; have HBL := Hd (HB0.out.trans (hb.mono HB0.out.size)); have HRL := Hd ((hb.block _ (by simp)).trans HZ.out); clear hb)
   | (go_at_call 19; refine (HNA.out _).mono ?_; rintro e w8 ⟨rfl, hb⟩; have HB8 := Hd (HBL.out.trans (hb.mono HBL.out.size)); have HR8 := Hd ((hb.block _ (lt_heap' HRL.out)).trans HRL.out); clear hb)
   | (refine stM 6 25 nones HR8.out ?_; have HR := Hd (An (setRow_heap _ _ _ (CC nones) _ _ HR8.out) (below_setRow (B := w.heap.size) HB8.out (g := w.heap.size) (Nat.le_refl _) (CC nones))); generalize World.setRow _ _ _ = W9 at HR ⊢))
  refine bodyPost_ret (res_caps rfl rfl HR.out.1 rfl) rfl ?_;exact ⟨rfl, HR.out.2⟩
theorem Longest_yes (t : Tr) (hg : Rx.Good t) (hs : SetsOk t) (ao : Option Addr) (c : Nat) (w : World) (h : Ns w (.slice ao (t.nodes 0).length c) (t.nodes 0)) (T : List UInt8) (hT : T.length <= 100000) (i : Nat) (hi : i <= T.length) (R : Option Caps) (hR : R = longP T t i) :
  Calls Tryz.prog 18 #[.slice ao (t.nodes 0).length c, S T, E (i : Nat)] w fun e w' => e = .returned (ansC R) /\ Below w.heap.size w w' := by
 have hw := nodes_sets t 0 hs;have HZ := Hd (heap_alloc_new w (.cells CZ 27));have HB0 := Hd ((Below.refl w.heap.size w).alloc (Nat.le_refl _) (.cells CZ 27));have hmay := (fun (W : World) (hb : Below w.heap.size w W) => may_any ao c (t.nodes 0) W (h.below hb) hw);rw [show mayL (t.nodes 0) = true from by unfold mayL; rw [patOf_good hg]; rfl] at hmay;have HMAY := Hd hmay;have HNEW := Hd (fun (W : World) (hb : Below w.heap.size w W) => new_any t hg hs hw (.slice ao (t.nodes 0).length c) T hT W (h.below hb));have HNA := Hd (fun W => none_any W);have HRR := Hd hR;have HI := Hd (An hi hT);(have h0 : ¬ (i : Int) < 0 := by omega);(have h2 : ¬ (T.length : Int) < (i : Int) := by omega);clear hmay hw hR hi h hg hs hT;generalize (t.nodes 0).length = n at *;go_enter Tryz.func18, Tryz.ntmps18;go_wp2_with (first
  | (go_at_call 27; refine (HMAY.out _ HB0.out).mono ?_; rintro e w1 ⟨rfl, hb⟩; have HB1 := Hd (HB0.out.trans (hb.mono HB0.out.size)); have HRS := Hd ((hb.block _ (by simp)).trans HZ.out); clear hb)
  | (go_at_call 31; refine (HNEW.out _ HB1.out).mono ?_; intro e w2 hnew; obtain ⟨bm, b1, b2, rfl, hX, hM⟩ := mat_new hnew; have HX := Hd hX; have HM := Hd hM; clear hX hM hnew))
 obtain ⟨G, hG⟩ : ∃ G, G = (fun j => wholeP T t i j) := ⟨_, rfl⟩;have HG := Hd hG;have HR0 := Hd (show R = dn G i (T.length + 1 - i) from by rw [HRR.out, hG]; rfl);clear hG HRR;go_loopg [9] (T.length + 1 - i) (fun m jv wr => m <= T.length + 1 - i /\ ∃ k : Int, k = (i : Int) + (m : Int) - 1 /\ jv = .int .i64 k /\ Hid (R = dn G i m) /\ Hid (MM ⟨w1, T, t, .slice ao n c, bm, b1, b2⟩ (fun _ => False) wr));(case atStart => exact ⟨Nat.le_refl _, (T.length : Int), by have := HI.out; omega, rfl, HR0, HM⟩);case round =>
  clear HM HR0;obtain ⟨hn, k, hk, rfl, HD, HM⟩ := hrel;have HBL := Hd (HB1.out.trans (HM.out.bel.mono HB1.out.size));have HRL := Hd ((HM.out.bel.block _ (lt_heap' HRS.out)).trans HRS.out);cases gk with
  | zero =>
   (have hlt : ¬ ((i : Int) <= k) := by omega);clear hk;go_wp2_with (first
    | (go_at_call 19; refine (HNA.out _).mono ?_; rintro e w8 ⟨rfl, hb⟩; have HB8 := Hd (HBL.out.trans (hb.mono HBL.out.size)); have HR8 := Hd ((hb.block _ (lt_heap' HRL.out)).trans HRL.out); clear hb)
    | (refine stM 6 45 nones HR8.out ?_; have HR := Hd (An (setRow_heap _ _ _ (CC nones) _ _ HR8.out) (below_setRow (B := w.heap.size) HB8.out (g := w.heap.size) (Nat.le_refl _) (CC nones))); generalize World.setRow _ _ _ = W9 at HR ⊢))
   refine bodyPost_ret (res_caps rfl rfl HR.out.1 rfl) rfl ?_;refine ⟨?_, HR.out.2⟩;rw [HD.out]; rfl
  | succ m =>
   obtain ⟨q, hq⟩ : ∃ q, q = i + m := ⟨_, rfl⟩;(obtain rfl : k = (q : Int) := by omega);(have hle : (i : Int) <= (q : Int) := by omega);(have hlt : ¬ ((q : Int) < (i : Int)) := by omega);(have hwq : IntKind.i64.wrap ((q : Int) - 1) = (q : Int) - 1 := by rw [IntKind.wrap_i64]; have := HI.out; omega);have HQ := Hd (show i <= q /\ q <= T.length /\ q = i + m /\ m <= T.length + 1 - i from ⟨by omega, by omega, hq, by omega⟩);have HDN := Hd (show R = (match G q with | some a => some a | none => dn G i m) from by rw [HD.out, hq, dn_succ]; cases G (i + m) <;> rfl);obtain ⟨R1, hR1⟩ : ∃ R1, R1 = wholeP T t i q := ⟨_, rfl⟩;have HR1 := Hd hR1;have HGQ := Hd (show G q = R1 from by rw [HG.out, hR1]);clear hk hq hn HD hR1;cases hc : R1 with
   | none =>
    rw [hc] at HR1 HGQ;go_wp2_with (first
     | (go_at_call 32; have hq := whole_mat HX.out HM.out HQ.out.1 HQ.out.2.1 HR1.out; refine hq.mono ?_; clear hq; rintro e w3 ⟨rfl, hm, hk⟩; have HM3 := Hd hm; clear hm)
     | (refine stM 10 41 nones (heap_alloc_new _ _) ?_; rw [box_laid]; have HM4 := Hd (HM3.out.below ((Below.refl _ _).alloc (Nat.le_refl _) (.cells (CC nones) 27))); clear HM3; generalize World.alloc _ _ = W4 at HM4 ⊢))
    go_roundg m;(case measure => omega);case rel => exact ⟨by have := HQ.out; omega, _, by have := HQ.out; omega, rfl, Hd (by rw [HDN.out, HGQ.out]), HM4⟩
   | some a1 =>
    rw [hc] at HR1 HGQ;go_wp2_with (first
     | (go_at_call 32; have hq := whole_mat HX.out HM.out HQ.out.1 HQ.out.2.1 HR1.out; refine hq.mono ?_; clear hq; rintro e w3 ⟨rfl, hm, hk⟩; have HM3 := Hd hm; clear hm)
     | (refine stM 10 41 a1 (heap_alloc_new _ _) ?_; rw [box_laid]; have HM4 := Hd (HM3.out.below ((Below.refl _ _).alloc (Nat.le_refl _) (.cells (CC a1) 27))); have HX4 := Hd (heap_alloc_new w3 (.cells (CC a1) 27)); have HB8 := Hd (HB1.out.trans (HM4.out.bel.mono HB1.out.size)); have HR8 := Hd ((HM4.out.bel.block _ (lt_heap' HRS.out)).trans HRS.out); clear HM3; generalize World.alloc _ _ = W4 at HM4 HX4 HB8 HR8 ⊢)
     | (refine ldM 10 HX4.out ?_)
     | (refine stM 6 44 a1 HR8.out ?_; have HR := Hd (An (setRow_heap _ _ _ (CC a1) _ _ HR8.out) (below_setRow (B := w.heap.size) HB8.out (g := w.heap.size) (Nat.le_refl _) (CC a1))); generalize World.setRow _ _ _ = W9 at HR ⊢))
    refine bodyPost_ret (res_caps rfl rfl HR.out.1 rfl) rfl ?_;refine ⟨?_, HR.out.2⟩;rw [HDN.out, HGQ.out]; rfl
theorem MM.grown {X : Par} {pr : Nat -> Prop} {w w' : World} (h : MM X pr w) {v : Value} {n : Nat} {xs : List Value} (ho : w.ownsRow X.w0.heap.size 3 1 v n xs) (hg : w.grownBy w' v.ownBlock) : MM X pr w' := by
 have hb : Below X.w0.heap.size X.w0 w' := h.bel.grown hg h.bel.size (fun k hk => (ho.lt k hk).1);rcases ho.2 with ⟨rfl, _⟩ | ⟨g, cap, cur, rfl, h2, h3, h4, h5, h6, h7⟩
 · exact h.below ((Below.refl _ _).grown hg (Nat.le_refl _) (fun k hk => by cases hk))
 · exact h.other (by decide) (by decide) h3 hg.size (fun k hk hne => hg.block k hk (by simp only [Value.ownBlock, ne_eq, Option.some.injEq]; exact hne)) hb
end Go.Proofs.YtgaiknjmbingjaaGreatDoor.Mt
namespace Go.Proofs.YtgaiknjmbingjaaGreatDoor.Rx
open Go.RowKit Go.Shelf
open St (Wf word zeroW Tab SV SV_eq wf_two wf_orL wf_ofL wf_zero orL ofL)
open Ad (cutB atoiV)
def okP : List UInt8 -> Bool
 | c :: d :: r => (pairV c d).2 && okP r
 | _ => true
theorem ok_pair {c d : UInt8} {t : List UInt8} (h : okP (c :: d :: t) = true) : (pairV c d).2 = true /\ okP t = true := by
 unfold okP at h
 rwa [Bool.and_eq_true] at h
def nodeA (B : Bool) : Nat -> Rd -> Bool
 | 0, _ => false
 | left + 1, r => !r.bad && decide (r.l.length <= 120) && match r.rest with
  | [] => false
  | c :: t =>
   if c = 91 then !(untilP 93 ⟨t, r.l, r.g, false⟩).1.bad && okP (untilP 93 ⟨t, r.l, r.g, false⟩).2
   else if c = 42 then nodeA B left (numP 59 (numP 44 ⟨t, r.l, r.g, false⟩).1).1
   else if c = 38 then B && (nodeA B left ⟨t, r.l, r.g, false⟩ && nodeA B left (nodeP left ⟨t, r.l, r.g, false⟩).1)
   else if c = 40 then B && (nodeA B left ⟨t, r.l, r.g + 1, false⟩ && (!(nodeP left ⟨t, r.l, r.g + 1, false⟩).1.bad && Lib.hasPrefix (nodeP left ⟨t, r.l, r.g + 1, false⟩).1.rest [41]))
   else false
theorem nodeA_out {B : Bool} {left : Nat} {s : List UInt8} {l : List Nd} {g : Int} {bad : Bool} (h : nodeA B (left + 1) ⟨s, l, g, bad⟩ = true) : bad = false /\ l.length <= 120 /\ ∃ c t, s = c :: t /\ (c = 91 \/ c = 42 \/ (B = true /\ (c = 38 \/ c = 40))) := by
 unfold nodeA at h;rw [Bool.and_eq_true, Bool.and_eq_true] at h;obtain ⟨⟨h1, h2⟩, h3⟩ := h;refine ⟨by simpa using h1, of_decide_eq_true h2, ?_⟩;cases s with
 | nil => cases h3
 | cons c t =>
  refine ⟨c, t, rfl, ?_⟩;dsimp only at h3;by_cases e1 : c = 91
  · exact Or.inl e1
  rw [if_neg e1] at h3;by_cases e2 : c = 42
  · exact Or.inr (Or.inl e2)
  rw [if_neg e2] at h3;by_cases e3 : c = 38
  · rw [if_pos e3, Bool.and_eq_true] at h3;exact Or.inr (Or.inr ⟨h3.1, Or.inl e3⟩)
  rw [if_neg e3] at h3;by_cases e4 : c = 40
  · rw [if_pos e4, Bool.and_eq_true] at h3;exact Or.inr (Or.inr ⟨h3.1, Or.inr e4⟩)
  rw [if_neg e4] at h3;cases h3
theorem nodeA_s {B : Bool} {left : Nat} {t : List UInt8} {l : List Nd} {g : Int} (h : nodeA B (left + 1) ⟨91 :: t, l, g, false⟩ = true) : (untilP 93 ⟨t, l, g, false⟩).1.bad = false /\ okP (untilP 93 ⟨t, l, g, false⟩).2 = true := by
 unfold nodeA at h;rw [Bool.and_eq_true] at h;have h3 := h.2;dsimp only at h3;rw [if_pos rfl, Bool.and_eq_true] at h3;exact ⟨by simpa using h3.1, h3.2⟩
theorem nodeA_m {B : Bool} {left : Nat} {t : List UInt8} {l : List Nd} {g : Int} (h : nodeA B (left + 1) ⟨42 :: t, l, g, false⟩ = true) : nodeA B left (numP 59 (numP 44 ⟨t, l, g, false⟩).1).1 = true := by
 unfold nodeA at h;rw [Bool.and_eq_true] at h;exact h.2
def Below2 (B : Bool) (w0 : World) (b left : Nat) : Prop := ∀ (r : Rd) (v : Value) (w : World), RW w0 b r v w -> Rin r -> nodeA B left r = true -> Calls Tryz.prog 26 #[PT b, E (left : Nat)] w (NodeAns w0 b left r v w)
theorem below_any1 {B : Bool} {w0 w1 w : World} {b left : Nat} {v1 v : Value} {n : Nd} {r : Rd} {lf : Int} (IH : Below2 B w0 b left) (hlf : lf = ((left + 1 : Nat) : Int)) (hle : left <= 1000) (h : ST w0 b w1 v1 lf n r v w) (hr : Rin r) (hA : nodeA B left r = true) :
  Calls Tryz.prog 41 #[PT w1.heap.size, PT (w1.heap.size + 1)] w fun e w' => ∃ v', e = .returned (E ((nodeP left r).2 : Nat)) /\ ST w0 b w1 v1 lf n (nodeP left r).1 v' w' := by
 have HI := Hd (IH r v w h.rw hr hA);(have hsub : IntKind.i64.wrap (lf - 1) = ((left : Nat) : Int) := by rw [IntKind.wrap_i64]; omega);have HS := Hd h;obtain ⟨⟨d0, d1⟩, _, _⟩ := HS.out.facts;clear h hlf IH;go_enter Tryz.func41, Tryz.ntmps41;go_wp2_with (go_at_call 26; refine HI.out.mono ?_; rintro e w2 ⟨v2, rfl, hr2, hk2⟩; have HS2 := Hd (HS.out.step hr2 hk2); clear hr2 hk2);go_ret;exact ⟨_, rfl, HS2.out⟩
open St (Wf word zeroW Tab SV SV_eq SB put4 ls2 wf_two or_any of_any orL ofL wf_ofL orL_spec wf_orL Ls wf_zero wc_eq put4_below)
theorem rbytes_any1 (w0 : World) (b : Nat) (r : Rd) (v : Value) (w : World) (h : RW w0 b r v w) (hL : Lay w0) (hl : r.rest.length <= 100000) (hB : (untilP 93 r).1.bad = false) (hP : okP (untilP 93 r).2 = true) :
  Calls Tryz.prog 42 #[PT b] w fun e w' => e = .returned (SV (setP r).2) /\ Rel w0 b w v (setP r).1 w' := by
 have HLL := Hd hL;have hsz0 := h.bel.size;have HSZ0 := Hd hsz0;have HA := (Below.refl w.heap.size w).alloc (Nat.le_refl _) (.cells #[.int .u64 0, .int .u64 0, .int .u64 0, .int .u64 0] 44);have HRa := h.below HA;have HKa := (Kr.refl b w v).below HA;have HU := Hd (until_any w0 b r v 93 _ HRa hl);have HSB := Hd (show SB (w.alloc (.cells #[.int .u64 0, .int .u64 0, .int .u64 0, .int .u64 0] 44)) w.heap.size zeroW from heap_alloc_new _ _);have HKa := Hd HKa;(have hkb : w.heap.size ≠ b := by have := h.lt; omega);have hkv : v.ownBlock ≠ some w.heap.size := by
  intro q;rcases own_forms h.own with ⟨rfl, _⟩ | ⟨g, cap, rfl, _⟩
  · cases q
  · have h1 := (h.own.lt g rfl).2;simp only [Value.ownBlock, Option.some.injEq] at q;omega
 have HKB := Hd hkb;have HKV := Hd hkv;have hlen := until_rest 93 r;obtain ⟨y, l, g, bad0, x0, hu⟩ : ∃ y l g bad x, untilP 93 r = (⟨y, l, g, bad⟩, x) := ⟨_, _, _, _, _, rfl⟩;have hlg : l = r.l /\ g = r.g := by
  have := congrArg Prod.fst hu;unfold untilP at this;simp only [Rd.mk.injEq] at this;exact ⟨this.2.1.symm, this.2.2.1.symm⟩
 rw [hu] at HU hlen hB hP;dsimp only at hlen hB hP;subst hB;have HO := Hd (show setP r = (⟨y, l, g, (pairsP x0 zeroW false).2⟩, (pairsP x0 zeroW false).1) from by unfold setP; rw [hu]; rw [hlg.1, hlg.2]);(have hx0 : x0.length <= 100000 := by omega);have hn93 : (93 : UInt8) = 93 := rfl;clear hu h hL hlg HA HRa hkb hkv hsz0 hlen hn93;go_enter Tryz.func42, Tryz.ntmps42;go_wp2_with (go_at_call 63; refine HU.out.mono ?_; rintro e w1 ⟨rfl, hr, hkr⟩; have HS1 := Hd (RS.mk hr (HKa.out.trans hkr) ((hkr.far w.heap.size (by simp) HKB.out HKV.out).1.trans HSB.out) HKB.out HKV.out (Nat.le_refl _)); clear hr hkr);go_loopw [3] (fun d wr => ∃ (ds : List UInt8) (s : List Nat), okP ds = true /\ d = S ds /\ ds.length <= 100000 /\ Hid (pairsP x0 zeroW false = pairsP ds s false) /\ Hid (RS w0 b ⟨y, l, g, false⟩ v w.heap.size s w wr) /\ Hid (Wf s)) (fun d _ => (match d with | .string s => s.size | _ => 0));(case atStart => exact ⟨x0, zeroW, hP, rfl, hx0, Hd rfl, HS1, Hd wf_zero⟩);case round =>
  clear HS1;clear hP;obtain ⟨ds, s, hPk, rfl, hdl, HP, HS, HW⟩ := hrel;(have hsz : (ByteArray.mk ds.toArray).size = ds.length := by simp [ByteArray.size]);have hws := HW.out;obtain ⟨⟨c0, c1, c2, c3⟩, f0, f1, f2, f3⟩ := HS.out.facts hws;by_cases h2 : 1 < ds.length
  ·
   obtain ⟨c, d, t, rfl⟩ : ∃ c d t, ds = c :: d :: t := by
    match ds, h2 with
    | c :: d :: t, _ => exact ⟨c, d, t, rfl⟩
    | [_], h2 => simp at h2
    | [], h2 => simp at h2
   (have h2' : (1 : Int) < (((c :: d :: t).length : Nat) : Int) := by omega);(have h2'' : (2 : Int) <= (((c :: d :: t).length : Nat) : Int) := by omega);have e1 := ex_take (l := c :: d :: t) 2;have e2 := ex_drop (l := c :: d :: t) 2;simp only [List.take_succ_cons, List.take_zero] at e1;simp only [List.drop_succ_cons, List.drop_zero] at e2;have hle : (c :: d :: t).length = t.length + 2 := rfl;have HN0 := Hd (show pairsP (c :: d :: t) s false = pairsP t (orL [s, ofL [UInt8.ofNat (pairV c d).1]]) (false || !(pairV c d).2) from rfl);obtain ⟨hok, hPt⟩ := ok_pair hPk;clear hPk;generalize c :: d :: t = ds at e1 e2 h2' h2'' hsz hle HP HN0 hdl h2 ⊢;have CPU := Hd (fun (W : World) (hW : Errs W) => pub_pair c d W hW);obtain ⟨q, hq⟩ : ∃ q : UInt8, (pairV c d).1 = q.toNat := ⟨UInt8.ofNat (pairV c d).1, by have := pairV_lt c d; simp; omega⟩;(have hqn : UInt8.ofNat (pairV c d).1 = q := by rw [hq]; simp);rw [hqn] at HN0;rw [hq] at CPU;clear hqn hq;(have hqw : IntKind.u8.wrap (q.toNat : Int) = (q.toNat : Int) := by have := UInt8.toNat_lt q; rw [IntKind.wrap_u8]; omega);have CO := Hd (fun (W : World) => by
    have h1 := of_any [q] W (by simp);rw [SV_eq (wf_ofL [q])] at h1;exact h1)
   have hos := wf_orL (wf_two hws (wf_ofL [q]));have HOS := Hd hos;have COR := Hd (fun (W : World) (bk : Nat) (h1 : bk < W.heap.size) (h2 : Ls W bk [s, ofL [q]]) => by
    have h3 := or_any [s, ofL [q]] bk W (wf_two hws (wf_ofL [q])) (by simp) h1 h2;rw [SV_eq hos] at h3;exact h3)
   (have hcv := fun W => conv1 q W);clear hos;rw [hok] at CPU HN0;unfold ErrIs at CPU;simp only [Bool.false_eq_true, if_false, if_true] at CPU;clear hok;go_wp2_with (go_at_call 64; refine (CPU.out _ (HS.out.rw.lay HLL.out).err).mono ?_; rintro e w3 ⟨ev, hev, rfl, hb⟩; (first | subst hev | (obtain ⟨te, pe, rfl⟩ := hev)); have HS3 := Hd (HS.out.below hb); clear hb; obtain ⟨⟨d0, d1, d2, d3⟩, g0, g1, g2, g3⟩ := HS3.out.rw.cells; dsimp only at d0 d1 d2 d3);have HX5 := Hd ((HS3.out.setBad false).rx.below (Below.refl _ _).drew);have HZ := Hd (sb_below (HS3.out.setBad false).sb (Below.refl _ _).drew);clear HS3 d0 d1 d2 d3 g0 g1 g2 g3 HS c0 c1 c2 c3 f0 f1 f2 f3;(refine Tk.g (fun w' => RX w0 b ⟨y, l, g, false⟩ v w.heap.size w w') (by exact HX5.out) fun hH => ?_);clear HX5;(try dsimp only at HZ hH);generalize (w3.setCell ⟨b, 3, none⟩ (.bool false)).drew = w5 at hH HZ ⊢;refine Tk.t 1 ?_;refine Tk.t 2 ?_;refine Tk.y 0 3 (fun K hK => ?st0_48) (fun K hK => ?st3_48);case st0_48 =>
    have hPrev := hH;obtain ⟨⟨y0, y1, y2, y3⟩, z0, z1, z2, z3⟩ := sb_facts HZ.out hws;go_simp;(refine hK.out _ _ (by exact hPrev) fun hH => Tk.w ?_);clear hK K hPrev;clear y0 y1 y2 y3 z0 z1 z2 z3;refine Tk.o 3 (fun K hK => ?st3_49);case st3_49 =>
     have hPrev := hH;go_simp;(refine hK.out _ _ (by exact hPrev.below (Go.Joins.below_alloc1 _ _)) fun hH => Tk.w ?_);have HZ := Hd (sb_below HZ.out (Go.Joins.below_alloc1 _ (Obj.cells #[Value.int IntKind.u8 (q.toNat : Int)] 5)));clear hK K hPrev;refine Tk.o 4 (fun K hK => ?st4_50);case st4_50 =>
      have hPrev := hH;go_simp;(refine hK.out _ _ (by exact hPrev) fun hH => Tk.w ?_);clear hK K hPrev;refine Tk.o 5 (fun K hK => ?st5_51);case st5_51 =>
       have hPrev := hH;go_simp
       (go_at_call 66; refine (CO.out _).mono ?_; rintro e v51 ⟨rfl, hbl⟩)
       (refine hK.out _ _ (by exact hPrev.below hbl) fun hH => Tk.w ?_);have HZ := Hd (sb_below HZ.out hbl);clear hK K hPrev;refine Tk.o 6 (fun K hK => ?st6_52);case st6_52 =>
        have hPrev := hH;go_simp;(refine hK.out _ _ (by exact hPrev.below (Go.Joins.below_alloc1 _ _)) fun hH => Tk.w ?_);have HZ := Hd (sb_below HZ.out (Go.Joins.below_alloc1 _ (Obj.cells #[U (word s 0), U (word s 1), U (word s 2), U (word s 3), U (word (ofL [q]) 0), U (word (ofL [q]) 1), U (word (ofL [q]) 2), U (word (ofL [q]) 3)] 44)));clear hK K hPrev;refine Tk.o 7 (fun K hK => ?st7_53);case st7_53 =>
         have hPrev := hH;go_simp
         (go_at_call 65; refine (COR.out _ _ (by simp) (ls2 (heap_alloc_new _ _))).mono ?_; rintro e v53 ⟨rfl, hbl⟩)
         (refine hK.out _ _ (by exact hPrev.below hbl) fun hH => Tk.w ?_);have HZ := Hd (sb_below HZ.out hbl);clear hK K hPrev;have HS8 := Hd (hH.rs HZ.out);have hPrev := hH;obtain ⟨⟨y0, y1, y2, y3⟩, z0, z1, z2, z3⟩ := sb_facts HZ.out hws;refine Tk.o 8 (fun K hK => ?_);go_simp;(refine hK.out _ _ (by exact (HS8.out.put HSZ0.out hws HOS.out).rx) fun hH => Tk.w ?_);clear hK K;have HS9 := Hd (HS8.out.put HSZ0.out hws HOS.out);clear HS8 hH hPrev HZ y0 y1 y2 y3 z0 z1 z2 z3;refine Tk.d ?_;go_wp2;go_roundw;(case rel => exact ⟨t, _, hPt, (by rw [<- hle]; exact congrArg Value.string e2), by omega, Hd (HP.out.trans HN0.out), HS9, HOS⟩);case measure => simp; omega
   case st3_48 =>
    have hPrev := hH;go_simp;(refine hK.out _ _ (by exact hPrev.below (Go.Joins.below_alloc1 _ _)) fun hH => Tk.w ?_);have HZ := Hd (sb_below HZ.out (Go.Joins.below_alloc1 _ (Obj.cells #[Value.int IntKind.u8 (q.toNat : Int)] 5)));clear hK K hPrev;refine Tk.y 0 4 (fun K hK => ?st0_55) (fun K hK => ?st4_55);case st0_55 =>
     have hPrev := hH;obtain ⟨⟨y0, y1, y2, y3⟩, z0, z1, z2, z3⟩ := sb_facts HZ.out hws;go_simp;(refine hK.out _ _ (by exact hPrev) fun hH => Tk.w ?_);clear hK K hPrev;clear y0 y1 y2 y3 z0 z1 z2 z3;refine Tk.o 4 (fun K hK => ?st4_56);case st4_56 =>
      have hPrev := hH;go_simp;(refine hK.out _ _ (by exact hPrev) fun hH => Tk.w ?_);clear hK K hPrev;refine Tk.o 5 (fun K hK => ?st5_57);case st5_57 =>
       have hPrev := hH;go_simp
       (go_at_call 66; refine (CO.out _).mono ?_; rintro e v57 ⟨rfl, hbl⟩)
       (refine hK.out _ _ (by exact hPrev.below hbl) fun hH => Tk.w ?_);have HZ := Hd (sb_below HZ.out hbl);clear hK K hPrev;refine Tk.o 6 (fun K hK => ?st6_58);case st6_58 =>
        have hPrev := hH;go_simp;(refine hK.out _ _ (by exact hPrev.below (Go.Joins.below_alloc1 _ _)) fun hH => Tk.w ?_);have HZ := Hd (sb_below HZ.out (Go.Joins.below_alloc1 _ (Obj.cells #[U (word s 0), U (word s 1), U (word s 2), U (word s 3), U (word (ofL [q]) 0), U (word (ofL [q]) 1), U (word (ofL [q]) 2), U (word (ofL [q]) 3)] 44)));clear hK K hPrev;refine Tk.o 7 (fun K hK => ?st7_59);case st7_59 =>
         have hPrev := hH;go_simp
         (go_at_call 65; refine (COR.out _ _ (by simp) (ls2 (heap_alloc_new _ _))).mono ?_; rintro e v59 ⟨rfl, hbl⟩)
         (refine hK.out _ _ (by exact hPrev.below hbl) fun hH => Tk.w ?_);have HZ := Hd (sb_below HZ.out hbl);clear hK K hPrev;have HS8 := Hd (hH.rs HZ.out);have hPrev := hH;obtain ⟨⟨y0, y1, y2, y3⟩, z0, z1, z2, z3⟩ := sb_facts HZ.out hws;refine Tk.o 8 (fun K hK => ?_);go_simp;(refine hK.out _ _ (by exact (HS8.out.put HSZ0.out hws HOS.out).rx) fun hH => Tk.w ?_);clear hK K;have HS9 := Hd (HS8.out.put HSZ0.out hws HOS.out);clear HS8 hH hPrev HZ y0 y1 y2 y3 z0 z1 z2 z3;refine Tk.d ?_;go_wp2;go_roundw;(case rel => exact ⟨t, _, hPt, (by rw [<- hle]; exact congrArg Value.string e2), by omega, Hd (HP.out.trans HN0.out), HS9, HOS⟩);case measure => simp; omega
    case st4_55 =>
     have hPrev := hH;go_simp;(refine hK.out _ _ (by exact hPrev) fun hH => Tk.w ?_);clear hK K hPrev;refine Tk.y 0 5 (fun K hK => ?st0_61) (fun K hK => ?st5_61);case st0_61 =>
      have hPrev := hH;obtain ⟨⟨y0, y1, y2, y3⟩, z0, z1, z2, z3⟩ := sb_facts HZ.out hws;go_simp;(refine hK.out _ _ (by exact hPrev) fun hH => Tk.w ?_);clear hK K hPrev;clear y0 y1 y2 y3 z0 z1 z2 z3;refine Tk.o 5 (fun K hK => ?st5_62);case st5_62 =>
       have hPrev := hH;go_simp
       (go_at_call 66; refine (CO.out _).mono ?_; rintro e v62 ⟨rfl, hbl⟩)
       (refine hK.out _ _ (by exact hPrev.below hbl) fun hH => Tk.w ?_);have HZ := Hd (sb_below HZ.out hbl);clear hK K hPrev;refine Tk.o 6 (fun K hK => ?st6_63);case st6_63 =>
        have hPrev := hH;go_simp;(refine hK.out _ _ (by exact hPrev.below (Go.Joins.below_alloc1 _ _)) fun hH => Tk.w ?_);have HZ := Hd (sb_below HZ.out (Go.Joins.below_alloc1 _ (Obj.cells #[U (word s 0), U (word s 1), U (word s 2), U (word s 3), U (word (ofL [q]) 0), U (word (ofL [q]) 1), U (word (ofL [q]) 2), U (word (ofL [q]) 3)] 44)));clear hK K hPrev;refine Tk.o 7 (fun K hK => ?st7_64);case st7_64 =>
         have hPrev := hH;go_simp
         (go_at_call 65; refine (COR.out _ _ (by simp) (ls2 (heap_alloc_new _ _))).mono ?_; rintro e v64 ⟨rfl, hbl⟩)
         (refine hK.out _ _ (by exact hPrev.below hbl) fun hH => Tk.w ?_);have HZ := Hd (sb_below HZ.out hbl);clear hK K hPrev;have HS8 := Hd (hH.rs HZ.out);have hPrev := hH;obtain ⟨⟨y0, y1, y2, y3⟩, z0, z1, z2, z3⟩ := sb_facts HZ.out hws;refine Tk.o 8 (fun K hK => ?_);go_simp;(refine hK.out _ _ (by exact (HS8.out.put HSZ0.out hws HOS.out).rx) fun hH => Tk.w ?_);clear hK K;have HS9 := Hd (HS8.out.put HSZ0.out hws HOS.out);clear HS8 hH hPrev HZ y0 y1 y2 y3 z0 z1 z2 z3;refine Tk.d ?_;go_wp2;go_roundw;(case rel => exact ⟨t, _, hPt, (by rw [<- hle]; exact congrArg Value.string e2), by omega, Hd (HP.out.trans HN0.out), HS9, HOS⟩);case measure => simp; omega
     case st5_61 =>
      have hPrev := hH;go_simp
      (go_at_call 66; refine (CO.out _).mono ?_; rintro e v61 ⟨rfl, hbl⟩)
      (refine hK.out _ _ (by exact hPrev.below hbl) fun hH => Tk.w ?_);have HZ := Hd (sb_below HZ.out hbl);clear hK K hPrev;refine Tk.o 0 (fun K hK => ?st0_66);case st0_66 =>
       have hPrev := hH;obtain ⟨⟨y0, y1, y2, y3⟩, z0, z1, z2, z3⟩ := sb_facts HZ.out hws;go_simp;(refine hK.out _ _ (by exact hPrev) fun hH => Tk.w ?_);clear hK K hPrev;clear y0 y1 y2 y3 z0 z1 z2 z3;refine Tk.o 6 (fun K hK => ?st6_67);case st6_67 =>
        have hPrev := hH;go_simp;(refine hK.out _ _ (by exact hPrev.below (Go.Joins.below_alloc1 _ _)) fun hH => Tk.w ?_);have HZ := Hd (sb_below HZ.out (Go.Joins.below_alloc1 _ (Obj.cells #[U (word s 0), U (word s 1), U (word s 2), U (word s 3), U (word (ofL [q]) 0), U (word (ofL [q]) 1), U (word (ofL [q]) 2), U (word (ofL [q]) 3)] 44)));clear hK K hPrev;refine Tk.o 7 (fun K hK => ?st7_68);case st7_68 =>
         have hPrev := hH;go_simp
         (go_at_call 65; refine (COR.out _ _ (by simp) (ls2 (heap_alloc_new _ _))).mono ?_; rintro e v68 ⟨rfl, hbl⟩)
         (refine hK.out _ _ (by exact hPrev.below hbl) fun hH => Tk.w ?_);have HZ := Hd (sb_below HZ.out hbl);clear hK K hPrev;have HS8 := Hd (hH.rs HZ.out);have hPrev := hH;obtain ⟨⟨y0, y1, y2, y3⟩, z0, z1, z2, z3⟩ := sb_facts HZ.out hws;refine Tk.o 8 (fun K hK => ?_);go_simp;(refine hK.out _ _ (by exact (HS8.out.put HSZ0.out hws HOS.out).rx) fun hH => Tk.w ?_);clear hK K;have HS9 := Hd (HS8.out.put HSZ0.out hws HOS.out);clear HS8 hH hPrev HZ y0 y1 y2 y3 z0 z1 z2 z3;refine Tk.d ?_;go_wp2;go_roundw;(case rel => exact ⟨t, _, hPt, (by rw [<- hle]; exact congrArg Value.string e2), by omega, Hd (HP.out.trans HN0.out), HS9, HOS⟩);case measure => simp; omega
  ·
   (have hle2 : ¬ (1 : Int) < ((ds.length : Nat) : Int) := by omega);have HP2 := Hd (show pairsP ds s false = (s, false) from by
    match ds, h2 with
    | [], _ => rfl
    | [_], _ => rfl
    | _ :: _ :: _, h2 => simp at h2)
   clear h2;have HF := Hd (HS.out.put HSZ0.out hws hws);have HQ := Hd (HO.out.trans (by rw [HP.out, HP2.out] : _ = ((⟨y, l, g, false⟩ : Rd), s)));clear HO;go_wp2;refine bodyPost_ret (v := SV s) (ansS rfl rfl HF.out.sb hws) rfl ⟨by rw [HQ.out], ?_⟩;rw [HQ.out];exact ⟨HF.out.rw, HF.out.kr⟩
open St (Wf word zeroW Tab SV SV_eq)
theorem node_s1 (B : Bool) (w0 : World) (b left : Nat) (lf : Int) (c : UInt8) (t s : List UInt8) (l : List Nd) (g : Int) (v : Value) (w : World) (hs : s = c :: t) (h : RW w0 b ⟨s, l, g, false⟩ v w) (hL : Lay w0) (hlen : s.length + l.length <= 100000) (hl : l.length <= 120) (hg0 : 0 <= g) (hg1 : g + s.length <= 100000) (hlf : lf = ((left + 1 : Nat) : Int)) (hle : left <= 1000) (IH : Below2 B w0 b left) (hA : nodeA B (left + 1) ⟨s, l, g, false⟩ = true)
  (hc : c = 91) :
  Calls Tryz.prog 26 #[PT b, E lf] w (NodeAns w0 b (left + 1) ⟨s, l, g, false⟩ v w) := by
 obtain ⟨ao, cap, rfl⟩ : ∃ ao cap, v = .slice ao l.length cap := own_slice h.own;obtain ⟨i0, hi, hz0, hz1, hz2⟩ := info_parts infoNd;have HO := Hd (show nodeP (left + 1) ⟨s, l, g, false⟩ = pushP (setP ⟨t, l, g, false⟩).1 ⟨1, (setP ⟨t, l, g, false⟩).2, 0, 0, 0, 0, 0⟩ from by
  rw [hs]; rw [node_step hl]; subst hc; rfl)
 have HA1 := Hd (nodeA_s (by rw [hs, hc] at hA; exact hA));clear hA;(have hne : (s == []) = false := by rw [hs]; rfl);(have hlt : 0 < s.length := by rw [hs]; simp);(have hx : ((ByteArray.mk s.toArray)[0]'hlt) = c := by subst hs; rfl);(have hsz : (ByteArray.mk s.toArray).size = s.length := by simp [ByteArray.size]);(have hlt' : (0 : Int) < ((s.length : Nat) : Int) := by omega);have e2 := ex_drop (l := s) 1;(have hr : s.drop 1 = t := by rw [hs]; rfl);(have htl : t.length + 1 = s.length := by rw [hs]; rfl);rw [hr] at e2;(have h1' : (1 : Int) <= ((s.length : Nat) : Int) := by omega);(have h0 : (lf == 0) = false := by rw [beq_eq_false_iff_ne]; omega);(have hgt : ¬ (120 : Int) < ((l.length : Nat) : Int) := by omega);have HL := Hd hL;have HR0 := Hd h;have HS0 := Hd (st_start HR0.out lf t N0);dsimp only at HS0;obtain ⟨⟨c0, c1, c2, c3⟩, f0, f1, f2, f3⟩ := HR0.out.cells
 skip
 dsimp only at c0 c1 c2 c3;have hlb := HR0.out.lt;have HLF := Hd hlf;clear hs h hL hr hlf;subst hc
 skip
 go_enter Tryz.func26, Tryz.ntmps26
 skip
 go_wp2;go_region;have HB := Hd (rbytes_any1 w0 b ⟨t, l, g, false⟩ _ _ HS0.out.rw HL.out (by dsimp only; omega) HA1.out.1 HA1.out.2);clear HA1;have HLL := Hd (show (setP ⟨t, l, g, false⟩).1.l = l from rfl);have hsv := St.SV_eq (wf_set ⟨t, l, g, false⟩);generalize setP ⟨t, l, g, false⟩ = q at *;obtain ⟨r, z⟩ := q;dsimp only at HB HLL hsv HO;rw [hsv] at HB;clear hsv;go_wp2_with (go_at_call 42; refine HB.out.mono ?_; rintro e w2 ⟨rfl, hr2, hk2⟩; have HS2 := Hd (HS0.out.step hr2 hk2); clear hr2 hk2; obtain ⟨⟨x2p, x2l⟩, ⟨x20, x21, x22, x23, x24, x25, x26, x27, x28, x29⟩, x2z⟩ := HS2.out.facts; obtain ⟨⟨x2a, x2b, x2c, x2d⟩, x2e, x2f, x2g, x2h⟩ := HS2.out.rw.cells; (try dsimp only at x2a x2b x2c x2d));have HSa := Hd ((((((((((HS2.out.node (i := 0) (u := E 1) (m := ⟨1, [0, 0, 0, 0], 0, 0, 0, 0, 0⟩) rfl).node (i := 1) (u := U (word z 0)) (m := ⟨1, [word z 0, 0, 0, 0], 0, 0, 0, 0, 0⟩) rfl).node (i := 2) (u := U (word z 1)) (m := ⟨1, [word z 0, word z 1, 0, 0], 0, 0, 0, 0, 0⟩) rfl).node (i := 3) (u := U (word z 2)) (m := ⟨1, [word z 0, word z 1, word z 2, 0], 0, 0, 0, 0, 0⟩) rfl).node (i := 4) (u := U (word z 3)) (m := ⟨1, z, 0, 0, 0, 0, 0⟩) rfl).node (i := 5) (u := E 0) (m := ⟨1, z, 0, 0, 0, 0, 0⟩) rfl).node (i := 6) (u := E 0) (m := ⟨1, z, 0, 0, 0, 0, 0⟩) rfl).node (i := 7) (u := E 0) (m := ⟨1, z, 0, 0, 0, 0, 0⟩) rfl).node (i := 8) (u := E 0) (m := ⟨1, z, 0, 0, 0, 0, 0⟩) rfl).node (i := 9) (u := E 0) (m := ⟨1, z, 0, 0, 0, 0, 0⟩) rfl);clear x2p x2l x20 x21 x22 x23 x24 x25 x26 x27 x28 x29 x2z x2a x2b x2c x2d x2e x2f x2g x2h;have HLEN := Hd (show r.l.length <= 200000 by rw [HLL.out]; omega);refine at_world (p := fun W => ST w0 b w _ lf ⟨1, z, 0, 0, 0, 0, 0⟩ _ _ W) HSa.out (fun W hW => ?_);have HSD := Hd (hW.below (Below.refl _ _).drew);clear hW;(refine Tk.g (fun w' => SQ w b ⟨1, z, 0, 0, 0, 0, 0⟩ w') (by exact sq_of HSD.out) fun hH => ?_);revert HSD hH;generalize World.drew _ = W8;intro HSD hH;refine Tk.k (fun _ h => (sq_cells h)) 0 ?_;refine Tk.k (fun _ h => (sq_cells h)) 1 ?_;refine Tk.k (fun _ h => (sq_cells h)) 2 ?_;refine Tk.k (fun _ h => (sq_cells h)) 3 ?_;refine Tk.k (fun _ h => (sq_cells h)) 5 ?_;refine Tk.y 4 6 (fun K hK => ?st4t5) (fun K hK => ?st6t5);case st4t5 =>
  have hPrev := hH;have hcl := HSD.out.rw.cells.1.2.1;(try dsimp only at hcl);go_simp;(refine hK.out _ _ (by exact hPrev) fun hH => Tk.w ?_);clear hK K hcl;refine Tk.o 6 (fun K hK => ?_);go_simp;have HSA := Hd (HSD.out.below ((Below.refl _ _).alloc (Nat.le_refl _) (.cells (NC ⟨1, z, 0, 0, 0, 0, 0⟩) 46)));(refine hK.out _ _ (by exact sq_of HSA.out) fun hH => Tk.w ?_);clear hK K;have HNW := Hd (@news_row W8 ⟨1, z, 0, 0, 0, 0, 0⟩);revert HSA hH HNW;generalize World.alloc _ _ = W9;intro HSA hH HNW;refine Tk.o 7 (fun K hK => ?_);(refine step_append_lies _ rfl _ _ 22 rfl w0.heap.size 46 i0 _ 10 80 Tryz.underlying22 hi hz0 hz1 hz2 rfl (by decide) _ _ _ rfl HSA.out.rw.own ⟨_, 0, none⟩ 1 1 (NC ⟨1, z, 0, 0, 0, 0, 0⟩).toList rfl rfl HNW.out (one_row _) (by decide) (by have := HLEN.out; (try dsimp only at this ⊢); unfold maxLen; omega) (by have := HLEN.out; (try dsimp only at this ⊢); omega) HSA.out.rw.bel.size _ rfl ?_; intro gg gcap w4 hown hgrow hat hlt4);have HP0 := rw_push HSA.out.rw hown hgrow hat;have HP := Hd HP0;clear HP0;have hq8 := sq_grown HSA.out hgrow;(refine hK.out _ _ (by exact hq8) fun hH => Tk.w ?_);clear hK K hq8;refine Tk.k (fun _ h => (sq_cells h)) 8 ?_;refine Tk.k (fun _ h => (sq_cells h)) 9 ?_;refine Tk.o 10 (fun K hK => ?_);have hf4 := fz_grown HSA.out hgrow 1;have hc4 := cell_grown HSA.out hgrow;go_simp;have HZ := Hd (HSA.out.step HP.out.1 HP.out.2);(refine hK.out _ _ (by exact sq_of HZ.out) fun hH => Tk.w ?_);clear hK K hf4 hc4;refine Tk.d ?_;clear hH hgrow hown hat hlt4 HP HSA HSD HNW;revert HZ;generalize World.setCell _ _ _ = W10;intro HZ;obtain ⟨⟨p0, p1⟩, _, _⟩ := HZ.out.facts;obtain ⟨⟨y0, y1, y2, y3⟩, _, _, _, _⟩ := HZ.out.rw.cells;(try dsimp only at y0 y1 y2 y3);(have hw1 : IntKind.i64.wrap ((((r.l).length + 1 : Nat) : Int) - 1) = (((r.l).length : Nat) : Int) := by have := HLEN.out; rw [IntKind.wrap_i64]; omega);have hlen9 := HLEN.out;go_wp2;go_ret;refine ⟨_, ?_, ?_, HZ.out.kr⟩
  · rw [HO.out]; rfl
  · rw [HO.out]; exact HZ.out.rw
 case st6t5 =>
  go_simp;have HSA := Hd (HSD.out.below ((Below.refl _ _).alloc (Nat.le_refl _) (.cells (NC ⟨1, z, 0, 0, 0, 0, 0⟩) 46)));(refine hK.out _ _ (by exact sq_of HSA.out) fun hH => Tk.w ?_);clear hK K;have HNW := Hd (@news_row W8 ⟨1, z, 0, 0, 0, 0, 0⟩);revert HSA hH HNW;generalize World.alloc _ _ = W9;intro HSA hH HNW;have hPrev := hH;refine Tk.o 4 (fun K hK => ?_);have hcl := HSA.out.rw.cells.1.2.1;(try dsimp only at hcl);go_simp;(refine hK.out _ _ (by exact hPrev) fun hH => Tk.w ?_);clear hK K hcl;refine Tk.o 7 (fun K hK => ?_);(refine step_append_lies _ rfl _ _ 22 rfl w0.heap.size 46 i0 _ 10 80 Tryz.underlying22 hi hz0 hz1 hz2 rfl (by decide) _ _ _ rfl HSA.out.rw.own ⟨_, 0, none⟩ 1 1 (NC ⟨1, z, 0, 0, 0, 0, 0⟩).toList rfl rfl HNW.out (one_row _) (by decide) (by have := HLEN.out; (try dsimp only at this ⊢); unfold maxLen; omega) (by have := HLEN.out; (try dsimp only at this ⊢); omega) HSA.out.rw.bel.size _ rfl ?_; intro gg gcap w4 hown hgrow hat hlt4);have HP0 := rw_push HSA.out.rw hown hgrow hat;have HP := Hd HP0;clear HP0;have hq8 := sq_grown HSA.out hgrow;(refine hK.out _ _ (by exact hq8) fun hH => Tk.w ?_);clear hK K hq8;refine Tk.k (fun _ h => (sq_cells h)) 8 ?_;refine Tk.k (fun _ h => (sq_cells h)) 9 ?_;refine Tk.o 10 (fun K hK => ?_);have hf4 := fz_grown HSA.out hgrow 1;have hc4 := cell_grown HSA.out hgrow;go_simp;have HZ := Hd (HSA.out.step HP.out.1 HP.out.2);(refine hK.out _ _ (by exact sq_of HZ.out) fun hH => Tk.w ?_);clear hK K hf4 hc4;refine Tk.d ?_;clear hH hgrow hown hat hlt4 HP HSA HSD HNW;revert HZ;generalize World.setCell _ _ _ = W10;intro HZ;obtain ⟨⟨p0, p1⟩, _, _⟩ := HZ.out.facts;obtain ⟨⟨y0, y1, y2, y3⟩, _, _, _, _⟩ := HZ.out.rw.cells;(try dsimp only at y0 y1 y2 y3);(have hw1 : IntKind.i64.wrap ((((r.l).length + 1 : Nat) : Int) - 1) = (((r.l).length : Nat) : Int) := by have := HLEN.out; rw [IntKind.wrap_i64]; omega);have hlen9 := HLEN.out;go_wp2;go_ret;refine ⟨_, ?_, ?_, HZ.out.kr⟩
  · rw [HO.out]; rfl
  · rw [HO.out]; exact HZ.out.rw
end Go.Proofs.YtgaiknjmbingjaaGreatDoor.Rx
