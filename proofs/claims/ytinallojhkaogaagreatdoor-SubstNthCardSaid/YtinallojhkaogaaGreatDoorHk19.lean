/- The texts MtWno MtWhit MtWmiss MtI MtX ShB. -/
import Derived.Test.YtinallojhkaogaaGreatDoorHk16
import Derived.Test.YtinallojhkaogaaGreatDoorHk18
set_option linter.unusedVariables false
set_option linter.unusedSimpArgs false
set_option maxHeartbeats 3200000
set_option maxRecDepth 100000
namespace Go.Proofs.YtinallojhkaogaaGreatDoor.Mt
open Go.RowKit Go.Shelf
open Rx
open Rx.Tr
open St (Wf word mem SV SV_eq)
theorem fits_no (X:Par) (hX:X.Ok) (hrf:X.refs = false) (x:Tr) (ia:Nat) (HF:FromOk X x ia) (HL:LookOk X x ia) (hs:∀ (i j:Nat) (c a:Caps),i <= j -> j <= X.N -> fitP X.T x i j c = some a -> endsP X.T x i j = true):FitOk X x ia:=by
 intro pr i j c w hij hj hc hM;obtain ⟨c0,c1,c2,c3,c4⟩:=hM.facts;rw [hrf] at c2;have hbm:=lt_heap' hM.hb;(have hbm2:X.bm < w.heap.size + 1:=by omega);(have hj0:(0:Int) <= (j:Int):=by omega);(have hj1:(j:Int) < (X.N:Int) + 1:=by omega);have HT:=Hd (tf_start hM c);have HC:=Hd hc;(have hi:i <= X.N:=by omega);have HFr:=Hd HF;have HLk:=Hd HL;have HS:=Hd hs;clear HF HL hs hM hc;go_enter Tryz.func76,Tryz.ntmps76;cases hgj:endsP X.T x i j
 ·
  go_wp2_with (first
   | (go_at_call 102;have hq:=HFr.out _ i _ hi HT.out.mm;refine hq.mono ?_;clear hq;rintro e w2 ⟨g,rfl,hr,hng,hm,hk⟩;have hcl:=hr.cell (i:=j) (by omega);rw [hgj] at hcl;have HT2:=Hd (HT.out.call hm hk);clear hr hng hm hk HT)
   | (refine ldM 9 HT2.out.bx ?_)
   | (refine stM 10 28 c HT2.out.rs ?_;obtain ⟨r1,r2,r3⟩:=HT2.out.ret c;have HR:=Hd (An r1 (An r2 r3));clear r1 r2 r3 HT2;generalize World.setRow _ _ _ = W9 at HR ⊢))
  refine bodyPost_ret (res_caps rfl rfl HR.out.1 rfl) rfl ?_;refine ⟨c,false,rfl,⟨HC.out,?_⟩,HR.out.2.1,HR.out.2.2⟩;cases hf:fitP X.T x i j c with
  | none=>rfl
  | some a=>have:=HS.out i j c a hij hj hf;rw [hgj] at this;exact absurd this (by simp)
 ·
  go_wp2_with (first
   | (go_at_call 102;have hq:=HFr.out _ i _ hi HT.out.mm;refine hq.mono ?_;clear hq;rintro e w2 ⟨g,rfl,hr,hng,hm,hk⟩;have hcl:=hr.cell (i:=j) (by omega);rw [hgj] at hcl;have HT2:=Hd (HT.out.call hm hk);clear hr hng hm hk HT)
   | (refine ldM 9 HT2.out.bx ?_)
   | (go_at_call 103;have hq:=HLk.out _ i j c _ hij hj HC.out HT2.out.mm;refine hq.mono ?_;clear hq;rintro e w3 ⟨c',b,rfl,hl,hm,hk⟩;have HT3:=Hd (HT2.out.call hm hk);have HLE:=Hd hl;clear hl hm hk HT2 hcl)
   | (refine stM 10 35 c' HT3.out.rs ?_;obtain ⟨r1,r2,r3⟩:=HT3.out.ret c';have HR:=Hd (An r1 (An r2 r3));clear r1 r2 r3 HT3;generalize World.setRow _ _ _ = W9 at HR ⊢))
  refine bodyPost_ret (res_caps rfl rfl HR.out.1 rfl) rfl ?_;exact ⟨c',b,rfl,HLE.out,HR.out.2.1,HR.out.2.2⟩
theorem fits_hit (X:Par) (hX:X.Ok) (hrf:X.refs = true) (x:Tr) (o ia:Nat) (ha:At X.l x o) (hia:ia = o + x.size - 1) (pr:Nat -> Prop) (i j:Nat) (c:Caps) (w:World) (hij:i <= j) (hj:j <= X.N) (hc:CapsOk X.N c) (hM:MM X pr w) (a0:Caps) (b0:Bool) (hl:LeftOk X.N (fitP X.T x i j c) a0 b0) (hlook:∀ w':World,w'.heap[X.b2]? = w.heap[X.b2]? -> (Instr.lookup 125 (.map (some X.b2)) (TK ia i j c) true).run Tryz.prog w' = .ok (.tuple #[(LV a0 b0),.bool true]) w'):Calls Tryz.prog 76 #[PT X.bm,E (ia:Nat),E (i:Nat),E (j:Nat),CV c] w (FitAns X pr w (fitP X.T x i j c)):=by
 obtain ⟨c0,c1,c2,c3,c4⟩:=hM.facts;rw [hrf] at c2;have hbm:=lt_heap' hM.hb;(have hbm2:X.bm < w.heap.size + 1:=by omega);have HT:=Hd (th_start2 (ia:=ia) (i:=i) (j:=j) (c:=c) hM);have HC:=Hd hc;have HLK:=Hd hlook;have HX:=Hd hX;have HAT:=Hd ha;have HIA:=Hd hia;have HLE:=Hd hl;clear hl;clear hM hc hlook hX ha hia;go_enter Tryz.func76,Tryz.ntmps76;rw [show Code.region 6 = Fz 6 from rfl];go_wp2_with (refine wpList_store_row rfl 171 (.tmp 12) (.tmp 41) rfl (w.heap.size + 1 + 1) (KC ia i j c) rfl rfl _ KZ (key_there _ _ _) (by kernel_rfl) rfl (kc_one _ _ _ _) ?_;simp only [Act.put,List.setIfInBounds_toArray,List.set_cons_zero,List.set_cons_succ];clear c0 c1 c2 c3 c4 hbm hbm2;generalize World.setRow _ _ _ = W0 at HT ⊢);rw [show Fz 6 = Code.region 6 from rfl];(refine Tk.g (fun w'=>HQ X w ia i j c w') (by exact HT.out.drew.hq) fun hH=>?_);have HTD:=Hd HT.out.drew;clear HT;generalize World.drew _ = W1 at HTD hH ⊢;refine Tk.t 0 ?_;refine Tk.t 1 ?_;refine Tk.t 2 ?_;refine Tk.t 3 ?_;refine Tk.t 4 (hy:=fun wv hSw=>exec_load_row 171 (.tmp 12) rfl (w.heap.size + 1 + 1) rfl _ (KC ia i j c) _ _ hSw.2.1 Tryz.underlying171 rfl (by kernel_rfl)) ?_;refine Tk.t 5 (hy:=by (intro wv hSw;(try dsimp only at hSw);obtain ⟨q0,q1,q2⟩:=hSw;have q4:=HLK.out _ q2;go_simp) <;> with_reducible rfl) ?_;refine Tk.t 6 ?_;refine Tk.t 7 ?_;refine Tk.t 8 ?_;refine Tk.o 9 (fun K hK=>?_);have hsz:=HTD.out.sz;go_simp;refine hK.out _ _ ?_ (fun hH=>Tk.w ?_)
 · (exact HTD.out.lay_hq LZ)
 clear hK K;refine Tk.o 10 (fun K hK=>?_);refine step_store_row rfl 173 (.tmp 13) (.tmp 49) rfl (w.heap.size + 1 + 1 + 1) (LC a0 b0) rfl rfl _ LZ (left_there HTD.out) (by kernel_rfl) rfl (lc_one a0 b0) ?_;rw [left_laid HTD.out (LC a0 b0)];refine hK.out _ _ ?_ (fun hH=>Tk.w ?_)
 · (exact HTD.out.lay_hq (LC a0 b0))
 clear hK K;refine Tk.t 11 ?_;refine Tk.d ?_;have HG:=Hd (HTD.out.lay (LC a0 b0));have HB2:=Hd (HTD.out.lay_hq (LC a0 b0)).2.2;clear hH HTD HLK hsz;generalize World.alloc _ _ = W2 at HG HB2 ⊢;go_wp2;have HGD:=Hd (HG.out.below (Below.refl _ _).drew);(refine Tk.g (fun w'=>w'.heap[w.heap.size + 1 + 1 + 1]? = some (.cells (LC a0 b0) 173 (0,0))) (by exact HGD.out.xx) fun hH=>?_);clear HG;generalize World.drew _ = W5 at HGD hH ⊢;refine Tk.t 0 ?_;refine Tk.t 1 (hy:=fun wv hSw=>exec_load_mid 34 (.tmp 70) rfl (w.heap.size + 1 + 1 + 1) 0 rfl (CC a0).toList _ (range_part (pre:=[]) (post:=[.bool b0]) hSw rfl) Tryz.underlying34 rfl (by kernel_rfl)) ?_;refine Tk.t 2 ?_;refine Tk.k (fun _ h=>cells11 h) 3 ?_;refine Tk.o 4 (fun K hK=>?_);refine ssM 10 71 a0 HGD.out.rs ?_;obtain ⟨r1,r2,r3,r4⟩:=HGD.out.ret a0;have HR:=Hd (An r1 (An r2 r3));clear r1 r2 r3 HGD;generalize World.setRow _ _ _ = W9 at HR r4 ⊢;refine hK.out _ _ ?_ (fun hH=>Tk.w ?_)
 · (exact r4)
 clear hK K;refine Tk.t 5 ?_;refine Tk.d ?_;clear hH r4;go_wp2;refine bodyPost_ret (res_caps rfl rfl HR.out.1 rfl) rfl ?_;exact ⟨a0,b0,rfl,HLE.out,HR.out.2.1,HR.out.2.2⟩
theorem fits_miss (X:Par) (hX:X.Ok) (hrf:X.refs = true) (x:Tr) (o ia:Nat) (ha:At X.l x o) (hia:ia = o + x.size - 1) (pr:Nat -> Prop) (i j:Nat) (c:Caps) (w:World) (hij:i <= j) (hj:j <= X.N) (hc:CapsOk X.N c) (hM:MM X pr w) (HL:LookOk X x ia) (hlook:∀ w':World,w'.heap[X.b2]? = w.heap[X.b2]? -> (Instr.lookup 125 (.map (some X.b2)) (TK ia i j c) true).run Tryz.prog w' = .ok (.tuple #[(.agg LZ),.bool false]) w'):Calls Tryz.prog 76 #[PT X.bm,E (ia:Nat),E (i:Nat),E (j:Nat),CV c] w (FitAns X pr w (fitP X.T x i j c)):=by
 obtain ⟨c0,c1,c2,c3,c4⟩:=hM.facts;rw [hrf] at c2;have hbm:=lt_heap' hM.hb;(have hbm2:X.bm < w.heap.size + 1:=by omega);have HT:=Hd (th_start2 (ia:=ia) (i:=i) (j:=j) (c:=c) hM);have HC:=Hd hc;have HLK:=Hd hlook;have HX:=Hd hX;have HAT:=Hd ha;have HIA:=Hd hia;have HLk:=Hd HL;clear HL;clear hM hc hlook hX ha hia;go_enter Tryz.func76,Tryz.ntmps76;rw [show Code.region 6 = Fz 6 from rfl];go_wp2_with (refine wpList_store_row rfl 171 (.tmp 12) (.tmp 41) rfl (w.heap.size + 1 + 1) (KC ia i j c) rfl rfl _ KZ (key_there _ _ _) (by kernel_rfl) rfl (kc_one _ _ _ _) ?_;simp only [Act.put,List.setIfInBounds_toArray,List.set_cons_zero,List.set_cons_succ];clear c0 c1 c2 c3 c4 hbm hbm2;generalize World.setRow _ _ _ = W0 at HT ⊢);rw [show Fz 6 = Code.region 6 from rfl];(refine Tk.g (fun w'=>HQ X w ia i j c w') (by exact HT.out.drew.hq) fun hH=>?_);have HTD:=Hd HT.out.drew;clear HT;generalize World.drew _ = W1 at HTD hH ⊢;refine Tk.t 0 ?_;refine Tk.t 1 ?_;refine Tk.t 2 ?_;refine Tk.t 3 ?_;refine Tk.t 4 (hy:=fun wv hSw=>exec_load_row 171 (.tmp 12) rfl (w.heap.size + 1 + 1) rfl _ (KC ia i j c) _ _ hSw.2.1 Tryz.underlying171 rfl (by kernel_rfl)) ?_;refine Tk.t 5 (hy:=by (intro wv hSw;(try dsimp only at hSw);obtain ⟨q0,q1,q2⟩:=hSw;have q4:=HLK.out _ q2;go_simp) <;> with_reducible rfl) ?_;refine Tk.t 6 ?_;refine Tk.t 7 ?_;refine Tk.t 8 ?_;refine Tk.o 9 (fun K hK=>?_);have hsz:=HTD.out.sz;go_simp;refine hK.out _ _ ?_ (fun hH=>Tk.w ?_)
 · (exact HTD.out.lay_hq LZ)
 clear hK K;refine Tk.o 10 (fun K hK=>?_);refine step_store_row rfl 173 (.tmp 13) (.tmp 49) rfl (w.heap.size + 1 + 1 + 1) LZ rfl rfl _ LZ (left_there HTD.out) (by kernel_rfl) rfl (by simp [Value.oneCell']) ?_;rw [left_laid HTD.out LZ];refine hK.out _ _ ?_ (fun hH=>Tk.w ?_)
 · (exact HTD.out.lay_hq LZ)
 clear hK K;refine Tk.t 11 ?_;refine Tk.d ?_;have HG:=Hd (HTD.out.lay LZ);have HB2:=Hd (HTD.out.lay_hq LZ).2.2;clear hH HTD HLK hsz;generalize World.alloc _ _ = W2 at HG HB2 ⊢;go_wp2_with (first
  | (refine ldM 9 HG.out.bx ?_)
  | (go_at_call 103;have hq:=HLk.out _ i j c _ hij hj HC.out HG.out.mm;refine hq.mono ?_;clear hq;rintro e w3 ⟨a1,b1,rfl,hl,hm,hk⟩;have HG3:=Hd (HG.out.call hm hk);have HLE:=Hd hl;clear hl hm hk HG HB2)
  | (refine wpList_store_mid rfl 34 (.tmp 62) (.tmp 60) rfl (w.heap.size + 1 + 1 + 1) 0 (CC a1) rfl rfl HG3.out.there (by kernel_rfl) (cc_one a1) ?_;simp only [Act.put,List.setIfInBounds_toArray,List.set_cons_zero,List.set_cons_succ];have HG4:=Hd (HG3.out.caps a1);clear HG3;generalize World.setCells _ _ _ _ = W4 at HG4 ⊢;have hfz:=HG4.out.fz 10;have hcl:=(cells11 HG4.out.xx).2.2.2.2.2.2.2.2.2.2;have HG5:=Hd (HG4.out.bool b1)))
 have HG6:=Hd (HG5.out.below (Below.refl _ _).drew);clear HG4 HG5 hfz hcl;(refine Tk.g (fun w'=>w'.cell? ⟨X.bm,4,none⟩ = some (.map (some X.b2)) /\ w'.heap[w.heap.size + 1 + 1]? = some (.cells (KC ia i j c) 171 (0,0)) /\ w'.heap[w.heap.size + 1 + 1 + 1]? = some (.cells (LC a1 b1) 173 (0,0))) (by exact ⟨HG6.out.mm.facts.2.2.2.2,HG6.out.kk,HG6.out.xx⟩) fun hH=>?_);generalize World.drew _ = W6 at HG6 hH ⊢;refine Tk.t 0 ?_;refine Tk.t 1 ?_;refine Tk.t 2 ?_;refine Tk.t 3 ?_;refine Tk.t 4 (hy:=fun wv hSw=>exec_load_row 171 (.tmp 12) rfl (w.heap.size + 1 + 1) rfl _ (KC ia i j c) _ _ hSw.2.1 Tryz.underlying171 rfl (by kernel_rfl)) ?_;refine Tk.t 5 (hy:=fun wv hSw=>exec_load_row 173 (.tmp 13) rfl (w.heap.size + 1 + 1 + 1) rfl _ (LC a1 b1) _ _ hSw.2.2 Tryz.underlying173 rfl (by kernel_rfl)) ?_;refine Tk.o 6 (fun K hK=>?_);obtain ⟨w9,hrun,hmm,hkm⟩:=HG6.out.mm.put2 HX.out HAT.out HC.out HLE.out;rw [<- HIA.out] at hrun;have HG7:=Hd (HG6.out.call hmm hkm);clear hmm hkm;go_simp;refine hK.out _ _ ?_ (fun hH=>Tk.w ?_)
 · (exact ⟨HG7.out.mm.facts.2.2.2.2,HG7.out.kk,HG7.out.xx⟩)
 clear hK K;refine Tk.d ?_;clear hH hrun HG6;go_wp2;have HGD:=Hd (HG7.out.below (Below.refl _ _).drew);(refine Tk.g (fun w'=>w'.heap[w.heap.size + 1 + 1 + 1]? = some (.cells (LC a1 b1) 173 (0,0))) (by exact HGD.out.xx) fun hH=>?_);clear HG7;generalize World.drew _ = W5 at HGD hH ⊢;refine Tk.t 0 ?_;refine Tk.t 1 (hy:=fun wv hSw=>exec_load_mid 34 (.tmp 70) rfl (w.heap.size + 1 + 1 + 1) 0 rfl (CC a1).toList _ (range_part (pre:=[]) (post:=[.bool b1]) hSw rfl) Tryz.underlying34 rfl (by kernel_rfl)) ?_;refine Tk.t 2 ?_;refine Tk.k (fun _ h=>cells11 h) 3 ?_;refine Tk.o 4 (fun K hK=>?_);refine ssM 10 71 a1 HGD.out.rs ?_;obtain ⟨r1,r2,r3,r4⟩:=HGD.out.ret a1;have HR:=Hd (An r1 (An r2 r3));clear r1 r2 r3 HGD;generalize World.setRow _ _ _ = W9 at HR r4 ⊢;refine hK.out _ _ ?_ (fun hH=>Tk.w ?_)
 · (exact r4)
 clear hK K;refine Tk.t 5 ?_;refine Tk.d ?_;clear hH r4;go_wp2;refine bodyPost_ret (res_caps rfl rfl HR.out.1 rfl) rfl ?_;exact ⟨a1,b1,rfl,HLE.out,HR.out.2.1,HR.out.2.2⟩
theorem fits_all (X:Par) (hX:X.Ok) (x:Tr) (o:Nat) (ha:At X.l x o) (hn:NumsOk x) (hs:SetsOk x) (hr:X.refs = false -> refsT x = 0) (HL:LookOk X x (o + x.size - 1)):FitOk X x (o + x.size - 1):=by
 cases hrf:X.refs with
 | false=>exact fits_no X hX hrf x _ (from_all X hX x o ha (hr hrf) hs) HL fun i j c a h1 h2 h=>ends_sound x (hr hrf) hn i j c a h1 h2 h
 | true =>
  intro pr i j c w hij hj hc hM;obtain ⟨v,b,hlook,hb⟩:=hM.look2 hX ha (size_pos x) i j hc;rcases hb with ⟨rfl,z,rfl,rfl⟩ | ⟨rfl,c',b',rfl,hl⟩
  · exact fits_miss X hX hrf x o _ ha rfl pr i j c w hij hj hc hM HL hlook
  · exact fits_hit X hX hrf x o _ ha rfl pr i j c w hij hj hc hM c' b' hl hlook
theorem reaches_all (X:Par) (hX:X.Ok) (x:Tr) (o:Nat) (ha:At X.l x o) (hs:SetsOk x) (hr:X.refs = false -> refsT x = 0) (b m:Nat) (z:List Nat) (mn mx:Int) (h1:0 <= mn) (h2:mn <= 255) (h3:-1 <= mx) (h4:mx <= 255) (j:Nat) (hj:j <= X.N) :
  ∀ (pr:Nat -> Prop) (k cc:Nat) (a:Caps) (w:World),k <= X.N -> cc <= 200000 -> MM X pr w -> Calls Tryz.prog 154 #[PT X.bm,NV ⟨6,z,((o + x.size - 1:Nat):Int),(b:Nat),mn,mx,(m:Nat)⟩,SD k cc j a,E (j:Nat)] w fun e w'=>e = .returned (.bool (rch X x mn mx k cc j)) /\ MM X pr w' /\ Km X w w':=by
 intro pr k cc a w hk hcc hM;cases hrf:X.refs with
 | true =>
  refine (reaches_refs X hrf pr _ k cc j a j w hM).mono ?_;rintro e w' ⟨rfl,hb⟩;refine ⟨?_,hM.below hb,Km.of_below hb⟩;unfold rch;rw [hrf];rfl
 | false =>
  refine (reaches_no X hX hrf x _ (from_all X hX x o ha (hr hrf) hs) pr ⟨6,z,((o + x.size - 1:Nat):Int),(b:Nat),mn,mx,(m:Nat)⟩ rfl h1 h2 h3 h4 k cc j hk hcc a j hj w hM).mono ?_;rintro e w' ⟨rfl,hm,hk⟩;refine ⟨?_,hm,hk⟩;unfold rch;rw [hrf];rfl
theorem look_all (X:Par) (hX:X.Ok) (em:Prop):∀ (x:Tr) (o:Nat),At X.l x o -> x.Fine em -> SetsOk x -> (X.refs = false -> refsT x = 0) -> LookOk X x (o + x.size - 1):=by
 intro x
 induction x with
 | e =>
  intro o ha hf hs hr pr i j c w hij hj hc hM;obtain ⟨nb,no,cap,hv,hlt,hN⟩:=hM.node hX ha;exact look_0 X hX _ pr i j c w hij hj hc hM nb no cap hv hlt z4 0 0 0 0 0 hN _ rfl
 | set s =>
  intro o ha hf hs hr pr i j c w hij hj hc hM;obtain ⟨nb,no,cap,hv,hlt,hN⟩:=hM.node hX ha;exact look_1 X hX _ pr i j c w hij hj hc hM nb no cap hv hlt s 0 0 0 0 0 hN hs _ rfl
 | beg =>
  intro o ha hf hs hr pr i j c w hij hj hc hM;obtain ⟨nb,no,cap,hv,hlt,hN⟩:=hM.node hX ha;exact look_2 X hX _ pr i j c w hij hj hc hM nb no cap hv hlt z4 0 0 0 0 0 hN _ rfl
 | fin =>
  intro o ha hf hs hr pr i j c w hij hj hc hM;obtain ⟨nb,no,cap,hv,hlt,hN⟩:=hM.node hX ha;exact look_3 X hX _ pr i j c w hij hj hc hM nb no cap hv hlt z4 0 0 0 0 0 hN _ rfl
 | cat x y ihx ihy =>
  intro o ha hf hs hr pr i j c w hij hj hc hM;obtain ⟨nb,no,cap,hv,hlt,hN⟩:=hM.node hX ha;have hx:=at_left ha (r:=_ ++ _) (by rw [<- List.append_assoc];rfl);have hy:=at_right ha (by rw [<- List.append_assoc];rfl);(have hrx:X.refs = false -> refsT x = 0:=fun q=>by have:=hr q;simp only [refsT] at this;omega);(have hry:X.refs = false -> refsT y = 0:=fun q=>by have:=hr q;simp only [refsT] at this;omega);have h3:=fits_all X hX x o hx (nums_fine em x hf.1) hs.1 hrx (ihx o hx hf.1 hs.1 hrx);have h4:=fits_all X hX y (o + x.size) hy (nums_fine em y hf.2.1) hs.2 hry (ihy _ hy hf.2.1 hs.2 hry);exact look_4 X hX _ pr i j c w hij hj hc hM nb no cap hv hlt z4 _ _ 0 0 0 hN x y h3 h4 _ rfl
 | alt x y ihx ihy =>
  intro o ha hf hs hr pr i j c w hij hj hc hM;obtain ⟨nb,no,cap,hv,hlt,hN⟩:=hM.node hX ha;have hx:=at_left ha (r:=_ ++ _) (by rw [<- List.append_assoc];rfl);have hy:=at_right ha (by rw [<- List.append_assoc];rfl);(have hrx:X.refs = false -> refsT x = 0:=fun q=>by have:=hr q;simp only [refsT] at this;omega);(have hry:X.refs = false -> refsT y = 0:=fun q=>by have:=hr q;simp only [refsT] at this;omega);have h3:=fits_all X hX x o hx (nums_fine em x hf.1) hs.1 hrx (ihx o hx hf.1 hs.1 hrx);have h4:=fits_all X hX y (o + x.size) hy (nums_fine em y hf.2.1) hs.2 hry (ihy _ hy hf.2.1 hs.2 hry);refine look_5 X hX _ pr i j c w hij hj hc hM nb no cap hv hlt z4 _ _ 0 0 0 hN x y h3 h4 _ ?_;show fitP X.T (.alt x y) i j c = _;rw [fitP];cases fitP X.T x i j c <;> rfl
 | times mn mx x ihx =>
  intro o ha hf hs hr pr i j c w hij hj hc hM;obtain ⟨nb,no,cap,hv,hlt,hN⟩:=hM.node hX ha;have hx:=at_left ha rfl;(have hrx:X.refs = false -> refsT x = 0:=fun q=>by have:=hr q;simp only [refsT] at this;omega);have h3:=fits_all X hX x o hx (nums_fine em x hf.1) hs hrx (ihx o hx hf.1 hs hrx);obtain ⟨_,f1,f2,f3,_⟩:=hf;refine look_6 X hX _ pr i j c w hij hj hc hM nb no cap hv hlt z4 _ 0 mn mx 0 hN _ (fun pr w hM=>?_) _ rfl;obtain ⟨nb,no,cap,hv,hlt,hN⟩:=hM.node hX ha;exact again_any X hX _ _ x mn mx f1 f2 (by omega) hrx (nums_fine em x ‹_›) pr i j c w hij hj hc hM nb no cap hv hlt z4 0 0 hN h3 (reaches_all X hX x o hx hs hrx 0 0 z4 mn mx f1 f2 (by omega) (by omega) j hj) _ rfl
 | grp n x ihx =>
  intro o ha hf hs hr pr i j c w hij hj hc hM;obtain ⟨nb,no,cap,hv,hlt,hN⟩:=hM.node hX ha;have hx:=at_left ha rfl;(have hrx:X.refs = false -> refsT x = 0:=fun q=>by have:=hr q;simp only [refsT] at this;omega);have h3:=fits_all X hX x o hx (nums_fine em x hf.1) hs hrx (ihx o hx hf.1 hs hrx);obtain ⟨_,f1,f2⟩:=hf;obtain ⟨m,rfl⟩:∃ m:Nat,n = (m:Int):=⟨n.toNat,by omega⟩;exact look_7 X hX _ pr i j c w hij hj hc hM nb no cap hv hlt z4 _ 0 0 0 m hN (by omega) (by omega) x h3 _ rfl
 | ref n =>
  intro o ha hf hs hr pr i j c w hij hj hc hM;obtain ⟨nb,no,cap,hv,hlt,hN⟩:=hM.node hX ha;obtain ⟨f1,f2⟩:=hf;obtain ⟨m,rfl⟩:∃ m:Nat,n = (m:Int):=⟨n.toNat,by omega⟩;exact look_8 X hX _ pr i j c w hij hj hc hM nb no cap hv hlt z4 0 0 0 0 m hN (by omega) (by omega) _ rfl
theorem fits_whole (X:Par) (hX:X.Ok):FitOk X X.t (X.l.length - 1):=by
 have hw:=hX.good.1;have ha:At X.l X.t 0:=at_self X.t;have hr:X.refs = false -> refsT X.t = 0:=fun q=>by
  unfold Par.refs at q;have:=of_decide_eq_false q;omega
 have:=fits_all X hX X.t 0 ha (nums_fine _ X.t hw) hX.sets hr (look_all X hX _ X.t 0 ha hw hX.sets hr);rw [show X.l.length = X.t.size from nodes_len _ _]
 rwa [Nat.zero_add] at this
def groupP (T:List UInt8) (c:Caps) (n:Int):List UInt8:=if 0 <= n /\ n < 10 then cutC T (gr c n.toNat) else []
theorem group_any (T:List UInt8) (hT:T.length <= 100000) (c:Caps) (hc:CapsOk T.length c) (n:Int) (w:World) (R:List UInt8) (hR:R = groupP T c n):Calls Tryz.prog 24 #[S T,CV c,E n] w fun e w'=>e = .returned (S R) /\ Below w.heap.size w w':=by
 have HRR:=Hd hR;have HB:=Hd ((Below.refl w.heap.size w).alloc (Nat.le_refl _) (.cells (CC c) 34));clear hR;by_cases h0:n < 0
 · have HN:=Hd h0;go_enter Tryz.func24,Tryz.ntmps24;go_wp2;go_ret;refine ⟨?_,HB.out⟩;rw [HRR.out,groupP,if_neg (by have:=HN.out;omega)];try rfl
 ·
  by_cases h1:10 <= n
  · have HN:=Hd h1;go_enter Tryz.func24,Tryz.ntmps24;go_wp2;go_ret;refine ⟨?_,HB.out⟩;rw [HRR.out,groupP,if_neg (by have:=HN.out;omega)];try rfl
  · obtain ⟨m,rfl⟩:∃ m:Nat,n = (m:Int):=⟨n.toNat,by omega⟩;(have hm:m < 10:=by omega);have HM:=Hd hm;have hcl:=cap_cell (show CB (w.alloc (.cells (CC c) 34)) w.heap.size c from heap_alloc_new _ _) hm;(have hm0:(0:Int) <= (m:Int):=by omega);have HCU:=Hd (fun W=>cut_cap (T:=T) (by omega) (hc.at m) W);generalize hcv:capV (gr c m) = cv at HCU hcl;clear hcv hc hm;go_enter Tryz.func24,Tryz.ntmps24;go_wp2_with (go_at_call 38;refine (HCU.out _).mono ?_;rintro e w2 ⟨rfl,rfl⟩);go_ret;refine ⟨?_,HB.out⟩;rw [HRR.out,groupP,if_pos (by have:=HM.out;omega)];try rfl
theorem mat_new {e:Ending} {t:Tr} {w1 w':World} {T:List UInt8} {v:Value} (h:∃ X:Par,X.Ok /\ X.w0 = w1 /\ X.T = T /\ X.t = t /\ X.v = v /\ e = .returned (PT X.bm) /\ MM X (fun _=>False) w') :
  ∃ bm b1 b2,e = .returned (PT bm) /\ (⟨w1,T,t,v,bm,b1,b2⟩:Par).Ok /\ MM ⟨w1,T,t,v,bm,b1,b2⟩ (fun _=>False) w':=by
 obtain ⟨⟨w0,T0,t0,v0,bm,b1,b2⟩,hX,e1,e2,e3,e4,e5,hM⟩:=h;dsimp only at e1 e2 e3 e4 e5;subst e1 e2 e3 e4;exact ⟨bm,b1,b2,e5,hX,hM⟩
theorem whole_mat {X:Par} (hX:X.Ok) {w:World} (hM:MM X (fun _=>False) w) {i j:Nat} (hij:i <= j) (hj:j <= X.N) {R:Option Caps} (hR:R = wholeP X.T X.t i j) :
  Calls Tryz.prog 49 #[PT X.bm,E (i:Nat),E (j:Nat)] w fun e w'=>e = .returned (.tuple #[CV (R.getD nones),.bool R.isSome]) /\ MM X (fun _=>False) w' /\ Km X w w':=by
 obtain ⟨nb,no,cap,hv,_⟩:=hM.node hX (at_self X.t);have hl:X.l.length = X.t.size:=nodes_len _ _;have hp:=size_pos X.t;have hg:=hX.good.2.1;refine (whole_any X hX _ i j hij hj w hM nb no cap hv (by omega) (by omega) (fits_whole X hX) R hR).mono ?_;rintro e w' ⟨rfl,hm,hk⟩;exact ⟨rfl,hm,hk⟩
theorem Longest_no (l:List Nd) (ao:Option Addr) (c:Nat) (w:World) (h:Ns w (.slice ao l.length c) l) (hw:∀ n ∈ l,Wf n.s) (T:List UInt8) (i:Int) (hbad:mayL l = false \/ i < 0 \/ (T.length:Int) < i) :
  Calls Tryz.prog 16 #[.slice ao l.length c,S T,E i] w fun e w'=>e = .returned (ansC none) /\ Below w.heap.size w w':=by
 have HZ:=Hd (heap_alloc_new w (.cells CZ 34));have HB0:=Hd ((Below.refl w.heap.size w).alloc (Nat.le_refl _) (.cells CZ 34));have HMAY:=Hd (fun (W:World) (hb:Below w.heap.size w W)=>may_any ao c l W (h.below hb) hw);have HNA:=Hd (fun W=>none_any W);clear h hw;generalize l.length = n at *;cases hm:mayL l
 ·
  clear hbad;rw [hm] at HMAY;clear hm;go_enter Tryz.func16,Tryz.ntmps16;go_wp2_with (first
   | (go_at_call 47;refine (HMAY.out _ HB0.out).mono ?_;rintro e w1 ⟨rfl,hb⟩;have HBL:=Hd (HB0.out.trans (hb.mono HB0.out.size));have HRL:=Hd ((hb.block _ (by simp)).trans HZ.out);clear hb)
   | (go_at_call 26;refine (HNA.out _).mono ?_;rintro e w8 ⟨rfl,hb⟩;have HB8:=Hd (HBL.out.trans (hb.mono HBL.out.size));have HR8:=Hd ((hb.block _ (lt_heap' HRL.out)).trans HRL.out);clear hb)
   | (refine stM 6 25 nones HR8.out ?_;have HR:=Hd (An (setRow_heap _ _ _ (CC nones) _ _ HR8.out) (below_setRow (B:=w.heap.size) HB8.out (g:=w.heap.size) (Nat.le_refl _) (CC nones)));generalize World.setRow _ _ _ = W9 at HR ⊢))
  refine bodyPost_ret (res_caps rfl rfl HR.out.1 rfl) rfl ?_;exact ⟨rfl,HR.out.2⟩
 ·
  rw [hm] at hbad;(replace hbad:i < 0 \/ (T.length:Int) < i:=by simpa using hbad);by_cases h0:i < 0
  ·
   clear hbad;rw [hm] at HMAY;clear hm;go_enter Tryz.func16,Tryz.ntmps16;go_wp2_with (first
    | (go_at_call 47;refine (HMAY.out _ HB0.out).mono ?_;rintro e w1 ⟨rfl,hb⟩;have HBL:=Hd (HB0.out.trans (hb.mono HB0.out.size));have HRL:=Hd ((hb.block _ (by simp)).trans HZ.out);clear hb)
    | (go_at_call 26;refine (HNA.out _).mono ?_;rintro e w8 ⟨rfl,hb⟩;have HB8:=Hd (HBL.out.trans (hb.mono HBL.out.size));have HR8:=Hd ((hb.block _ (lt_heap' HRL.out)).trans HRL.out);clear hb)
    | (refine stM 6 25 nones HR8.out ?_;have HR:=Hd (An (setRow_heap _ _ _ (CC nones) _ _ HR8.out) (below_setRow (B:=w.heap.size) HB8.out (g:=w.heap.size) (Nat.le_refl _) (CC nones)));generalize World.setRow _ _ _ = W9 at HR ⊢))
   refine bodyPost_ret (res_caps rfl rfl HR.out.1 rfl) rfl ?_;exact ⟨rfl,HR.out.2⟩
  (have h1:(T.length:Int) < i:=by omega);clear hbad;rw [hm] at HMAY;clear hm;go_enter Tryz.func16,Tryz.ntmps16;go_wp2_with (first
   | (go_at_call 47;refine (HMAY.out _ HB0.out).mono ?_;rintro e w1 ⟨rfl,hb⟩;have HBL:=Hd (HB0.out.trans (hb.mono HB0.out.size));have HRL:=Hd ((hb.block _ (by simp)).trans HZ.out);clear hb)
   | (go_at_call 26;refine (HNA.out _).mono ?_;rintro e w8 ⟨rfl,hb⟩;have HB8:=Hd (HBL.out.trans (hb.mono HBL.out.size));have HR8:=Hd ((hb.block _ (lt_heap' HRL.out)).trans HRL.out);clear hb)
   | (refine stM 6 25 nones HR8.out ?_;have HR:=Hd (An (setRow_heap _ _ _ (CC nones) _ _ HR8.out) (below_setRow (B:=w.heap.size) HB8.out (g:=w.heap.size) (Nat.le_refl _) (CC nones)));generalize World.setRow _ _ _ = W9 at HR ⊢))
  refine bodyPost_ret (res_caps rfl rfl HR.out.1 rfl) rfl ?_;exact ⟨rfl,HR.out.2⟩
theorem Longest_yes (t:Tr) (hg:Rx.Good t) (hs:SetsOk t) (ao:Option Addr) (c:Nat) (w:World) (h:Ns w (.slice ao (t.nodes 0).length c) (t.nodes 0)) (T:List UInt8) (hT:T.length <= 100000) (i:Nat) (hi:i <= T.length) (R:Option Caps) (hR:R = longP T t i) :
  Calls Tryz.prog 16 #[.slice ao (t.nodes 0).length c,S T,E (i:Nat)] w fun e w'=>e = .returned (ansC R) /\ Below w.heap.size w w':=by
 have hw:=nodes_sets t 0 hs;have HZ:=Hd (heap_alloc_new w (.cells CZ 34));have HB0:=Hd ((Below.refl w.heap.size w).alloc (Nat.le_refl _) (.cells CZ 34));have hmay:=(fun (W:World) (hb:Below w.heap.size w W)=>may_any ao c (t.nodes 0) W (h.below hb) hw);rw [show mayL (t.nodes 0) = true from by unfold mayL;rw [patOf_good hg];rfl] at hmay;have HMAY:=Hd hmay;have HNEW:=Hd (fun (W:World) (hb:Below w.heap.size w W)=>new_any t hg hs hw (.slice ao (t.nodes 0).length c) T hT W (h.below hb));have HNA:=Hd (fun W=>none_any W);have HRR:=Hd hR;have HI:=Hd (An hi hT);(have h0:¬ (i:Int) < 0:=by omega);(have h2:¬ (T.length:Int) < (i:Int):=by omega);clear hmay hw hR hi h hg hs hT;generalize (t.nodes 0).length = n at *;go_enter Tryz.func16,Tryz.ntmps16;go_wp2_with (first
  | (go_at_call 47;refine (HMAY.out _ HB0.out).mono ?_;rintro e w1 ⟨rfl,hb⟩;have HB1:=Hd (HB0.out.trans (hb.mono HB0.out.size));have HRS:=Hd ((hb.block _ (by simp)).trans HZ.out);clear hb)
  | (go_at_call 48;refine (HNEW.out _ HB1.out).mono ?_;intro e w2 hnew;obtain ⟨bm,b1,b2,rfl,hX,hM⟩:=mat_new hnew;have HX:=Hd hX;have HM:=Hd hM;clear hX hM hnew))
 obtain ⟨G,hG⟩:∃ G,G = (fun j=>wholeP T t i j):=⟨_,rfl⟩;have HG:=Hd hG;have HR0:=Hd (show R = dn G i (T.length + 1 - i) from by rw [HRR.out,hG];rfl);clear hG HRR;go_loopg [9] (T.length + 1 - i) (fun m jv wr=>m <= T.length + 1 - i /\ ∃ k:Int,k = (i:Int) + (m:Int) - 1 /\ jv = .int .i64 k /\ Hid (R = dn G i m) /\ Hid (MM ⟨w1,T,t,.slice ao n c,bm,b1,b2⟩ (fun _=>False) wr));(case atStart=>exact ⟨Nat.le_refl _,(T.length:Int),by have:=HI.out;omega,rfl,HR0,HM⟩);case round =>
  clear HM HR0;obtain ⟨hn,k,hk,rfl,HD,HM⟩:=hrel;have HBL:=Hd (HB1.out.trans (HM.out.bel.mono HB1.out.size));have HRL:=Hd ((HM.out.bel.block _ (lt_heap' HRS.out)).trans HRS.out);cases gk with
  | zero =>
   (have hlt:¬ ((i:Int) <= k):=by omega);clear hk;go_wp2_with (first
    | (go_at_call 26;refine (HNA.out _).mono ?_;rintro e w8 ⟨rfl,hb⟩;have HB8:=Hd (HBL.out.trans (hb.mono HBL.out.size));have HR8:=Hd ((hb.block _ (lt_heap' HRL.out)).trans HRL.out);clear hb)
    | (refine stM 6 45 nones HR8.out ?_;have HR:=Hd (An (setRow_heap _ _ _ (CC nones) _ _ HR8.out) (below_setRow (B:=w.heap.size) HB8.out (g:=w.heap.size) (Nat.le_refl _) (CC nones)));generalize World.setRow _ _ _ = W9 at HR ⊢))
   refine bodyPost_ret (res_caps rfl rfl HR.out.1 rfl) rfl ?_;refine ⟨?_,HR.out.2⟩;rw [HD.out];rfl
  | succ m =>
   obtain ⟨q,hq⟩:∃ q,q = i + m:=⟨_,rfl⟩;(obtain rfl:k = (q:Int):=by omega);(have hle:(i:Int) <= (q:Int):=by omega);(have hlt:¬ ((q:Int) < (i:Int)):=by omega);(have hwq:IntKind.i64.wrap ((q:Int) - 1) = (q:Int) - 1:=by rw [IntKind.wrap_i64];have:=HI.out;omega);have HQ:=Hd (show i <= q /\ q <= T.length /\ q = i + m /\ m <= T.length + 1 - i from ⟨by omega,by omega,hq,by omega⟩);have HDN:=Hd (show R = (match G q with | some a=>some a | none=>dn G i m) from by rw [HD.out,hq,dn_succ];cases G (i + m) <;> rfl);obtain ⟨R1,hR1⟩:∃ R1,R1 = wholeP T t i q:=⟨_,rfl⟩;have HR1:=Hd hR1;have HGQ:=Hd (show G q = R1 from by rw [HG.out,hR1]);clear hk hq hn HD hR1;cases hc:R1 with
   | none =>
    rw [hc] at HR1 HGQ;go_wp2_with (first
     | (go_at_call 49;have hq:=whole_mat HX.out HM.out HQ.out.1 HQ.out.2.1 HR1.out;refine hq.mono ?_;clear hq;rintro e w3 ⟨rfl,hm,hk⟩;have HM3:=Hd hm;clear hm)
     | (refine stM 10 41 nones (heap_alloc_new _ _) ?_;rw [box_laid];have HM4:=Hd (HM3.out.below ((Below.refl _ _).alloc (Nat.le_refl _) (.cells (CC nones) 34)));clear HM3;generalize World.alloc _ _ = W4 at HM4 ⊢))
    go_roundg m;(case measure=>omega);case rel=>exact ⟨by have:=HQ.out;omega,_,by have:=HQ.out;omega,rfl,Hd (by rw [HDN.out,HGQ.out]),HM4⟩
   | some a1 =>
    rw [hc] at HR1 HGQ;go_wp2_with (first
     | (go_at_call 49;have hq:=whole_mat HX.out HM.out HQ.out.1 HQ.out.2.1 HR1.out;refine hq.mono ?_;clear hq;rintro e w3 ⟨rfl,hm,hk⟩;have HM3:=Hd hm;clear hm)
     | (refine stM 10 41 a1 (heap_alloc_new _ _) ?_;rw [box_laid];have HM4:=Hd (HM3.out.below ((Below.refl _ _).alloc (Nat.le_refl _) (.cells (CC a1) 34)));have HX4:=Hd (heap_alloc_new w3 (.cells (CC a1) 34));have HB8:=Hd (HB1.out.trans (HM4.out.bel.mono HB1.out.size));have HR8:=Hd ((HM4.out.bel.block _ (lt_heap' HRS.out)).trans HRS.out);clear HM3;generalize World.alloc _ _ = W4 at HM4 HX4 HB8 HR8 ⊢)
     | (refine ldM 10 HX4.out ?_)
     | (refine stM 6 44 a1 HR8.out ?_;have HR:=Hd (An (setRow_heap _ _ _ (CC a1) _ _ HR8.out) (below_setRow (B:=w.heap.size) HB8.out (g:=w.heap.size) (Nat.le_refl _) (CC a1)));generalize World.setRow _ _ _ = W9 at HR ⊢))
    refine bodyPost_ret (res_caps rfl rfl HR.out.1 rfl) rfl ?_;refine ⟨?_,HR.out.2⟩;rw [HDN.out,HGQ.out];rfl
end Go.Proofs.YtinallojhkaogaaGreatDoor.Mt
