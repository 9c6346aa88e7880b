/- The texts MtF6 MtG MtR MtS MtW MtL MtN. -/
import Derived.Test.YtinallojhkaogaaGreatDoorHk13
set_option linter.unusedVariables false
set_option linter.unusedSimpArgs false
set_option maxHeartbeats 3200000
set_option maxRecDepth 100000
namespace Go.Proofs.YtinallojhkaogaaGreatDoor.Mt
open Go.RowKit Go.Shelf
open Rx
open Rx.Tr
open St (Wf word mem SV SV_eq)
theorem frm_6 (X:Par) (hX:X.Ok) (x:Tr) (o:Nat) (ha:At X.l x o) (ia:Nat) (hia:ia = o + x.size - 1) (pr:Nat -> Prop) (i:Nat) (hi:i <= X.N) (w:World) (hM:MM X pr w) (nb no cap:Nat) (hv:X.v = .slice (some ⟨nb,no,none⟩) X.l.length cap) (hil:ia < X.l.length) (z:List Nat) (a b:Nat) (mn mx m:Int) (hN:NCell w nb (no + ia * 10) ⟨6,z,(a:Nat),(b:Nat),mn,mx,m⟩)
  (hlook:∀ w':World,w'.heap[X.b1]? = w.heap[X.b1]? -> (Instr.lookup 124 (.map (some X.b1)) (PK ia i) true).run Tryz.prog w' = .ok (.tuple #[.slice none 0 0,.bool false]) w') (y:Tr) (HF:FromOk X y a) (hxe:x = .times mn mx y) :
  Calls Tryz.prog 102 #[PT X.bm,E (ia:Nat),E (i:Nat)] w (FromAns X pr w (endsP X.T x i)):=by
 have hlen:=hX.len;have hmk:∀ W:World,(Instr.makeSlice 165 (.int .i64 ((X.N:Int) + 1)) (.int .i64 ((X.N:Int) + 1))).run Tryz.prog W = .ok (SL W.heap.size (X.N + 1)) (W.alloc (.cells (bcn (X.N + 1) fun _=>false) 4)):=fun W=>by
  have:=make_row (X.N + 1) (by omega) W
  rwa [show ((X.N + 1:Nat):Int) = (X.N:Int) + 1 from by omega] at this
 have HLEN:=Hd hlen;have HFr:=Hd HF;(have hwN:IntKind.i64.wrap ((X.N:Int) + 1) = (X.N:Int) + 1:=by rw [IntKind.wrap_i64];omega);have HA:=Hd (lk_start hM ia i);have HLK:=Hd hlook;have hpr:∀ k,pr k -> k < w.heap.size:=hM.lt;have HPR:=Hd hpr;have HX:=Hd hX;have HAT:=Hd ha;have HIA:=Hd hia;(have hi0:(0:Int) <= (i:Int):=by omega);(have hi1:(i:Int) < (X.N:Int) + 1:=by omega);(have ha0:(0:Int) <= (ia:Int):=by omega);(have ha1:(ia:Int) < (X.l.length:Int):=by omega);have HNB:=Hd hN;have HBASE:=Hd hM.bel.size;clear HF hlook hpr hX ha hia hN hM hil;go_enter Tryz.func102,Tryz.ntmps102;rw [show Code.region 7 = Fz 7 from rfl];go_wp2;(refine Tk.g (fun w'=>LK X w ia i w') (by exact HA.out.1) fun hH=>?_);(have hs1:((w.alloc (.cells #[E (ia:Nat),E (i:Nat)] 198)).drew).heap.size = w.heap.size + 1:=by show (w.alloc _).heap.size = _;simp);generalize World.drew _ = W1 at HA hH hs1 ⊢;refine Tk.t 0 ?_;refine Tk.t 1 ?_;refine Tk.t 2 ?_;refine Tk.t 3 ?_;refine Tk.t 4 ?_;refine Tk.t 5 (hy:=by (intro wv hSw;(try dsimp only at hSw);obtain ⟨q0,q1,q2,q3⟩:=hSw;have q4:=HLK.out _ q3;go_simp) <;> with_reducible rfl) ?_;refine Tk.t 6 ?_;refine Tk.t 7 ?_;refine Tk.t 8 ?_;refine Tk.t 9 ?_;refine Tk.t 10 ?_;refine Tk.d ?_;clear hH;obtain ⟨HLW,HMW,HKW,HKM,HBW⟩:=HA.out;have HFS:=Hd (fs_start HMW HPR.out hs1 HKW HKM ⟨6,z,(a:Nat),(b:Nat),mn,mx,m⟩ HBASE.out);have hbm0:=lt_heap' HMW.hb;rw [hs1] at hbm0;have hbm:=hbm0;(have hbm2:X.bm < w.heap.size + 1 + 1:=by omega);obtain ⟨c0,c1,c2,c3,c4⟩:=HMW.facts;rw [hv] at c0;obtain ⟨q0,q1,q2,q3,q4,q5,q6,q7,q8,q9⟩:=HNB.out.below HBW;(have hnb0:nb < w.heap.size + 1:=by have:=lt_cell q0;rw [hs1] at this;exact this);have hnb:=hnb0;(have hnb2:nb < w.heap.size + 1 + 1:=by omega);clear HLW HMW HKW HKM HBW HA;go_wp2;refine at_world (p:=fun W=>FS X pr w ia i ⟨6,z,(a:Nat),(b:Nat),mn,mx,m⟩ (fun _=>false) W) HFS.out (fun W hW=>?_);have HS1:=Hd hW;clear hW HFS c0 c1 c2 c3 c4 q0 q1 q2 q3 q4 q5 q6 q7 q8 q9 hbm hnb hbm0 hbm2 hnb0 hnb2 hs1 hmk W1;rw [show Fz 7 = Code.region 7 from rfl];obtain ⟨⟨xk0,xk1⟩,xb,x0,x1,x2,x3,x4,x5,x6,x7,x8,x9⟩:=HS1.out.cells;(try dsimp only at x0 x1 x2 x3 x4 x5 x6 x7 x8 x9);obtain ⟨xm0,xm1,xm2,xm3,xm4⟩:=HS1.out.mm.facts;go_wp2_with (go_at_call 131;have hq:=times_any X HX.out y a HFr.out ⟨6,z,(a:Nat),(b:Nat),mn,mx,m⟩ rfl i hi _ _ HS1.out.mm (w.heap.size + 1) HS1.out.rb (Or.inr (by simp)) (by have:=HBASE.out;omega);refine hq.mono ?_;clear hq;rintro e w2 ⟨rfl,hr,hm,hk⟩;have HS2:=Hd (HS1.out.times hr hm hk);clear hr hm hk);clear xk0 xk1 xb x0 x1 x2 x3 x4 x5 x6 x7 x8 x9 xm0 xm1 xm2 xm3 xm4;have HSd:=Hd (HS2.out.below (Below.refl _ _).drew);(refine Tk.g (fun w'=>LQ X w ia i w') (by exact HSd.out.lq) fun hH=>?_);generalize World.drew _ = W3 at HSd hH ⊢;refine Tk.t 0 ?_;refine Tk.t 1 ?_;refine Tk.t 2 ?_;refine Tk.t 3 ?_;refine Tk.t 4 ?_;refine Tk.t 5 ?_;obtain ⟨w9,hlq,hrun,hmm,hkm,hrb,hbx⟩:=HSd.out.store HX.out HPR.out HAT.out HIA.out (by intro j _;rw [hxe];rfl);have HL9:=Hd hlq;have H9:=Hd (An hmm (An hkm hrb));clear hlq hmm hkm hrb;refine Tk.o 6 (fun K hK=>?_);go_simp;refine hK.out _ _ ?_ (fun hH=>Tk.w ?_)
 · (exact HL9.out)
 clear hK K;refine Tk.d ?_;clear hH hrun HSd HL9;go_wp2;go_ret;exact ⟨w.heap.size + 1,rfl,H9.out.2.2,fun q=>by have:=HPR.out _ q;omega,H9.out.1,H9.out.2.1⟩
theorem frm_hit (X:Par) (hX:X.Ok) (x:Tr) (o:Nat) (ha:At X.l x o) (ia:Nat) (hia:ia = o + x.size - 1) (pr:Nat -> Prop) (i:Nat) (hi:i <= X.N) (w:World) (hM:MM X pr w) (g0:Nat) (hg0:RB w g0 (X.N + 1) (endsP X.T x i)) (hng:¬ pr g0)
  (hlook:∀ w':World,w'.heap[X.b1]? = w.heap[X.b1]? -> (Instr.lookup 124 (.map (some X.b1)) (PK ia i) true).run Tryz.prog w' = .ok (.tuple #[SL g0 (X.N + 1),.bool true]) w')  :
  Calls Tryz.prog 102 #[PT X.bm,E (ia:Nat),E (i:Nat)] w (FromAns X pr w (endsP X.T x i)):=by
 have HA:=Hd (lk_start hM ia i);have HLK:=Hd hlook;have HG:=Hd hg0;have HNG:=Hd hng;clear hlook hg0 hng hM hX ha hia;go_enter Tryz.func102,Tryz.ntmps102;go_wp2;(refine Tk.g (fun w'=>LK X w ia i w') (by exact HA.out.1) fun hH=>?_);generalize World.drew _ = W1 at HA hH ⊢;refine Tk.t 0 ?_;refine Tk.t 1 ?_;refine Tk.t 2 ?_;refine Tk.t 3 ?_;refine Tk.t 4 ?_;refine Tk.t 5 (hy:=by (intro wv hSw;(try dsimp only at hSw);obtain ⟨q0,q1,q2,q3⟩:=hSw;have q4:=HLK.out _ q3;go_simp) <;> with_reducible rfl) ?_;refine Tk.t 6 ?_;refine Tk.t 7 ?_;refine Tk.t 8 ?_;refine Tk.t 9 ?_;refine Tk.t 10 ?_;refine Tk.d ?_;clear hH;obtain ⟨HLW,HMW,HKW,HKM,HBW⟩:=HA.out;have HR:=Hd (HG.out.keep (HBW.block _ HG.out.lt));have HM2:=Hd HMW;have HK2:=Hd HKM;clear HLW HMW HKW HKM HBW HA HG;go_wp2;go_ret;exact ⟨g0,rfl,HR.out,HNG.out,HM2.out,HK2.out⟩
theorem from_all (X:Par) (hX:X.Ok):∀ (x:Tr) (o:Nat),At X.l x o -> refsT x = 0 -> SetsOk x -> FromOk X x (o + x.size - 1):=by
 intro x
 induction x with
 | e =>
  intro o ha hr hs pr i w hi hM;have hsp:=size_pos Tr.e;obtain ⟨v,b,hlook,hb⟩:=hM.look1 ha hsp i;obtain ⟨nb,no,cap,hv,hlt,hN⟩:=hM.node hX ha;rcases hb with ⟨rfl,rfl⟩ | ⟨rfl,g,rfl,h1,h2⟩
  · exact frm_0 X hX _ o ha _ rfl pr i hi w hM nb no cap hv hlt z4 0 0 0 0 0 hN hlook rfl
  · exact frm_hit X hX _ o ha _ rfl pr i hi w hM g h1 h2 hlook
 | set s =>
  intro o ha hr hs pr i w hi hM;have hsp:=size_pos (Tr.set s);obtain ⟨v,b,hlook,hb⟩:=hM.look1 ha hsp i;obtain ⟨nb,no,cap,hv,hlt,hN⟩:=hM.node hX ha;rcases hb with ⟨rfl,rfl⟩ | ⟨rfl,g,rfl,h1,h2⟩
  · exact frm_1 X hX _ o ha _ rfl pr i hi w hM nb no cap hv hlt s 0 0 0 0 0 hN hlook hs rfl
  · exact frm_hit X hX _ o ha _ rfl pr i hi w hM g h1 h2 hlook
 | beg =>
  intro o ha hr hs pr i w hi hM;have hsp:=size_pos Tr.beg;obtain ⟨v,b,hlook,hb⟩:=hM.look1 ha hsp i;obtain ⟨nb,no,cap,hv,hlt,hN⟩:=hM.node hX ha;rcases hb with ⟨rfl,rfl⟩ | ⟨rfl,g,rfl,h1,h2⟩
  · exact frm_2 X hX _ o ha _ rfl pr i hi w hM nb no cap hv hlt z4 0 0 0 0 0 hN hlook rfl
  · exact frm_hit X hX _ o ha _ rfl pr i hi w hM g h1 h2 hlook
 | fin =>
  intro o ha hr hs pr i w hi hM;have hsp:=size_pos Tr.fin;obtain ⟨v,b,hlook,hb⟩:=hM.look1 ha hsp i;obtain ⟨nb,no,cap,hv,hlt,hN⟩:=hM.node hX ha;rcases hb with ⟨rfl,rfl⟩ | ⟨rfl,g,rfl,h1,h2⟩
  · exact frm_3 X hX _ o ha _ rfl pr i hi w hM nb no cap hv hlt z4 0 0 0 0 0 hN hlook rfl
  · exact frm_hit X hX _ o ha _ rfl pr i hi w hM g h1 h2 hlook
 | cat x y ihx ihy =>
  intro o ha hr hs pr i w hi hM;have hsp:=size_pos (Tr.cat x y);obtain ⟨v,b,hlook,hb⟩:=hM.look1 ha hsp i;obtain ⟨nb,no,cap,hv,hlt,hN⟩:=hM.node hX ha;rcases hb with ⟨rfl,rfl⟩ | ⟨rfl,g,rfl,h1,h2⟩
  · have h3:=ihx o (at_left ha (r:=_ ++ _) (by rw [<- List.append_assoc];rfl)) (by simp only [refsT] at hr;omega) hs.1;have h4:=ihy (o + x.size) (at_right ha (by rw [<- List.append_assoc];rfl)) (by simp only [refsT] at hr;omega) hs.2;exact frm_4 X hX _ o ha _ rfl pr i hi w hM nb no cap hv hlt z4 _ _ 0 0 0 hN hlook x y h3 h4 rfl
  · exact frm_hit X hX _ o ha _ rfl pr i hi w hM g h1 h2 hlook
 | alt x y ihx ihy =>
  intro o ha hr hs pr i w hi hM;have hsp:=size_pos (Tr.alt x y);obtain ⟨v,b,hlook,hb⟩:=hM.look1 ha hsp i;obtain ⟨nb,no,cap,hv,hlt,hN⟩:=hM.node hX ha;rcases hb with ⟨rfl,rfl⟩ | ⟨rfl,g,rfl,h1,h2⟩
  · have h3:=ihx o (at_left ha (r:=_ ++ _) (by rw [<- List.append_assoc];rfl)) (by simp only [refsT] at hr;omega) hs.1;have h4:=ihy (o + x.size) (at_right ha (by rw [<- List.append_assoc];rfl)) (by simp only [refsT] at hr;omega) hs.2;exact frm_5 X hX _ o ha _ rfl pr i hi w hM nb no cap hv hlt z4 _ _ 0 0 0 hN hlook x y h3 h4 rfl
  · exact frm_hit X hX _ o ha _ rfl pr i hi w hM g h1 h2 hlook
 | times mn mx x ihx =>
  intro o ha hr hs pr i w hi hM;have hsp:=size_pos (Tr.times mn mx x);obtain ⟨v,b,hlook,hb⟩:=hM.look1 ha hsp i;obtain ⟨nb,no,cap,hv,hlt,hN⟩:=hM.node hX ha;rcases hb with ⟨rfl,rfl⟩ | ⟨rfl,g,rfl,h1,h2⟩
  · have h3:=ihx o (at_left ha rfl) (by simp only [refsT] at hr;omega) hs;exact frm_6 X hX _ o ha _ rfl pr i hi w hM nb no cap hv hlt z4 _ 0 mn mx 0 hN hlook x h3 rfl
  · exact frm_hit X hX _ o ha _ rfl pr i hi w hM g h1 h2 hlook
 | grp n x ihx =>
  intro o ha hr hs pr i w hi hM;have hsp:=size_pos (Tr.grp n x);obtain ⟨v,b,hlook,hb⟩:=hM.look1 ha hsp i;obtain ⟨nb,no,cap,hv,hlt,hN⟩:=hM.node hX ha;rcases hb with ⟨rfl,rfl⟩ | ⟨rfl,g,rfl,h1,h2⟩
  · have h3:=ihx o (at_left ha rfl) (by simp only [refsT] at hr;omega) hs;exact frm_7 X hX _ o ha _ rfl pr i hi w hM nb no cap hv hlt z4 _ 0 0 0 n hN hlook x h3 n rfl
  · exact frm_hit X hX _ o ha _ rfl pr i hi w hM g h1 h2 hlook
 | ref n=>intro o ha hr;simp [refsT] at hr
abbrev SD (p c k:Nat) (a:Caps):Value:=.agg #[E (p:Nat),E (c:Nat),E (k:Nat),capV (gr a 0),capV (gr a 1),capV (gr a 2),capV (gr a 3),capV (gr a 4),capV (gr a 5),capV (gr a 6),capV (gr a 7),capV (gr a 8),capV (gr a 9)]
theorem km_kb {X:Par} {w W w2:World} {s:Nat} (hb:Below w.heap.size w W /\ w.heap.size <= s) (hk:Kb X s W w2):Km X w w2 :=
 ⟨Nat.le_trans hb.1.size hk.size,fun k h1 h2 h3=>(hk.keep k (Nat.lt_of_lt_of_le h1 hb.1.size) h2 h3 (by omega)).trans (hb.1.block k h1)⟩
theorem four_start {X:Par} {pr:Nat -> Prop} {w:World} (hM:MM X pr w) (A B C:Obj) :
  MM X (Pv pr [w.heap.size + 1 + 1 + 1]) ((((w.alloc A).alloc B).alloc C).alloc (.cells (bcn (X.N + 1) fun _=>false) 4)) /\ RB ((((w.alloc A).alloc B).alloc C).alloc (.cells (bcn (X.N + 1) fun _=>false) 4)) (w.heap.size + 1 + 1 + 1) (X.N + 1) (fun _=>false) /\
  (Below w.heap.size w ((((w.alloc A).alloc B).alloc C).alloc (.cells (bcn (X.N + 1) fun _=>false) 4)) /\ w.heap.size <= w.heap.size + 1 + 1 + 1):=by
 have hb:=((((Below.refl w.heap.size w).alloc (Nat.le_refl _) A).alloc (by simp) B).alloc (by simp;omega) C).alloc (by simp;omega) (.cells (bcn (X.N + 1) fun _=>false) 4);(have hs:((((w.alloc A).alloc B).alloc C).alloc (.cells (bcn (X.N + 1) fun _=>false) 4)).heap.size = w.heap.size + 4:=by simp);refine ⟨hM.hide ?_ hb ?_,?_,hb,by omega⟩
 ·
  rintro k (q | q)
  · exact Or.inl q
  · simp only [List.mem_cons,List.not_mem_nil,or_false] at q;exact Or.inr (by omega)
 ·
  rintro k (q | q)
  · have:=hM.lt k q;omega
  · simp only [List.mem_cons,List.not_mem_nil,or_false] at q;omega
 ·
  have:=heap_alloc_new (((w.alloc A).alloc B).alloc C) (.cells (bcn (X.N + 1) fun _=>false) 4)
  rwa [show (((w.alloc A).alloc B).alloc C).heap.size = w.heap.size + 1 + 1 + 1 by simp] at this
theorem reaches_refs (X:Par) (hrf:X.refs = true) (pr:Nat -> Prop) (nd:Nd) (p c k:Nat) (a:Caps) (j:Nat) (w:World) (hM:MM X pr w) :
  Calls Tryz.prog 154 #[PT X.bm,NV nd,SD p c k a,E (j:Nat)] w fun e w'=>e = .returned (.bool true) /\ Below w.heap.size w w':=by
 obtain ⟨c0,c1,c2,c3,c4⟩:=hM.facts;rw [hrf] at c2;have hbm:=lt_heap' hM.hb;(have hbm2:X.bm < w.heap.size + 1:=by omega);generalize capV (gr a 0) = a0 at *;generalize capV (gr a 1) = a1 at *;generalize capV (gr a 2) = a2 at *;generalize capV (gr a 3) = a3 at *;generalize capV (gr a 4) = a4 at *;generalize capV (gr a 5) = a5 at *;generalize capV (gr a 6) = a6 at *;generalize capV (gr a 7) = a7 at *;generalize capV (gr a 8) = a8 at *;generalize capV (gr a 9) = a9 at *;have HB:=Hd (fun (A B:Obj)=>((Below.refl w.heap.size w).alloc (Nat.le_refl _) A).alloc (by simp) B);clear hM;go_enter Tryz.func154,Tryz.ntmps154;go_wp2;go_ret;exact ⟨rfl,HB.out _ _⟩
theorem reaches_no (X:Par) (hX:X.Ok) (hrf:X.refs = false) (x:Tr) (ia:Nat) (HF:FromOk X x ia) (pr:Nat -> Prop) (nd:Nd) (hna:nd.a = ((ia:Nat):Int)) (hmn0:0 <= nd.mn) (hmn1:nd.mn <= 255) (hmx0:-1 <= nd.mx) (hmx1:nd.mx <= 255) (p c k:Nat) (hp:p <= X.N) (hc:c <= 200000) (a:Caps) (j:Nat) (hj:j <= X.N) (w:World) (hM:MM X pr w) :
  Calls Tryz.prog 154 #[PT X.bm,NV nd,SD p c k a,E (j:Nat)] w fun e w'=>e = .returned (.bool (timesB (endsP X.T x) (max 0 (nd.mn - c)) (if nd.mx = -1 then -1 else nd.mx - c) X.N p j)) /\ MM X pr w' /\ Km X w w':=by
 obtain ⟨c0,c1,c2,c3,c4⟩:=hM.facts;rw [hrf] at c2;have hbm:=lt_heap' hM.hb;(have hbm2:X.bm < w.heap.size + 1:=by omega);(have hbm3:X.bm < w.heap.size + 1 + 1:=by omega);(have hbm4:X.bm < w.heap.size + 1 + 1 + 1:=by omega);have hlen:=hX.len;have hmk:∀ W:World,(Instr.makeSlice 165 (.int .i64 ((X.N:Int) + 1)) (.int .i64 ((X.N:Int) + 1))).run Tryz.prog W = .ok (SL W.heap.size (X.N + 1)) (W.alloc (.cells (bcn (X.N + 1) fun _=>false) 4)):=fun W=>by
  have:=make_row (X.N + 1) (by omega) W
  rwa [show ((X.N + 1:Nat):Int) = (X.N:Int) + 1 from by omega] at this
 (have hwN:IntKind.i64.wrap ((X.N:Int) + 1) = (X.N:Int) + 1:=by rw [IntKind.wrap_i64];omega);(have hw1:IntKind.i64.wrap (nd.mn - (c:Int)) = nd.mn - (c:Int):=by rw [IntKind.wrap_i64];omega);(have hw2:IntKind.i64.wrap (nd.mx - (c:Int)) = nd.mx - (c:Int):=by rw [IntKind.wrap_i64];omega);have HX:=Hd hX;have HFr:=Hd HF;have HM:=Hd hM;(have hj0:(0:Int) <= (j:Int):=by omega);(have hj1:(j:Int) < (X.N:Int) + 1:=by omega);generalize hq0:capV (gr a 0) = a0 at *;generalize hq1:capV (gr a 1) = a1 at *;generalize hq2:capV (gr a 2) = a2 at *;generalize hq3:capV (gr a 3) = a3 at *;generalize hq4:capV (gr a 4) = a4 at *;generalize hq5:capV (gr a 5) = a5 at *;generalize hq6:capV (gr a 6) = a6 at *;generalize hq7:capV (gr a 7) = a7 at *;generalize hq8:capV (gr a 8) = a8 at *;generalize hq9:capV (gr a 9) = a9 at *;clear hq0 hq1 hq2 hq3 hq4 hq5 hq6 hq7 hq8 hq9;have HQ:=Hd (fun (A B C:Obj)=>four_start HM.out A B C);have HBS:=Hd (show X.w0.heap.size <= w.heap.size + 1 + 1 + 1 from by have:=HM.out.bel.size;omega);have HNA:=Hd hna;clear hM hX HF hmn0 hmn1 hna;go_enter Tryz.func154,Tryz.ntmps154;by_cases hmx:nd.mx = -1
 · rw [if_pos hmx];go_wp2_with (go_at_call 131;obtain ⟨hm,hr,hb⟩:=HQ.out _ _ _;have hq:=times_any X HX.out x ia HFr.out ⟨6,z4,nd.a,0,max 0 (nd.mn - (c:Int)),(-1),0⟩ HNA.out p hp _ _ hm _ hr (Or.inr (by simp)) HBS.out;refine hq.mono ?_;clear hq;rintro e w2 ⟨rfl,hr2,hm2,hk⟩;have HR:=Hd hr2;have hcl:=hr2.cell (i:=j) (by omega);have HM2:=Hd (An (hm2.mono fun k hk=>Or.inl hk) (km_kb hb hk));clear hm hr hb hr2 hm2 hk);go_ret;exact ⟨rfl,HM2.out.1,HM2.out.2⟩
 · rw [if_neg hmx];go_wp2_with (go_at_call 131;obtain ⟨hm,hr,hb⟩:=HQ.out _ _ _;have hq:=times_any X HX.out x ia HFr.out ⟨6,z4,nd.a,0,max 0 (nd.mn - (c:Int)),(nd.mx - (c:Int)),0⟩ HNA.out p hp _ _ hm _ hr (Or.inr (by simp)) HBS.out;refine hq.mono ?_;clear hq;rintro e w2 ⟨rfl,hr2,hm2,hk⟩;have HR:=Hd hr2;have hcl:=hr2.cell (i:=j) (by omega);have HM2:=Hd (An (hm2.mono fun k hk=>Or.inl hk) (km_kb hb hk));clear hm hr hb hr2 hm2 hk);go_ret;exact ⟨rfl,HM2.out.1,HM2.out.2⟩
structure Std where
 p:Nat
 c:Nat
 k:Nat
 a:Caps
section
variable {f:Nat -> Nat -> Caps -> Option Caps} {mn mx:Int} {j:Nat}
def ansS (f:Nat -> Nat -> Caps -> Option Caps) (mn mx:Int) (j:Nat) (s:Std):Option Caps :=
 if s.p = j then (if mn <= (s.c:Int) then some s.a else f j j s.a)
 else if mx ≠ -1 /\ mx <= (s.c:Int) then none
 else if s.k <= s.p then none
 else down (fun q=>(f s.p q s.a).bind fun a=>timesP f mn mx j (j - q) q (s.c + 1) a) (s.p + 1) (s.k - s.p - 1)
def resS (f:Nat -> Nat -> Caps -> Option Caps) (mn mx:Int) (j:Nat) (l:List Std):Option Caps:=l.foldl (fun acc s=>(ansS f mn mx j s).or acc) none
theorem resS_push (r:List Std) (s:Std):resS f mn mx j (r ++ [s]) = (ansS f mn mx j s).or (resS f mn mx j r):=by
 unfold resS;rw [List.foldl_append];rfl
theorem ansS_new (p c:Nat) (a:Caps) (hp:p <= j):ansS f mn mx j ⟨p,c,j,a⟩ = timesP f mn mx j (j - p) p c a:=by
 conv=>rhs;unfold timesP
 unfold ansS;dsimp only;by_cases h1:p = j
 · rw [if_pos h1,if_pos h1]
 ·
  rw [if_neg h1,if_neg h1];by_cases h2:mx ≠ -1 /\ mx <= (c:Int)
  · rw [if_pos h2,if_pos h2]
  ·
   rw [if_neg h2,if_neg h2,if_neg (by omega)];obtain ⟨n,hn⟩:∃ n,j - p = n + 1:=⟨j - p - 1,by omega⟩;rw [hn];dsimp only;(refine down_congr fun q h3 h4=>?_);cases f p q a with
   | none=>rfl
   | some x=>exact times_fuel (f:=f) (mn:=mn) (mx:=mx) (j:=j) (j - q) n q (c + 1) x (by omega) (by omega) (by omega)
theorem ansS_at (c k:Nat) (a:Caps) (h:mn <= (c:Int)):ansS f mn mx j ⟨j,c,k,a⟩ = some a:=by
 unfold ansS;rw [if_pos rfl,if_pos h]
theorem ansS_one (c k:Nat) (a:Caps) (h:¬ mn <= (c:Int)):ansS f mn mx j ⟨j,c,k,a⟩ = f j j a:=by
 unfold ansS;rw [if_pos rfl,if_neg h]
theorem ansS_most (p c k:Nat) (a:Caps) (h1:p ≠ j) (h2:mx ≠ -1 /\ mx <= (c:Int)):ansS f mn mx j ⟨p,c,k,a⟩ = none:=by
 unfold ansS;rw [if_neg h1,if_pos h2]
theorem ansS_done (p c k:Nat) (a:Caps) (h1:p ≠ j) (h3:k <= p):ansS f mn mx j ⟨p,c,k,a⟩ = none:=by
 unfold ansS;dsimp only;rw [if_neg h1];by_cases h2:mx ≠ -1 /\ mx <= (c:Int)
 · rw [if_pos h2]
 · rw [if_neg h2,if_pos h3]
theorem ansS_step (p c k:Nat) (a:Caps) (h1:p ≠ j) (h2:¬ (mx ≠ -1 /\ mx <= (c:Int))) (h3:p < k) (h4:k <= j) :
  ansS f mn mx j ⟨p,c,k,a⟩ = match f p k a with
   | some x=>(ansS f mn mx j ⟨k,c + 1,j,x⟩).or (ansS f mn mx j ⟨p,c,k - 1,a⟩)
   | none=>ansS f mn mx j ⟨p,c,k - 1,a⟩:=by
 have hg:(fun q=>(f p q a).bind fun a=>timesP f mn mx j (j - q) q (c + 1) a) k = (f p k a).bind fun x=>ansS f mn mx j ⟨k,c + 1,j,x⟩:=by
  dsimp only;cases f p k a with
  | none=>rfl
  | some x=>exact (ansS_new k (c + 1) x h4).symm
 obtain ⟨n,rfl⟩:∃ n,k = p + 1 + n:=⟨k - p - 1,by omega⟩;have e1:ansS f mn mx j ⟨p,c,p + 1 + n,a⟩ = down (fun q=>(f p q a).bind fun a=>timesP f mn mx j (j - q) q (c + 1) a) (p + 1) n:=by
  unfold ansS;rw [if_neg h1,if_neg h2,if_neg (by dsimp only;omega)];dsimp only;rw [show p + 1 + n - p - 1 = n by omega]
 rw [e1];cases n with
 | zero =>
  rw [ansS_done p c (p + 1 + 0 - 1) a h1 (by omega)];show (fun q=>(f p q a).bind fun a=>timesP f mn mx j (j - q) q (c + 1) a) (p + 1 + 0) = _;rw [hg];cases f p (p + 1 + 0) a with
  | none=>rfl
  | some x=>simp
 | succ m =>
  have e2:ansS f mn mx j ⟨p,c,p + 1 + (m + 1) - 1,a⟩ = down (fun q=>(f p q a).bind fun a=>timesP f mn mx j (j - q) q (c + 1) a) (p + 1) m:=by
   unfold ansS;rw [if_neg h1,if_neg h2,if_neg (by dsimp only;omega)];dsimp only;rw [show p + 1 + (m + 1) - 1 - p - 1 = m by omega]
  rw [e2];have e3:∀ (F:Nat -> Option Caps) (b n:Nat),down F b (n + 1) = match F (b + n + 1) with
    | some a=>some a
    | none=>down F b n:=fun F b n=>by rw [down];cases F (b + n + 1) <;> rfl
  dsimp only at hg;rw [e3,show p + 1 + m + 1 = p + 1 + (m + 1) by omega];(try dsimp only);rw [hg];cases f p (p + 1 + (m + 1)) a with
  | none=>rfl
  | some x =>
   cases hx:ansS f mn mx j ⟨p + 1 + (m + 1),c + 1,j,x⟩ with
   | none=>simp [hx]
   | some y=>simp [hx]
def muN (j p:Nat):Nat -> Nat
 | 0=>1
 | n + 1=>muN j p n + 2 ^ (j - (p + n + 1) + 1)
def mu (j:Nat) (s:Std):Nat:=muN j s.p (s.k - s.p)
def muL (j:Nat) (l:List Std):Nat:=(l.map (mu j)).sum
theorem muL_push (r:List Std) (s:Std):muL j (r ++ [s]) = muL j r + mu j s:=by simp [muL]
theorem muN_pos (p n:Nat):1 <= muN j p n:=by
 induction n with
 | zero=>exact Nat.le_refl _
 | succ m ih=>exact Nat.le_trans ih (Nat.le_add_right _ _)
theorem mu_pos (s:Std):1 <= mu j s:=muN_pos _ _
theorem muN_sum (p:Nat):∀ n,p + n <= j -> muN j p n + 2 ^ (j - (p + n) + 1) = 1 + 2 ^ (j - p + 1)
 | 0,_=>rfl
 | n + 1,h=>by
  have ih:=muN_sum p n (by omega);(have e:j - (p + n) + 1 = j - (p + n + 1) + 1 + 1:=by omega);rw [e,Nat.pow_succ] at ih;unfold muN;rw [show p + (n + 1) = p + n + 1 by omega];omega
theorem mu_down (p c k:Nat) (a:Caps) (h3:p < k):mu j ⟨p,c,k - 1,a⟩ <= mu j ⟨p,c,k,a⟩:=by
 unfold mu;dsimp only;obtain ⟨n,hn⟩:∃ n,k - p = n + 1:=⟨k - p - 1,by omega⟩;rw [hn,show k - 1 - p = n by omega];exact Nat.le_add_right _ _
theorem mu_step (p c k:Nat) (a x:Caps) (h3:p < k) (h4:k <= j):mu j ⟨p,c,k - 1,a⟩ + mu j ⟨k,c + 1,j,x⟩ < mu j ⟨p,c,k,a⟩:=by
 unfold mu;dsimp only;obtain ⟨n,hn⟩:∃ n,k - p = n + 1:=⟨k - p - 1,by omega⟩;have e:=muN_sum (j:=j) k (j - k) (by omega);rw [show j - (k + (j - k)) + 1 = 1 by omega] at e;rw [hn,show k - 1 - p = n by omega];have e2:muN j p (n + 1) = muN j p n + 2 ^ (j - k + 1):=by
  show muN j p n + 2 ^ (j - (p + n + 1) + 1) = _;rw [show p + n + 1 = k by omega]
 omega
end
def flatS (l:List Std):List Value:=l.flatMap fun s=>[E (s.p:Nat),E (s.c:Nat),E (s.k:Nat),capV (gr s.a 0),capV (gr s.a 1),capV (gr s.a 2),capV (gr s.a 3),capV (gr s.a 4),capV (gr s.a 5),capV (gr s.a 6),capV (gr s.a 7),capV (gr s.a 8),capV (gr s.a 9)]
theorem flatS_len (l:List Std):(flatS l).length = l.length * 13:=by
 induction l with
 | nil=>rfl
 | cons s r ih=>rw [show flatS (s :: r) = [E (s.p:Nat),E (s.c:Nat),E (s.k:Nat),capV (gr s.a 0),capV (gr s.a 1),capV (gr s.a 2),capV (gr s.a 3),capV (gr s.a 4),capV (gr s.a 5),capV (gr s.a 6),capV (gr s.a 7),capV (gr s.a 8),capV (gr s.a 9)] ++ flatS r from rfl,List.length_append,ih];simp;omega
theorem flatS_push (r:List Std) (s:Std):flatS (r ++ [s]) = flatS r ++ [E (s.p:Nat),E (s.c:Nat),E (s.k:Nat),capV (gr s.a 0),capV (gr s.a 1),capV (gr s.a 2),capV (gr s.a 3),capV (gr s.a 4),capV (gr s.a 5),capV (gr s.a 6),capV (gr s.a 7),capV (gr s.a 8),capV (gr s.a 9)]:=by
 unfold flatS;rw [List.flatMap_append];simp
def SR (w:World) (B g cap:Nat) (l:List Std):Prop:=w.ownsRow B 234 13 (.slice (some ⟨g,0,none⟩) l.length cap) l.length (flatS l)
theorem SR.parts {w:World} {B g cap:Nat} {l:List Std} (h:SR w B g cap l):∃ cur,B <= g /\ w.heap[g]? = some (.cells cur 234 (0,0)) /\ l.length <= cap /\ cap <= maxLen /\ cur.size = cap * 13 /\ cur.toList.take (l.length * 13) = flatS l:=by
 rcases h.2 with ⟨h1,_⟩ | ⟨g',cap',cur,hv,h2,h3,h4,h5,h6,h7⟩
 · cases h1
 · simp only [Value.slice.injEq,Option.some.injEq,Addr.mk.injEq,and_true,true_and] at hv;obtain ⟨rfl,rfl⟩:=hv;exact ⟨cur,h2,h3,h4,h5,h6,h7⟩
theorem SR.of {w:World} {B g cap:Nat} {l:List Std} {cur:Array Value} (h2:B <= g) (h3:w.heap[g]? = some (.cells cur 234 (0,0))) (h4:l.length <= cap) (h5:cap <= maxLen) (h6:cur.size = cap * 13) (h7:cur.toList.take (l.length * 13) = flatS l):SR w B g cap l :=
 ⟨flatS_len l,Or.inr ⟨g,cap,cur,rfl,h2,h3,h4,h5,h6,h7⟩⟩
theorem SR.keep {w w':World} {B g cap:Nat} {l:List Std} (h:SR w B g cap l) (hk:w'.heap[g]? = w.heap[g]?):SR w' B g cap l:=by
 obtain ⟨cur,h2,h3,h4,h5,h6,h7⟩:=h.parts;exact SR.of h2 (hk.trans h3) h4 h5 h6 h7
theorem SR.lt {w:World} {B g cap:Nat} {l:List Std} (h:SR w B g cap l):g < w.heap.size:=by
 obtain ⟨cur,h2,h3,_⟩:=h.parts;exact lt_heap' h3
theorem SR.pop {w:World} {B g cap:Nat} {r:List Std} {s:Std} (h:SR w B g cap (r ++ [s])):SR w B g cap r:=by
 obtain ⟨cur,h2,h3,h4,h5,h6,h7⟩:=h.parts;rw [List.length_append,List.length_singleton] at h4 h7;refine SR.of h2 h3 (by omega) h5 h6 ?_;rw [flatS_push] at h7;have e:=congrArg (List.take (r.length * 13)) h7;rw [List.take_take,Nat.min_eq_left (by omega)] at e;rw [e,List.take_append_of_le_length (by rw [flatS_len];exact Nat.le_refl _)];exact List.take_of_length_le (by rw [flatS_len];exact Nat.le_refl _)
theorem SR.cell {w:World} {B g cap:Nat} {r:List Std} {s:Std} (h:SR w B g cap (r ++ [s])) (q:Nat) (u:Value) (hq:[E (s.p:Nat),E (s.c:Nat),E (s.k:Nat),capV (gr s.a 0),capV (gr s.a 1),capV (gr s.a 2),capV (gr s.a 3),capV (gr s.a 4),capV (gr s.a 5),capV (gr s.a 6),capV (gr s.a 7),capV (gr s.a 8),capV (gr s.a 9)][q]? = some u):w.cell? ⟨g,r.length * 13 + q,none⟩ = some u:=by
 obtain ⟨cur,h2,h3,h4,h5,h6,h7⟩:=h.parts;have hl:q < 13:=(List.getElem?_eq_some_iff.1 hq).1;rw [Lib.cell_of_heap h3];have e:cur.toList[r.length * 13 + q]? = some u:=by
  rw [<- List.getElem?_take_of_lt (j:=(r ++ [s]).length * 13) (by rw [List.length_append,List.length_singleton];omega),h7,flatS_push,List.getElem?_append_right (by rw [flatS_len];omega),flatS_len,show r.length * 13 + q - r.length * 13 = q by omega];exact hq
 simpa using e
theorem SR.next {w:World} {B g cap:Nat} {r:List Std} {p c k k':Nat} {a:Caps} (h:SR w B g cap (r ++ [⟨p,c,k,a⟩])):SR (w.setCell ⟨g,r.length * 13 + 2,none⟩ (E (k':Nat))) B g cap (r ++ [⟨p,c,k',a⟩]):=by
 obtain ⟨cur,h2,h3,h4,h5,h6,h7⟩:=h.parts;have h8:(w.setCell ⟨g,r.length * 13 + 2,none⟩ (E (k':Nat))).heap[g]? = some (.cells (cur.setIfInBounds (r.length * 13 + 2) (E (k':Nat))) 234 (0,0)):=Go.Joins.block_setCell h3 (i:=r.length * 13 + 2) (E (k':Nat));refine SR.of h2 h8 (by simpa using h4) h5 (by simpa using h6) ?_;rw [Array.toList_setIfInBounds,List.length_append,List.length_singleton];rw [List.length_append,List.length_singleton] at h7;rw [List.take_set,h7,flatS_push,flatS_push,List.set_append_right _ _ (by rw [flatS_len];omega),flatS_len,show r.length * 13 + 2 - r.length * 13 = 2 by omega];rfl
def FitAns (X:Par) (pr:Nat -> Prop) (w:World) (r:Option Caps) (e:Ending) (w':World):Prop :=
 ∃ c' b,e = .returned (.tuple #[CV c',.bool b]) /\ LeftOk X.N r c' b /\ MM X pr w' /\ Km X w w'
def FitOk (X:Par) (x:Tr) (ia:Nat):Prop:=∀ (pr:Nat -> Prop) (i j:Nat) (c:Caps) (w:World),i <= j -> j <= X.N -> CapsOk X.N c -> MM X pr w ->
 Calls Tryz.prog 76 #[PT X.bm,E (ia:Nat),E (i:Nat),E (j:Nat),CV c] w (FitAns X pr w (fitP X.T x i j c))
def LookOk (X:Par) (x:Tr) (ia:Nat):Prop:=∀ (pr:Nat -> Prop) (i j:Nat) (c:Caps) (w:World),i <= j -> j <= X.N -> CapsOk X.N c -> MM X pr w ->
 Calls Tryz.prog 103 #[PT X.bm,E (ia:Nat),E (i:Nat),E (j:Nat),CV c] w (FitAns X pr w (fitP X.T x i j c))
structure TF (X:Par) (pr:Nat -> Prop) (w:World) (c:Caps) (wr:World):Prop where
 mm:MM X (Pv pr [w.heap.size + 1]) wr
 bx:wr.heap[w.heap.size]? = some (.cells (CC c) 34 (0,0))
 rs:wr.heap[w.heap.size + 1]? = some (.cells CZ 34 (0,0))
 km:Km X w wr
 base:X.w0.heap.size <= w.heap.size
theorem two_start {X:Par} {pr:Nat -> Prop} {w:World} (hM:MM X pr w) (A B:Obj):MM X (Pv pr [w.heap.size + 1]) ((w.alloc A).alloc B) /\ Below w.heap.size w ((w.alloc A).alloc B):=by
 have hb:=((Below.refl w.heap.size w).alloc (Nat.le_refl _) A).alloc (by simp) B;(have hs:((w.alloc A).alloc B).heap.size = w.heap.size + 2:=by simp);refine ⟨hM.hide ?_ hb ?_,hb⟩
 ·
  rintro k (q | q)
  · exact Or.inl q
  · simp only [List.mem_cons,List.not_mem_nil,or_false] at q;exact Or.inr (by omega)
 ·
  rintro k (q | q)
  · have:=hM.lt k q;omega
  · simp only [List.mem_cons,List.not_mem_nil,or_false] at q;omega
theorem tf_start {X:Par} {pr:Nat -> Prop} {w:World} (hM:MM X pr w) (c:Caps):TF X pr w c ((w.alloc (.cells (CC c) 34)).alloc (.cells CZ 34)):=by
 obtain ⟨h1,h2⟩:=two_start hM (.cells (CC c) 34) (.cells CZ 34);exact ⟨h1,heap_alloc2_old _ _ _,heap_alloc2_new _ _ _,Km.of_below h2,hM.bel.size⟩
section
variable {X:Par} {pr:Nat -> Prop} {w wr w':World} {c:Caps}
theorem mm_keep {X:Par} {pr:Nat -> Prop} {w w':World} (h:MM X pr w) (hk:Km X w w') {k:Nat} {c:Array Value} {t:TypeId} {fr:Nat × Nat} (hc:w.heap[k]? = some (.cells c t fr)):w'.heap[k]? = some (.cells c t fr):=by
 obtain ⟨es1,c1,a1,_⟩:=h.e1;obtain ⟨es2,c2,a2,_⟩:=h.e2;exact (hk.keep k (lt_heap' hc) (cells_map hc a1) (cells_map hc a2)).trans hc
theorem TF.call (h:TF X pr w c wr) (hm:MM X (Pv pr [w.heap.size + 1]) w') (hk:Km X wr w'):TF X pr w c w' :=
 ⟨hm,mm_keep h.mm hk h.bx,mm_keep h.mm hk h.rs,h.km.trans hk,h.base⟩
theorem TF.below (h:TF X pr w c wr) (hb:Below wr.heap.size wr w'):TF X pr w c w':=h.call (h.mm.below hb) (Km.of_below hb)
theorem cells_apart (h:MM X pr w) {B:Nat} {cs:Array Value} (hr:w.heap[B]? = some (.cells cs 34 (0,0))):B ≠ X.bm /\ B ≠ X.b1 /\ B ≠ X.b2:=by
 obtain ⟨es1,c1,a1,k1⟩:=h.e1;obtain ⟨es2,c2,a2,k2⟩:=h.e2;refine ⟨?_,cells_map hr a1,cells_map hr a2⟩;rintro rfl;have:=h.hb.symm.trans hr;simp only [Option.some.injEq,Obj.cells.injEq] at this;exact absurd this.2.1 (by decide)
theorem TF.ret (h:TF X pr w c wr) (a:Caps):(wr.setRow (w.heap.size + 1) (CC a)).heap[w.heap.size + 1]? = some (.cells (CC a) 34 (0,0)) /\ MM X pr (wr.setRow (w.heap.size + 1) (CC a)) /\ Km X w (wr.setRow (w.heap.size + 1) (CC a)):=by
 have ha:=cells_apart h.mm h.rs;have hb:=below_setRow (B:=X.w0.heap.size) h.mm.bel (g:=w.heap.size + 1) (by have:=h.base;omega) (CC a);(have hk:∀ k,k < wr.heap.size -> k ≠ w.heap.size + 1 -> (wr.setRow (w.heap.size + 1) (CC a)).heap[k]? = wr.heap[k]?:=fun k _ hk=>setRow_other _ _ _ _ hk);refine ⟨setRow_heap _ _ _ _ _ _ h.rs,(h.mm.own (B:=w.heap.size + 1) (Or.inr (by simp)) (by have:=h.base;omega) ha.1 ha.2.1 ha.2.2 (by simp) hk hb).mono fun k hk=>Or.inl hk,⟨by simpa using h.km.size,fun k h1 h2 h3=>(hk k (Nat.lt_of_lt_of_le h1 h.km.size) (by omega)).trans (h.km.keep k h1 h2 h3)⟩⟩
end
abbrev LC (c:Caps) (b:Bool):Array Value:=#[capV (gr c 0),capV (gr c 1),capV (gr c 2),capV (gr c 3),capV (gr c 4),capV (gr c 5),capV (gr c 6),capV (gr c 7),capV (gr c 8),capV (gr c 9),.bool b]
abbrev LZ:Array Value:=#[.complex .f64 0 0,.complex .f64 0 0,.complex .f64 0 0,.complex .f64 0 0,.complex .f64 0 0,.complex .f64 0 0,.complex .f64 0 0,.complex .f64 0 0,.complex .f64 0 0,.complex .f64 0 0,.bool false]
abbrev KC (n i j:Nat) (c:Caps):Array Value:=#[E (n:Nat),E (i:Nat),E (j:Nat),capV (gr c 0),capV (gr c 1),capV (gr c 2),capV (gr c 3),capV (gr c 4),capV (gr c 5),capV (gr c 6),capV (gr c 7),capV (gr c 8),capV (gr c 9)]
theorem cells13 {w:World} {g:Nat} {a0 a1 a2 a3 a4 a5 a6 a7 a8 a9 a10 a11 a12:Value} {t:TypeId} {fr:Nat × Nat} (h:w.heap[g]? = some (.cells #[a0,a1,a2,a3,a4,a5,a6,a7,a8,a9,a10,a11,a12] t fr)) :
  w.cell? ⟨g,0,none⟩ = some a0 /\ w.cell? ⟨g,1,none⟩ = some a1 /\ w.cell? ⟨g,2,none⟩ = some a2 /\ w.cell? ⟨g,3,none⟩ = some a3 /\ w.cell? ⟨g,4,none⟩ = some a4 /\ w.cell? ⟨g,5,none⟩ = some a5 /\ w.cell? ⟨g,6,none⟩ = some a6 /\ w.cell? ⟨g,7,none⟩ = some a7 /\ w.cell? ⟨g,8,none⟩ = some a8 /\ w.cell? ⟨g,9,none⟩ = some a9 /\ w.cell? ⟨g,10,none⟩ = some a10 /\ w.cell? ⟨g,11,none⟩ = some a11 /\ w.cell? ⟨g,12,none⟩ = some a12 :=
 ⟨Lib.cell_of_heap h 0,Lib.cell_of_heap h 1,Lib.cell_of_heap h 2,Lib.cell_of_heap h 3,Lib.cell_of_heap h 4,Lib.cell_of_heap h 5,Lib.cell_of_heap h 6,Lib.cell_of_heap h 7,Lib.cell_of_heap h 8,Lib.cell_of_heap h 9,Lib.cell_of_heap h 10,Lib.cell_of_heap h 11,Lib.cell_of_heap h 12⟩
theorem cells11 {w:World} {g:Nat} {a0 a1 a2 a3 a4 a5 a6 a7 a8 a9 a10:Value} {t:TypeId} {fr:Nat × Nat} (h:w.heap[g]? = some (.cells #[a0,a1,a2,a3,a4,a5,a6,a7,a8,a9,a10] t fr)) :
  w.cell? ⟨g,0,none⟩ = some a0 /\ w.cell? ⟨g,1,none⟩ = some a1 /\ w.cell? ⟨g,2,none⟩ = some a2 /\ w.cell? ⟨g,3,none⟩ = some a3 /\ w.cell? ⟨g,4,none⟩ = some a4 /\ w.cell? ⟨g,5,none⟩ = some a5 /\ w.cell? ⟨g,6,none⟩ = some a6 /\ w.cell? ⟨g,7,none⟩ = some a7 /\ w.cell? ⟨g,8,none⟩ = some a8 /\ w.cell? ⟨g,9,none⟩ = some a9 /\ w.cell? ⟨g,10,none⟩ = some a10 :=
 ⟨Lib.cell_of_heap h 0,Lib.cell_of_heap h 1,Lib.cell_of_heap h 2,Lib.cell_of_heap h 3,Lib.cell_of_heap h 4,Lib.cell_of_heap h 5,Lib.cell_of_heap h 6,Lib.cell_of_heap h 7,Lib.cell_of_heap h 8,Lib.cell_of_heap h 9,Lib.cell_of_heap h 10⟩
def setFrom (cur:Array Value):Nat -> List Value -> Array Value
 | _,[]=>cur
 | o,v :: r=>setFrom (cur.setIfInBounds o v) (o + 1) r
theorem set_cells_block (b:Nat) (t:TypeId):∀ (vs:List Value) (o:Nat) (w:World) (cur:Array Value),w.heap[b]? = some (.cells cur t (0,0)) ->
  (w.setCells b o vs).heap[b]? = some (.cells (setFrom cur o vs) t (0,0)) /\ (w.setCells b o vs).heap.size = w.heap.size /\ ∀ k,k ≠ b -> (w.setCells b o vs).heap[k]? = w.heap[k]?
 | [],o,w,cur,h=>⟨h,rfl,fun _ _=>rfl⟩
 | v :: r,o,w,cur,h=>by
  obtain ⟨h1,h2,h3⟩:=set_cells_block b t r (o + 1) (w.setCell ⟨b,o,none⟩ v) _ (Go.Joins.block_setCell h (i:=o) v);exact ⟨h1,h2.trans (by simp),fun k hk=>(h3 k hk).trans (Below.heap_setCell w ⟨b,o,none⟩ v k hk)⟩
theorem from10 (v0 v1 v2 v3 v4 v5 v6 v7 v8 v9:Value):setFrom LZ 0 [v0,v1,v2,v3,v4,v5,v6,v7,v8,v9] = #[v0,v1,v2,v3,v4,v5,v6,v7,v8,v9,.bool false]:=by
 simp [setFrom,LZ]
theorem set_cells_below {n b:Nat} {w0:World} (hn:n <= b):∀ (vs:List Value) (o:Nat) (w:World),Below n w0 w -> Below n w0 (w.setCells b o vs)
 | [],o,w,h=>h
 | v :: r,o,w,h=>set_cells_below hn r (o + 1) _ (h.setCell hn v)
structure TG (X:Par) (pr:Nat -> Prop) (w:World) (ia i j:Nat) (c:Caps) (lc:Array Value) (wr:World):Prop where
 mm:MM X (Pv pr [w.heap.size + 1,w.heap.size + 1 + 1 + 1]) wr
 bx:wr.heap[w.heap.size]? = some (.cells (CC c) 34 (0,0))
 rs:wr.heap[w.heap.size + 1]? = some (.cells CZ 34 (0,0))
 kk:wr.heap[w.heap.size + 1 + 1]? = some (.cells (KC ia i j c) 171 (0,0))
 xx:wr.heap[w.heap.size + 1 + 1 + 1]? = some (.cells lc 173 (0,0))
 km:Km X w wr
 base:X.w0.heap.size <= w.heap.size
structure TH (X:Par) (pr:Nat -> Prop) (w:World) (ia i j:Nat) (c:Caps) (wr:World):Prop where
 tf:TF X pr w c wr
 kk:wr.heap[w.heap.size + 1 + 1]? = some (.cells (KC ia i j c) 171 (0,0))
 b2:wr.heap[X.b2]? = w.heap[X.b2]?
 sz:wr.heap.size = w.heap.size + 1 + 1 + 1
abbrev HQ (X:Par) (w:World) (ia i j:Nat) (c:Caps) (w':World):Prop :=
 w'.cell? ⟨X.bm,4,none⟩ = some (.map (some X.b2)) /\ w'.heap[w.heap.size + 1 + 1]? = some (.cells (KC ia i j c) 171 (0,0)) /\ w'.heap[X.b2]? = w.heap[X.b2]?
section
variable {X:Par} {pr:Nat -> Prop} {w wr w':World} {c:Caps} {ia i j:Nat} {lc:Array Value}
theorem th_start (hM:MM X pr w):TH X pr w ia i j c (((w.alloc (.cells (CC c) 34)).alloc (.cells CZ 34)).alloc (.cells (KC ia i j c) 171)):=by
 have h:=tf_start hM c;(have hs:((w.alloc (.cells (CC c) 34)).alloc (.cells CZ 34)).heap.size = w.heap.size + 1 + 1:=by simp);have hb:=(Below.refl ((w.alloc (.cells (CC c) 34)).alloc (.cells CZ 34)).heap.size ((w.alloc (.cells (CC c) 34)).alloc (.cells CZ 34))).alloc (Nat.le_refl _) (.cells (KC ia i j c) 171);have hk:=heap_alloc_new ((w.alloc (.cells (CC c) 34)).alloc (.cells CZ 34)) (.cells (KC ia i j c) 171);rw [hs] at hk;have h2:=two_start hM (.cells (CC c) 34) (.cells CZ 34);obtain ⟨es2,c2,a2,_⟩:=hM.e2;have hl:=lt_heap' a2;exact ⟨h.below hb,hk,(hb.block _ (by rw [hs];omega)).trans (h2.2.block _ hl),by simp⟩
abbrev KZ:Array Value:=#[E 0,E 0,E 0,.complex .f64 0 0,.complex .f64 0 0,.complex .f64 0 0,.complex .f64 0 0,.complex .f64 0 0,.complex .f64 0 0,.complex .f64 0 0,.complex .f64 0 0,.complex .f64 0 0,.complex .f64 0 0]
theorem kc_one (n i j:Nat) (c:Caps):(KC n i j c).all (·.oneCell') = true:=by
 have h:=cap_one;(have h2:∀ n:Int,(E n).oneCell' = true:=fun _=>rfl);simp [h,h2]
theorem key_there (w:World) (A B:Obj):(((w.alloc A).alloc B).alloc (.cells KZ 171)).heap[w.heap.size + 1 + 1]? = some (.cells KZ 171 (0,0)):=by
 have:=heap_alloc_new ((w.alloc A).alloc B) (.cells KZ 171)
 rwa [show ((w.alloc A).alloc B).heap.size = w.heap.size + 1 + 1 by simp] at this
theorem th_start2 (hM:MM X pr w):TH X pr w ia i j c ((((w.alloc (.cells (CC c) 34)).alloc (.cells CZ 34)).alloc (.cells KZ 171)).setRow (w.heap.size + 1 + 1) (KC ia i j c)):=by
 have:=World.setRow_alloc_new ((w.alloc (.cells (CC c) 34)).alloc (.cells CZ 34)) KZ (KC ia i j c) 171;rw [show ((w.alloc (.cells (CC c) 34)).alloc (.cells CZ 34)).heap.size = w.heap.size + 1 + 1 by simp] at this;rw [this];exact th_start hM
theorem TH.drew (h:TH X pr w ia i j c wr):TH X pr w ia i j c wr.drew:=⟨h.tf.below (Below.refl _ _).drew,h.kk,h.b2,h.sz⟩
theorem TH.hq (h:TH X pr w ia i j c wr):HQ X w ia i j c wr:=⟨h.tf.mm.facts.2.2.2.2,h.kk,h.b2⟩
theorem TH.lay (h:TH X pr w ia i j c wr) (lc:Array Value):TG X pr w ia i j c lc (wr.alloc (.cells lc 173)):=by
 have hb:=(Below.refl wr.heap.size wr).alloc (Nat.le_refl _) (.cells lc 173);have hk:=heap_alloc_new wr (.cells lc 173);rw [h.sz] at hk;have h1:=h.tf.below hb;refine ⟨h.tf.mm.hide ?_ hb ?_,h1.bx,h1.rs,(hb.block _ (lt_heap' h.kk)).trans h.kk,hk,h1.km,h1.base⟩
 ·
  rintro k (q | q)
  · exact Or.inl (Or.inl q)
  ·
   simp only [List.mem_cons,List.not_mem_nil,or_false] at q;rcases q with q | q
   · exact Or.inl (Or.inr (by simp [q]))
   · exact Or.inr (by have:=h.sz;omega)
 ·
  rintro k (q | q)
  · have:=h1.mm.lt k (Or.inl q);exact this
  · simp only [List.mem_cons,List.not_mem_nil,or_false] at q;have:=h.sz;simp;omega
theorem TH.lay_hq (h:TH X pr w ia i j c wr) (lc:Array Value):HQ X w ia i j c (wr.alloc (.cells lc 173)):=by
 obtain ⟨es2,c2,a2,_⟩:=h.tf.mm.e2;exact ⟨(h.lay lc).mm.facts.2.2.2.2,(h.lay lc).kk,(((Below.refl wr.heap.size wr).alloc (Nat.le_refl _) _).block _ (lt_heap' a2)).trans h.b2⟩
theorem left_there (h:TH X pr w ia i j c wr):(wr.alloc (.cells LZ 173)).heap[w.heap.size + 1 + 1 + 1]? = some (.cells LZ 173 (0,0)):=(h.lay LZ).xx
theorem left_laid (h:TH X pr w ia i j c wr) (lc:Array Value):(wr.alloc (.cells LZ 173)).setRow (w.heap.size + 1 + 1 + 1) lc = wr.alloc (.cells lc 173):=by
 have:=World.setRow_alloc_new wr LZ lc 173
 rwa [h.sz] at this
theorem lc_one (c:Caps) (b:Bool):(LC c b).all (·.oneCell') = true:=by
 have h:=cap_one;(have h2:∀ n:Bool,(Value.bool n).oneCell' = true:=fun _=>rfl);simp [h,h2]
theorem TG.lq (h:TG X pr w ia i j c lc wr) (hb:wr.heap[X.b2]? = w.heap[X.b2]?):HQ X w ia i j c wr:=⟨h.mm.facts.2.2.2.2,h.kk,hb⟩
theorem TG.call (h:TG X pr w ia i j c lc wr) (hm:MM X (Pv pr [w.heap.size + 1,w.heap.size + 1 + 1 + 1]) w') (hk:Km X wr w'):TG X pr w ia i j c lc w' :=
 ⟨hm,mm_keep h.mm hk h.bx,mm_keep h.mm hk h.rs,mm_keep h.mm hk h.kk,mm_keep h.mm hk h.xx,h.km.trans hk,h.base⟩
theorem TG.below (h:TG X pr w ia i j c lc wr) (hb:Below wr.heap.size wr w'):TG X pr w ia i j c lc w':=h.call (h.mm.below hb) (Km.of_below hb)
theorem left_apart (h:MM X pr w) {B:Nat} {cs:Array Value} (hr:w.heap[B]? = some (.cells cs 173 (0,0))):B ≠ X.bm /\ B ≠ X.b1 /\ B ≠ X.b2:=by
 obtain ⟨es1,c1,a1,k1⟩:=h.e1;obtain ⟨es2,c2,a2,k2⟩:=h.e2;refine ⟨?_,cells_map hr a1,cells_map hr a2⟩;rintro rfl;have:=h.hb.symm.trans hr;simp only [Option.some.injEq,Obj.cells.injEq] at this;exact absurd this.2.1 (by decide)
theorem TG.put (h:TG X pr w ia i j c lc wr) {lc':Array Value} (hx:w'.heap[w.heap.size + 1 + 1 + 1]? = some (.cells lc' 173 (0,0))) (hs:w'.heap.size = wr.heap.size) (hk:∀ k,k ≠ w.heap.size + 1 + 1 + 1 -> w'.heap[k]? = wr.heap[k]?) (hb:Below X.w0.heap.size wr w'):TG X pr w ia i j c lc' w':=by
 have ha:=left_apart h.mm h.xx;refine ⟨h.mm.own (B:=w.heap.size + 1 + 1 + 1) (Or.inr (by simp)) (by have:=h.base;omega) ha.1 ha.2.1 ha.2.2 (by omega) (fun k _ q=>hk k q) (h.mm.bel.trans hb),(hk _ (by omega)).trans h.bx,(hk _ (by omega)).trans h.rs,(hk _ (by omega)).trans h.kk,hx,⟨by rw [hs];exact h.km.size,fun k h1 h2 h3=>(hk k (by omega)).trans (h.km.keep k h1 h2 h3)⟩,h.base⟩
theorem TG.caps (h:TG X pr w ia i j c LZ wr) (a:Caps):TG X pr w ia i j c (LC a false) (wr.setCells (w.heap.size + 1 + 1 + 1) 0 (CC a).toList):=by
 obtain ⟨h1,h2,h3⟩:=set_cells_block (w.heap.size + 1 + 1 + 1) 173 (CC a).toList 0 wr LZ h.xx;rw [show (CC a).toList = [capV (gr a 0),capV (gr a 1),capV (gr a 2),capV (gr a 3),capV (gr a 4),capV (gr a 5),capV (gr a 6),capV (gr a 7),capV (gr a 8),capV (gr a 9)] from rfl] at h1 h2 h3 ⊢;rw [from10] at h1;exact h.put h1 h2 h3 (set_cells_below (by have:=h.base;omega) _ _ _ (Below.refl _ _))
theorem TG.ret (h:TG X pr w ia i j c lc wr) (a:Caps):(wr.setRow (w.heap.size + 1) (CC a)).heap[w.heap.size + 1]? = some (.cells (CC a) 34 (0,0)) /\ MM X pr (wr.setRow (w.heap.size + 1) (CC a)) /\ Km X w (wr.setRow (w.heap.size + 1) (CC a)) /\ (wr.setRow (w.heap.size + 1) (CC a)).heap[w.heap.size + 1 + 1 + 1]? = some (.cells lc 173 (0,0)):=by
 have ha:=cells_apart h.mm h.rs;have hb:=below_setRow (B:=X.w0.heap.size) h.mm.bel (g:=w.heap.size + 1) (by have:=h.base;omega) (CC a);(have hk:∀ k,k < wr.heap.size -> k ≠ w.heap.size + 1 -> (wr.setRow (w.heap.size + 1) (CC a)).heap[k]? = wr.heap[k]?:=fun k _ hk=>setRow_other _ _ _ _ hk);refine ⟨setRow_heap _ _ _ _ _ _ h.rs,(h.mm.own (B:=w.heap.size + 1) (Or.inr (by simp)) (by have:=h.base;omega) ha.1 ha.2.1 ha.2.2 (by simp) hk hb).mono fun k hk=>Or.inl hk,⟨by simpa using h.km.size,fun k h1 h2 h3=>(hk k (Nat.lt_of_lt_of_le h1 h.km.size) (by omega)).trans (h.km.keep k h1 h2 h3)⟩,(hk _ (lt_heap' h.xx) (by omega)).trans h.xx⟩
theorem TG.there (h:TG X pr w ia i j c LZ wr):wr.there (w.heap.size + 1 + 1 + 1) 0 10:=fun q hq=>by
 refine ⟨?_,by simp [World.frozen?,h.xx]⟩;rw [Lib.cell_of_heap h.xx,Array.getElem?_eq_getElem (by simp;omega)];rfl
theorem TG.fz (h:TG X pr w ia i j c lc wr) (q:Nat):wr.frozen? ⟨w.heap.size + 1 + 1 + 1,q,none⟩ = false:=by simp [World.frozen?,h.xx]
theorem TG.bool {a0:Caps} {b0:Bool} (h:TG X pr w ia i j c (LC a0 b0) wr) (b:Bool):TG X pr w ia i j c (LC a0 b) (wr.setCell ⟨w.heap.size + 1 + 1 + 1,10,none⟩ (.bool b)):=by
 refine h.put (Go.Joins.block_setCell h.xx (i:=10) (.bool b)) (by simp) (fun k hk=>Below.heap_setCell wr ⟨w.heap.size + 1 + 1 + 1,10,none⟩ (.bool b) k hk) ((Below.refl _ _).setCell (by show X.w0.heap.size <= w.heap.size + 1 + 1 + 1;have:=h.base;omega) _)
end
theorem MM.other {X:Par} {pr:Nat -> Prop} {w w':World} (h:MM X pr w) {B:Nat} {cs:Array Value} {t:TypeId} {fr:Nat × Nat} (ht1:t ≠ 4) (ht2:t ≠ 127) (hB:w.heap[B]? = some (.cells cs t fr)) (hs:w.heap.size <= w'.heap.size) (hk:∀ k,k < w.heap.size -> k ≠ B -> w'.heap[k]? = w.heap[k]?) (hbl:Below X.w0.heap.size X.w0 w'):MM X pr w':=by
 obtain ⟨es1,c1,a1,k1⟩:=h.e1;obtain ⟨es2,c2,a2,k2⟩:=h.e2;have n1:=cells_map hB a1;have n2:=cells_map hB a2;have n0:B ≠ X.bm:=by
  rintro rfl;have:=h.hb.symm.trans hB;simp only [Option.some.injEq,Obj.cells.injEq] at this;exact ht2 this.2.1.symm
 refine ⟨hbl,(hk _ (lt_heap' h.hb) n0.symm).trans h.hb,⟨es1,c1,(hk _ (lt_heap' a1) n1.symm).trans a1,fun e he=>?_⟩,⟨es2,c2,(hk _ (lt_heap' a2) n2.symm).trans a2,k2⟩,fun k q=>Nat.lt_of_lt_of_le (h.lt k q) hs⟩;obtain ⟨x,o,i,g,b1,b2,b3,b4,b5⟩:=k1 e he;refine ⟨x,o,i,g,b1,b2,b3,(hk _ b4.lt ?_).trans b4,b5⟩;rintro rfl;have:=b4.symm.trans hB;simp only [Option.some.injEq,Obj.cells.injEq] at this;exact ht1 this.2.1.symm
structure LF (X:Par) (pr:Nat -> Prop) (w:World) (c:Caps) (nd:Nd) (wr:World):Prop where
 tf:TF X pr w c wr
 nb:wr.heap[w.heap.size + 1 + 1]? = some (.cells (NC nd) 72 (0,0))
def LW (X:Par) (w:World) (c:Caps) (nd:Nd) (w':World):Prop :=
 w'.heap[X.bm]? = some (.cells #[X.v,S X.T,.bool X.refs,.map (some X.b1),.map (some X.b2)] 127 (0,0)) /\ w'.heap[w.heap.size]? = some (.cells (CC c) 34 (0,0)) /\ w'.heap[w.heap.size + 1 + 1]? = some (.cells (NC nd) 72 (0,0))
section
variable {X:Par} {pr:Nat -> Prop} {w wr w':World} {c:Caps} {nd:Nd}
theorem lf_start (hM:MM X pr w) (c:Caps) (nd:Nd):LF X pr w c nd (((w.alloc (.cells (CC c) 34)).alloc (.cells CZ 34)).alloc (.cells (NC nd) 72)):=by
 have h:=tf_start hM c;(have hs:((w.alloc (.cells (CC c) 34)).alloc (.cells CZ 34)).heap.size = w.heap.size + 1 + 1:=by simp);have hb:=(Below.refl ((w.alloc (.cells (CC c) 34)).alloc (.cells CZ 34)).heap.size ((w.alloc (.cells (CC c) 34)).alloc (.cells CZ 34))).alloc (Nat.le_refl _) (.cells (NC nd) 72);have hk:=heap_alloc_new ((w.alloc (.cells (CC c) 34)).alloc (.cells CZ 34)) (.cells (NC nd) 72);rw [hs] at hk;exact ⟨h.below hb,hk⟩
theorem LF.call (h:LF X pr w c nd wr) (hm:MM X (Pv pr [w.heap.size + 1]) w') (hk:Km X wr w'):LF X pr w c nd w' :=
 ⟨h.tf.call hm hk,mm_keep h.tf.mm hk h.nb⟩
theorem LF.below (h:LF X pr w c nd wr) (hb:Below wr.heap.size wr w'):LF X pr w c nd w':=h.call (h.tf.mm.below hb) (Km.of_below hb)
theorem mm_cells {w:World} {X:Par} (h:w.heap[X.bm]? = some (.cells #[X.v,S X.T,.bool X.refs,.map (some X.b1),.map (some X.b2)] 127 (0,0))) :
  (w.cell? ⟨X.bm,0,none⟩ = some X.v /\ w.cell? ⟨X.bm,1,none⟩ = some (S X.T) /\ w.cell? ⟨X.bm,2,none⟩ = some (.bool X.refs) /\ w.cell? ⟨X.bm,3,none⟩ = some (.map (some X.b1)) /\ w.cell? ⟨X.bm,4,none⟩ = some (.map (some X.b2))) :=
 ⟨(Lib.cell_of_heap h 0).trans rfl,(Lib.cell_of_heap h 1).trans rfl,(Lib.cell_of_heap h 2).trans rfl,(Lib.cell_of_heap h 3).trans rfl,(Lib.cell_of_heap h 4).trans rfl⟩
theorem LF.ls (h:LF X pr w c nd wr):LW X w c nd wr:=⟨h.tf.mm.hb,h.tf.bx,h.nb⟩
theorem LF.ls_ret (h:LF X pr w c nd wr) (a:Caps):LW X w c nd (wr.setRow (w.heap.size + 1) (CC a)):=by
 have ha:=cells_apart h.tf.mm h.tf.rs;exact ⟨(setRow_other _ _ _ _ ha.1.symm).trans h.tf.mm.hb,(setRow_other _ _ _ _ (by omega)).trans h.tf.bx,(setRow_other _ _ _ _ (by omega)).trans h.nb⟩
theorem LF.box (h:LF X pr w c nd wr) (a:Caps):LF X pr w c nd (wr.alloc (.cells (CC a) 34)) /\ CB (wr.alloc (.cells (CC a) 34)) wr.heap.size a /\ w.heap.size + 1 + 1 < wr.heap.size :=
 ⟨h.below ((Below.refl _ _).alloc (Nat.le_refl _) _),heap_alloc_new _ _,lt_heap' h.nb⟩
theorem LF.kept (h:LF X pr w c nd wr) {g:Nat} {a:Caps} (hg:CB wr g a) (hk:Km X wr w'):CB w' g a:=mm_keep h.tf.mm hk hg
theorem LF.other (h:LF X pr w c nd wr) {g:Nat} {cs:Array Value} {t:TypeId} {fr:Nat × Nat} (ht1:t ≠ 4) (ht2:t ≠ 127) (hg:wr.heap[g]? = some (.cells cs t fr)) (hlt:w.heap.size + 1 + 1 < g) (hs:wr.heap.size <= w'.heap.size) (hk:∀ k,k < wr.heap.size -> k ≠ g -> w'.heap[k]? = wr.heap[k]?) (hb:Below X.w0.heap.size wr w'):LF X pr w c nd w':=by
 refine ⟨⟨h.tf.mm.other ht1 ht2 hg hs hk (h.tf.mm.bel.trans hb),(hk _ (lt_heap' h.tf.bx) (by omega)).trans h.tf.bx,(hk _ (lt_heap' h.tf.rs) (by omega)).trans h.tf.rs,⟨Nat.le_trans h.tf.km.size hs,fun k h1 h2 h3=>(hk k (Nat.lt_of_lt_of_le h1 h.tf.km.size) (by omega)).trans (h.tf.km.keep k h1 h2 h3)⟩,h.tf.base⟩,(hk _ (lt_heap' h.nb) (by omega)).trans h.nb⟩
theorem LF.putc (h:LF X pr w c nd wr) {g:Nat} {a:Caps} (hg:CB wr g a) (ha:a.length = 10) (hlt:w.heap.size + 1 + 1 < g) {n:Nat} (hn:n < 10) (x:Cap):LF X pr w c nd (wr.setCell ⟨g,n,none⟩ (capV x)) /\ CB (wr.setCell ⟨g,n,none⟩ (capV x)) g (a.set n x):=by
 refine ⟨h.other (by decide) (by decide) hg hlt (by simp) (fun k _ hk=>Below.heap_setCell wr ⟨g,n,none⟩ _ k hk) ((Below.refl _ _).setCell (by show X.w0.heap.size <= g;have:=h.tf.base;omega) _),?_⟩;have:=Go.Joins.block_setCell hg (i:=n) (capV x);rw [cc_set ha hn] at this;exact this
end
theorem LW.bm {X:Par} {w w':World} {c:Caps} {nd:Nd} (h:LW X w c nd w') :
  (w'.cell? ⟨X.bm,0,none⟩ = some X.v /\ w'.cell? ⟨X.bm,1,none⟩ = some (S X.T) /\ w'.cell? ⟨X.bm,2,none⟩ = some (.bool X.refs) /\ w'.cell? ⟨X.bm,3,none⟩ = some (.map (some X.b1)) /\ w'.cell? ⟨X.bm,4,none⟩ = some (.map (some X.b2))):=mm_cells h.1
theorem LW.node {X:Par} {w w':World} {c:Caps} {nd:Nd} (h:LW X w c nd w') :
  w'.cell? ⟨w.heap.size + 1 + 1,0,none⟩ = some (E nd.k) /\ w'.cell? ⟨w.heap.size + 1 + 1,1,none⟩ = some (U (word nd.s 0)) /\ w'.cell? ⟨w.heap.size + 1 + 1,2,none⟩ = some (U (word nd.s 1)) /\ w'.cell? ⟨w.heap.size + 1 + 1,3,none⟩ = some (U (word nd.s 2)) /\ w'.cell? ⟨w.heap.size + 1 + 1,4,none⟩ = some (U (word nd.s 3)) /\
   w'.cell? ⟨w.heap.size + 1 + 1,5,none⟩ = some (E nd.a) /\ w'.cell? ⟨w.heap.size + 1 + 1,6,none⟩ = some (E nd.b) /\ w'.cell? ⟨w.heap.size + 1 + 1,7,none⟩ = some (E nd.mn) /\ w'.cell? ⟨w.heap.size + 1 + 1,8,none⟩ = some (E nd.mx) /\ w'.cell? ⟨w.heap.size + 1 + 1,9,none⟩ = some (E nd.n):=node_cells h.2.2
theorem LW.drew {X:Par} {w w':World} {c:Caps} {nd:Nd} (h:LW X w c nd w'):LW X w c nd w'.drew:=h
theorem LW.below {X:Par} {w w1 w2:World} {c:Caps} {nd:Nd} (h:LW X w c nd w1) (hb:Below w1.heap.size w1 w2):LW X w c nd w2 :=
 ⟨(hb.block _ (lt_heap' h.1)).trans h.1,(hb.block _ (lt_heap' h.2.1)).trans h.2.1,(hb.block _ (lt_heap' h.2.2)).trans h.2.2⟩
def nkC (k:Nat):Array Value:=((List.range 10).map fun j=>if j < k then capV none else .complex .f64 0 0).toArray
theorem nk_at (k:Nat) (hk:k < 10):(nkC k)[k]? = some (.complex .f64 0 0):=by simp [nkC,hk]
theorem nk_set (k:Nat):(nkC k).setIfInBounds k (capV none) = nkC (k + 1):=by
 apply Array.ext_getElem?;intro i;unfold nkC;by_cases hi:i < 10
 ·
  by_cases hk:k = i
  · subst hk;rw [Array.getElem?_setIfInBounds_self_of_lt (by simpa using hi)];simp [hi]
  ·
   rw [Array.getElem?_setIfInBounds_ne hk];simp only [List.getElem?_toArray,List.getElem?_map,List.getElem?_range hi,Option.map_some]
   congr 1
   by_cases h:i < k
   · rw [if_pos h,if_pos (by omega)]
   · rw [if_neg h,if_neg (by omega)]
 · rw [Array.getElem?_eq_none (by simp;omega),Array.getElem?_eq_none (by simp;omega)]
theorem nk_all:nkC 10 = CC nones:=by rfl
theorem none_any (w:World):Calls Tryz.prog 26 #[] w fun e w'=>e = .returned (CV nones) /\ Below w.heap.size w w':=by
 obtain ⟨ca,cb,hcx⟩:∃ p q,capV none = .complex .f64 p q:=⟨_,_,rfl⟩;have HCX:=Hd hcx;have hnc:=(fun W=>none_cap W);rw [hcx] at hnc;have HNC:=Hd hnc;have HB0:=Hd (An (show (w.alloc (.cells CZ 34)).heap[w.heap.size]? = some (.cells (nkC 0) 34 (0,0)) from heap_alloc_new _ _) ((Below.refl w.heap.size w).alloc (Nat.le_refl _) (.cells CZ 34)));clear hcx hnc;go_enter Tryz.func26,Tryz.ntmps26;rw [show Code.region 6 = Fz 6 from rfl];go_wp2;refine at_world (p:=fun V=>V.heap[w.heap.size]? = some (.cells (nkC 0) 34 (0,0)) /\ Below w.heap.size w V) HB0.out (fun V hV=>?_);have HV:=Hd hV;clear hV HB0;go_loopw [2] (fun i wr=>∃ (k:Nat),k <= 10 /\ i = .int .i64 (k:Nat) /\ Hid (wr.heap[w.heap.size]? = some (.cells (nkC k) 34 (0,0)) /\ Below w.heap.size w wr)) (fun i _=>10 - (intOf i).toNat);(case atStart=>exact ⟨0,by omega,rfl,HV⟩);case round =>
  clear HV;obtain ⟨k,hk,rfl,HR⟩:=hrel;by_cases hlt:k < 10
  · (have hlt':(k:Int) < 10:=by omega);(have hk0:(0:Int) <= (k:Int):=by omega);(have hwk:IntKind.i64.wrap ((k:Int) + 1) = (k:Int) + 1:=by rw [IntKind.wrap_i64];omega);have hcl:=(Lib.cell_of_heap HR.out.1 k).trans (nk_at k hlt);(have hfz:wr.frozen? ⟨w.heap.size,k,none⟩ = false:=by simp [World.frozen?,HR.out.1]);have hst:=store_complex Tryz.prog wr w.heap.size k ca cb hcl hfz;have hnx:=Go.Joins.block_setCell HR.out.1 (i:=k) (.complex .f64 ca cb);rw [<- HCX.out,nk_set] at hnx;have HN:=Hd hnx;have HBL:=Hd (HR.out.2.setCell (show w.heap.size <= (⟨w.heap.size,k,none⟩:Addr).block from Nat.le_refl _) (.complex .f64 ca cb));rw [HCX.out] at HN;clear hnx;go_wp2_with (go_at_call 53;refine (HNC.out _).mono ?_;rintro e w2 ⟨rfl,rfl⟩);go_roundw;(case rel=>exact ⟨k + 1,by omega,by go_num,Hd ⟨HN.out,HBL.out⟩⟩);case measure=>simp [intOf];omega
  · (obtain rfl:k = 10:=by omega);have HN:=Hd (show wr.heap[w.heap.size]? = some (.cells (CC nones) 34 (0,0)) from by rw [HR.out.1,nk_all]);go_wp2;rw [show Fz 6 = Code.region 6 from rfl];refine wp_region_list ?_;refine ldM 0 HN.out ?_;refine stM 0 9 nones HN.out ?_;have HN2:=Hd (setRow_heap _ _ _ (CC nones) _ _ HN.out);have HB2:=Hd (below_setRow (B:=w.heap.size) HR.out.2 (g:=w.heap.size) (Nat.le_refl _) (CC nones));generalize World.setRow _ _ _ = W9 at HN2 HB2 ⊢;go_wp2;refine bodyPost_ret (v:=CV nones) ?_ rfl ⟨rfl,HB2.out⟩;rw [results_cell_row rfl _ W9 w.heap.size 34 (CC nones) (0,0) _ rfl HN2.out Tryz.underlying34 rfl (by kernel_rfl)]
theorem new_any (t:Tr) (hg:Rx.Good t) (hs:SetsOk t) (hw:∀ n ∈ t.nodes 0,Wf n.s) (v:Value) (T:List UInt8) (hT:T.length <= 100000) (w:World) (h:Ns w v (t.nodes 0)) :
  Calls Tryz.prog 48 #[v,S T] w fun e w'=>∃ X:Par,X.Ok /\ X.w0 = w /\ X.T = T /\ X.t = t /\ X.v = v /\ e = .returned (PT X.bm) /\ MM X (fun _=>False) w':=by
 obtain ⟨ao,cap,rfl,hcells⟩:=h;have HR:=Hd (refs_any ao cap (t.nodes 0) w ⟨ao,cap,rfl,hcells⟩ hw);have HRF:=Hd (show refsL (t.nodes 0) = decide (0 < refsT t) from by unfold refsL;rw [patOf_good hg]);have HG:=Hd hg;have HS:=Hd hs;have HNS:=Hd (show Ns w (.slice ao (t.nodes 0).length cap) (t.nodes 0) from ⟨ao,cap,rfl,hcells⟩);have HT:=Hd hT;have hmm:=@run_makeMap Tryz.prog;clear hcells hw hg hs hT;go_enter Tryz.func48,Tryz.ntmps48;go_wp2_with (go_at_call 75;refine HR.out.mono ?_;rintro e w1 ⟨rfl,hb⟩;have HB:=Hd hb;clear hb);go_ret;refine ⟨⟨w,T,t,_,w1.heap.size + 1 + 1,w1.heap.size,w1.heap.size + 1⟩,⟨HG.out,HS.out,HNS.out,HT.out,by have:=HB.out.size;show w.heap.size <= w1.heap.size + 1 + 1;omega,HB.out.size,by have:=HB.out.size;show w.heap.size <= w1.heap.size + 1;omega,by show w1.heap.size ≠ w1.heap.size + 1;omega⟩,rfl,rfl,rfl,rfl,rfl,?_⟩;have hb:=((HB.out.alloc HB.out.size (.map #[] 0)).alloc (by simp;have:=HB.out.size;omega) (.map #[] 0)).alloc (by simp;have:=HB.out.size;omega) (.cells #[.slice ao (t.nodes 0).length cap,S T,.bool (refsL (t.nodes 0)),.map (some w1.heap.size),.map (some (w1.heap.size + 1))] 127);have e1:=heap_alloc_new w1 (.map #[] 0);have e2:=heap_alloc_new (w1.alloc (.map #[] 0)) (.map #[] 0);have e3:=heap_alloc_new ((w1.alloc (.map #[] 0)).alloc (.map #[] 0)) (.cells #[.slice ao (t.nodes 0).length cap,S T,.bool (refsL (t.nodes 0)),.map (some w1.heap.size),.map (some (w1.heap.size + 1))] 127);rw [show (w1.alloc (.map #[] 0)).heap.size = w1.heap.size + 1 by simp] at e2;rw [show ((w1.alloc (.map #[] 0)).alloc (.map #[] 0)).heap.size = w1.heap.size + 1 + 1 by simp] at e3;refine ⟨hb,?_,⟨#[],0,?_,by simp⟩,⟨#[],0,?_,by simp⟩,fun k q=>q.elim⟩
 · exact e3.trans (by rw [HRF.out];rfl)
 · exact (Below.heap_alloc _ _ _ (by simp <;> omega)).trans ((Below.heap_alloc _ _ _ (by simp <;> omega)).trans e1)
 · exact (Below.heap_alloc _ _ _ (by simp <;> omega)).trans e2
end Go.Proofs.YtinallojhkaogaaGreatDoor.Mt
