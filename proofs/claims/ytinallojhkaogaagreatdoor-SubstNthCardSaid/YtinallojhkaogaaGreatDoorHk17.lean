/- The texts MtL8 MtQ. -/
import Derived.Deep.LoopGhost
import Derived.Test.YtinallojhkaogaaGreatDoorHk14
set_option linter.unusedVariables false
set_option linter.unusedSimpArgs false
set_option maxHeartbeats 3200000
set_option maxRecDepth 100000
namespace Go.Proofs.YtinallojhkaogaaGreatDoor.Mt
open Go.RowKit Go.Shelf
open Rx
open Rx.Tr
open St (Wf word mem SV SV_eq)
theorem look_8 (X:Par) (hX:X.Ok) (ia:Nat) (pr:Nat -> Prop) (i j:Nat) (c:Caps) (w:World) (hij:i <= j) (hj:j <= X.N) (hc:CapsOk X.N c) (hM:MM X pr w) (nb no cap:Nat) (hv:X.v = .slice (some ⟨nb,no,none⟩) X.l.length cap) (hil:ia < X.l.length) (z:List Nat) (a b:Nat) (mn mx:Int) (m:Nat) (hN:NCell w nb (no + ia * 10) ⟨8,z,(a:Nat),(b:Nat),mn,mx,(m:Nat)⟩) (hm0:1 <= m) (hm1:m <= 9) (R:Option Caps) (hR:R = (if refAt X.T c m i j = true then some c else none)) :
  Calls Tryz.prog 103 #[PT X.bm,E (ia:Nat),E (i:Nat),E (j:Nat),CV c] w (FitAns X pr w R):=by
 obtain ⟨c0,c1,c2,c3,c4⟩:=hM.facts;rw [hv] at c0;obtain ⟨q0,q1,q2,q3,q4,q5,q6,q7,q8,q9⟩:=hN;have hbm:=lt_heap' hM.hb;(have hbm2:X.bm < w.heap.size + 1:=by omega);(have hbm3:X.bm < w.heap.size + 1 + 1:=by omega);have hnb:nb < w.heap.size:=lt_cell q0;(have hnb2:nb < w.heap.size + 1:=by omega);(have hnb3:nb < w.heap.size + 1 + 1:=by omega);(have ha0:(0:Int) <= (ia:Int):=by omega);(have ha1:(ia:Int) < (X.l.length:Int):=by omega);have HT:=Hd (lf_start hM c ⟨8,z,(a:Nat),(b:Nat),mn,mx,(m:Nat)⟩);have HC:=Hd hc;have HRR:=Hd hR;clear hR;have hlen:=hX.len;have HLEN:=Hd hlen;(have hn0:(0:Int) <= (m:Int):=by omega);(have hn1:(m:Int) < 10:=by omega);(have hn2:((m:Int)).toNat = m:=by omega);(have hm9:m < 10:=by omega);(have hi0:(0:Int) <= (i:Int):=by omega);(have hi1:(i:Int) <= (j:Int):=by omega);(have hj1:(j:Int) <= (X.T.length:Int):=by show (j:Int) <= (X.N:Int);omega);have HM10:=Hd hm9;have HCP:=Hd (hc.at m);have HRF:=Hd (show refAt X.T c m i j = (match gr c m with | some (a,b)=>decide (cutT X.T a b = cutT X.T i j) | none=>false) from by
  unfold refAt gr;(have hl:m < c.length:=by rw [hc.len];exact hm9);rw [List.getElem?_eq_getElem hl];dsimp only [Option.getD];cases c[m] with
  | none=>rfl
  | some p=>rfl)
 clear hlen hM hX hc;go_enter Tryz.func103,Tryz.ntmps103;rw [show Code.region 2 = Fz 2 from rfl];go_wp2;refine at_world (p:=fun W=>LF X pr w c ⟨8,z,(a:Nat),(b:Nat),mn,mx,(m:Nat)⟩ W) HT.out (fun W hW=>?_);have HS:=Hd hW;clear hW HT c0 c1 c2 c3 c4 q0 q1 q2 q3 q4 q5 q6 q7 q8 q9 hbm hbm2 hbm3 hnb hnb2 hnb3 ha0 ha1;rw [show Fz 2 = Code.region 2 from rfl];obtain ⟨x0,x1,x2,x3,x4,x5,x6,x7,x8,x9⟩:=node_cells HS.out.nb;(try dsimp only at x0 x1 x2 x3 x4 x5 x6 x7 x8 x9);obtain ⟨m0,m1,m2,m3,m4⟩:=HS.out.tf.mm.facts;(have hlN:X.T.length <= 999999999:=by have:=HLEN.out;show X.N <= _;omega);cases hgr:gr c m with
 | none =>
  go_wp2;have HD:=Hd (HS.out.below (Below.refl _ _).drew);clear x0 x1 x2 x3 x4 x5 x6 x7 x8 x9 m0 m1 m2 m3 m4 HS;(refine Tk.g (fun w'=>LW X w c ⟨8,z,(a:Nat),(b:Nat),mn,mx,(m:Nat)⟩ w') (by exact HD.out.ls) fun hH=>?_);generalize World.drew _ = W4 at HD hH ⊢;refine Tk.t 0 (hy:=fun _ h=>xlM 9 h.2.1) ?_;refine Tk.t 1 ?_;refine Tk.k (fun _ h=>An h.node h.bm) 2 ?_;refine Tk.t 3 ?_;refine Tk.t 4 (hy:=by (intro wv hSw;(try dsimp only at hSw);obtain ⟨k0,k1,k2,k3,k4,k5,k6,k7,k8,k9⟩:=hSw.node;obtain ⟨p0,p1,p2,p3,p4⟩:=hSw.bm;(try dsimp only at k0 k1 k2 k3 k4 k5 k6 k7 k8 k9);have k10:=cap_cell hSw.2.1 HM10.out;rw [hgr] at k10;go_simp) <;> with_reducible rfl) ?_;refine Tk.o 5 (fun K hK=>?_);go_simp
  (go_at_call 67;have hq:=may_cap hlN HCP.out W4;rw [hgr] at hq;refine hq.mono ?_;clear hq;rintro e w6 ⟨rfl,rfl⟩)
  refine hK.out _ _ ?_ (fun hH=>Tk.w ?_)
  · (exact HD.out.ls)
  clear hK K;refine Tk.t 6 ?_;refine Tk.p 7 ?_;refine Tk.p 8 ?_;refine Tk.p 9 ?_;refine Tk.p 10 ?_;refine Tk.p 11 ?_;refine Tk.p 12 ?_;refine Tk.p 13 ?_;refine Tk.p 14 ?_;refine Tk.p 15 ?_;refine Tk.p 16 ?_;refine Tk.p 17 ?_;refine Tk.p 18 ?_;refine Tk.p 19 ?_;refine Tk.p 20 ?_;refine Tk.p 21 ?_;refine Tk.p 22 ?_;refine Tk.p 23 ?_;refine Tk.t 24 ?_;refine Tk.o 25 (fun K hK=>?_);refine ssM 10 66 c HD.out.tf.rs ?_;obtain ⟨r1,r2,r3⟩:=HD.out.tf.ret c;have r4:=HD.out.ls_ret c;have HR:=Hd (An r1 (An r2 r3));clear r1 r2 r3 HD;generalize World.setRow _ _ _ = W9 at HR r4 ⊢;refine hK.out _ _ ?_ (fun hH=>Tk.w ?_)
  · (exact r4)
  clear hK K;refine Tk.t 26 ?_;refine Tk.d ?_;clear hH r4;go_wp2;refine bodyPost_ret (res_caps rfl rfl HR.out.1 rfl) rfl ?_;refine ⟨c,_,rfl,?_,HR.out.2.1,HR.out.2.2⟩;refine ⟨HC.out,?_⟩;rw [HRR.out];rw [HRF.out,hgr];dsimp only;rw [if_neg (by simp)]
 | some p =>
  obtain ⟨p1,p2⟩:=p;go_wp2;have HD:=Hd (HS.out.below (Below.refl _ _).drew);clear x0 x1 x2 x3 x4 x5 x6 x7 x8 x9 m0 m1 m2 m3 m4 HS;(refine Tk.g (fun w'=>LW X w c ⟨8,z,(a:Nat),(b:Nat),mn,mx,(m:Nat)⟩ w') (by exact HD.out.ls) fun hH=>?_);generalize World.drew _ = W4 at HD hH ⊢;refine Tk.t 0 (hy:=fun _ h=>xlM 9 h.2.1) ?_;refine Tk.t 1 ?_;refine Tk.k (fun _ h=>An h.node h.bm) 2 ?_;refine Tk.t 3 ?_;refine Tk.t 4 (hy:=by (intro wv hSw;(try dsimp only at hSw);obtain ⟨k0,k1,k2,k3,k4,k5,k6,k7,k8,k9⟩:=hSw.node;obtain ⟨p0,p1,p2,p3,p4⟩:=hSw.bm;(try dsimp only at k0 k1 k2 k3 k4 k5 k6 k7 k8 k9);have k10:=cap_cell hSw.2.1 HM10.out;rw [hgr] at k10;go_simp) <;> with_reducible rfl) ?_;refine Tk.o 5 (fun K hK=>?_);go_simp
  (go_at_call 67;have hq:=may_cap hlN HCP.out W4;rw [hgr] at hq;refine hq.mono ?_;clear hq;rintro e w6 ⟨rfl,rfl⟩)
  refine hK.out _ _ ?_ (fun hH=>Tk.w ?_)
  · (exact HD.out.ls)
  clear hK K;refine Tk.t 6 ?_;refine Tk.t 7 ?_;refine Tk.t 8 ?_;refine Tk.t 9 ?_;refine Tk.t 10 (hy:=by (intro wv hSw;(try dsimp only at hSw);obtain ⟨k0,k1,k2,k3,k4,k5,k6,k7,k8,k9⟩:=hSw.node;obtain ⟨p0,p1,p2,p3,p4⟩:=hSw.bm;(try dsimp only at k0 k1 k2 k3 k4 k5 k6 k7 k8 k9);have k10:=cap_cell hSw.2.1 HM10.out;rw [hgr] at k10;go_simp) <;> with_reducible rfl) ?_;refine Tk.t 11 ?_;refine Tk.t 12 (hy:=by (intro wv hSw;(try dsimp only at hSw);obtain ⟨k0,k1,k2,k3,k4,k5,k6,k7,k8,k9⟩:=hSw.node;obtain ⟨p0,p1,p2,p3,p4⟩:=hSw.bm;(try dsimp only at k0 k1 k2 k3 k4 k5 k6 k7 k8 k9);have k10:=cap_cell hSw.2.1 HM10.out;rw [hgr] at k10;go_simp) <;> with_reducible rfl) ?_;refine Tk.t 13 ?_;refine Tk.t 14 (hy:=by (intro wv hSw;(try dsimp only at hSw);obtain ⟨k0,k1,k2,k3,k4,k5,k6,k7,k8,k9⟩:=hSw.node;obtain ⟨p0,p1,p2,p3,p4⟩:=hSw.bm;(try dsimp only at k0 k1 k2 k3 k4 k5 k6 k7 k8 k9);have k10:=cap_cell hSw.2.1 HM10.out;rw [hgr] at k10;go_simp) <;> with_reducible rfl) ?_;refine Tk.t 16 ?_;refine Tk.t 17 ?_;refine Tk.t 18 ?_;refine Tk.t 19 (hy:=by (intro wv hSw;(try dsimp only at hSw);obtain ⟨k0,k1,k2,k3,k4,k5,k6,k7,k8,k9⟩:=hSw.node;obtain ⟨p0,p1,p2,p3,p4⟩:=hSw.bm;(try dsimp only at k0 k1 k2 k3 k4 k5 k6 k7 k8 k9);have k10:=cap_cell hSw.2.1 HM10.out;rw [hgr] at k10;go_simp) <;> with_reducible rfl) ?_;refine Tk.t 20 ?_;refine Tk.t 21 ?_;refine Tk.t 22 ?_;refine Tk.o 15 (fun K hK=>?_);go_simp
  (go_at_call 38;have hq:=cut_cap hlN HCP.out W4;rw [hgr] at hq;refine hq.mono ?_;clear hq;rintro e w7 ⟨rfl,rfl⟩)
  refine hK.out _ _ ?_ (fun hH=>Tk.w ?_)
  · (exact HD.out.ls)
  clear hK K;refine Tk.t 23 ?_;refine Tk.t 24 ?_;refine Tk.o 25 (fun K hK=>?_);refine ssM 10 66 c HD.out.tf.rs ?_;obtain ⟨r1,r2,r3⟩:=HD.out.tf.ret c;have r4:=HD.out.ls_ret c;have HR:=Hd (An r1 (An r2 r3));clear r1 r2 r3 HD;generalize World.setRow _ _ _ = W9 at HR r4 ⊢;refine hK.out _ _ ?_ (fun hH=>Tk.w ?_)
  · (exact r4)
  clear hK K;refine Tk.t 26 ?_;refine Tk.d ?_;clear hH r4;go_wp2;refine bodyPost_ret (res_caps rfl rfl HR.out.1 rfl) rfl ?_;refine ⟨c,_,rfl,?_,HR.out.2.1,HR.out.2.2⟩;refine ⟨HC.out,?_⟩;rw [HRR.out];rw [HRF.out,hgr,cut_same];dsimp only;by_cases e:decide (cutT X.T p1 p2 = cutT X.T i j) = true
  · rw [if_pos e];exact ⟨e,rfl⟩
  · rw [if_neg e];exact Bool.eq_false_iff.2 e
def StdOk (X:Par) (mx:Int) (i j:Nat) (s:Std):Prop:=i + s.c <= s.p /\ s.p <= j /\ s.k <= j /\ (mx = -1 \/ (s.c:Int) <= mx) /\ CapsOk X.N s.a
def StkOk (X:Par) (mx:Int) (i j:Nat) (l:List Std):Prop:=∀ q s,l[q]? = some s -> StdOk X mx i j s /\ s.c = q
section
variable {X:Par} {mx:Int} {i j:Nat}
theorem stk_pop {r:List Std} {s:Std} (h:StkOk X mx i j (r ++ [s])):StkOk X mx i j r:=fun q t ht=>h q t (by rw [List.getElem?_append_left (List.getElem?_eq_some_iff.1 ht).1];exact ht)
theorem stk_last {r:List Std} {s:Std} (h:StkOk X mx i j (r ++ [s])):StdOk X mx i j s /\ s.c = r.length:=h r.length s (by simp)
theorem stk_push {r:List Std} {s:Std} (h:StkOk X mx i j r) (hs:StdOk X mx i j s) (hc:s.c = r.length):StkOk X mx i j (r ++ [s]):=fun q t ht=>by
 rcases Nat.lt_trichotomy q r.length with hq | hq | hq
 · rw [List.getElem?_append_left hq] at ht;exact h q t ht
 · subst hq;simp at ht;subst ht;exact ⟨hs,hc⟩
 · rw [List.getElem?_eq_none (by simp;omega)] at ht;cases ht
theorem stk_one {s:Std} (hs:StdOk X mx i j s) (hc:s.c = 0):StkOk X mx i j [s]:=stk_push (r:=[]) (fun q t ht=>by simp at ht) hs hc
end
theorem muL_next {j:Nat} (r:List Std) (p c k:Nat) (a:Caps) (h:p < k):muL j (r ++ [⟨p,c,k - 1,a⟩]) <= muL j (r ++ [⟨p,c,k,a⟩]):=by
 rw [muL_push,muL_push];have:=mu_down (j:=j) p c k a h;omega
theorem muL_more {j:Nat} (r:List Std) (p c k:Nat) (a x:Caps) (h:p < k) (hj:k <= j):muL j (r ++ [⟨p,c,k - 1,a⟩] ++ [⟨k,c + 1,j,x⟩]) < muL j (r ++ [⟨p,c,k,a⟩]):=by
 rw [muL_push,muL_push,muL_push];have:=mu_step (j:=j) p c k a x h hj;omega
theorem muL_less {j:Nat} (r:List Std) (s:Std):muL j r < muL j (r ++ [s]):=by
 rw [muL_push];have:=mu_pos (j:=j) s;omega
def rch (X:Par) (x:Tr) (mn mx:Int) (k c j:Nat):Bool:=X.refs || timesB (endsP X.T x) (max 0 (mn - c)) (if mx = -1 then -1 else mx - c) X.N k j
theorem rch_none {X:Par} {x:Tr} {mn mx:Int} {k c j:Nat} {a:Caps} (hr:X.refs = false -> refsT x = 0) (hn:NumsOk x) (hk:k <= j) (hj:j <= X.N) (hc:mx = -1 \/ (c:Int) <= mx) (h:rch X x mn mx k c j = false):ansS (fitP X.T x) mn mx j ⟨k,c,j,a⟩ = none:=by
 unfold rch at h;rw [Bool.or_eq_false_iff] at h;rw [ansS_new k c a hk];cases hf:timesP (fitP X.T x) mn mx j (j - k) k c a with
 | none=>rfl
 | some y =>
  have:=reach_sound (T:=X.T) (hr h.1) hn hk hj hc hf;rw [h.2] at this;cases this
abbrev SC (p c k:Nat) (a:Caps):Array Value:=#[E (p:Nat),E (c:Nat),E (k:Nat),capV (gr a 0),capV (gr a 1),capV (gr a 2),capV (gr a 3),capV (gr a 4),capV (gr a 5),capV (gr a 6),capV (gr a 7),capV (gr a 8),capV (gr a 9)]
abbrev SZ:Array Value:=#[E 0,E 0,E 0,.complex .f64 0 0,.complex .f64 0 0,.complex .f64 0 0,.complex .f64 0 0,.complex .f64 0 0,.complex .f64 0 0,.complex .f64 0 0,.complex .f64 0 0,.complex .f64 0 0,.complex .f64 0 0]
theorem sc_one (p c k:Nat) (a:Caps):(SC p c k a).all (·.oneCell') = true:=by
 have h:=cap_one;(have h2:∀ n:Int,(E n).oneCell' = true:=fun _=>rfl);simp [h,h2]
theorem sc_one' (p c k:Nat) (a:Caps):∀ u ∈ (SC p c k a).toList,u.oneCell' = true:=by
 have h:=sc_one p c k a;rw [Array.all_eq_true'] at h;intro u hu;exact h u (by simpa using hu)
theorem infoSt:(Tryz.prog.info? 234).map (fun i=>(i.zero,i.size,i.bytes)) = some (some (.agg SZ),13,184):=by kernel_rfl
theorem news_st (w:World) (p c k:Nat) (a:Caps) (B:Nat) (hB:B = w.heap.size):∀ j u,(SC p c k a).toList[j]? = some u -> (w.alloc (.cells (SC p c k a) 234)).cell? ((⟨B,0,none⟩:Addr).add j) = some u:=by
 intro j u hj;subst hB;rw [Addr.add_lit,Lib.cell_of_heap (heap_alloc_new _ _),Nat.zero_add];simpa using hj
structure AG (X:Par) (pr:Nat -> Prop) (w:World) (c:Caps) (nd:Nd) (g cap:Nat) (l:List Std) (wr:World):Prop where
 lf:LF X pr w c nd wr
 sr:SR wr (w.heap.size + 1 + 1 + 1) g cap l
section
variable {X:Par} {pr:Nat -> Prop} {w wr w':World} {c:Caps} {nd:Nd} {g cap:Nat} {l r:List Std} {s:Std} {p cc k:Nat} {a:Caps}
theorem AG.gt (h:AG X pr w c nd g cap l wr):w.heap.size + 1 + 1 < g:=by
 obtain ⟨cur,h2,_⟩:=h.sr.parts;omega
theorem AG.call (h:AG X pr w c nd g cap l wr) (hm:MM X (Pv pr [w.heap.size + 1]) w') (hk:Km X wr w'):AG X pr w c nd g cap l w':=by
 obtain ⟨cur,h2,h3,_⟩:=h.sr.parts;exact ⟨h.lf.call hm hk,h.sr.keep ((mm_keep h.lf.tf.mm hk h3).trans h3.symm)⟩
theorem AG.below (h:AG X pr w c nd g cap l wr) (hb:Below wr.heap.size wr w'):AG X pr w c nd g cap l w':=h.call (h.lf.tf.mm.below hb) (Km.of_below hb)
theorem AG.pop (h:AG X pr w c nd g cap (r ++ [s]) wr):AG X pr w c nd g cap r wr:=⟨h.lf,h.sr.pop⟩
theorem AG.next (h:AG X pr w c nd g cap (r ++ [⟨p,cc,k,a⟩]) wr) (k':Nat):AG X pr w c nd g cap (r ++ [⟨p,cc,k',a⟩]) (wr.setCell ⟨g,r.length * 13 + 2,none⟩ (E (k':Nat))):=by
 obtain ⟨cur,h2,h3,_⟩:=h.sr.parts;exact ⟨h.lf.other (by decide) (by decide) h3 h.gt (by simp) (fun q _ hq=>Below.heap_setCell wr ⟨g,_,none⟩ _ q hq) ((Below.refl _ _).setCell (by show X.w0.heap.size <= g;have:=h.lf.tf.base;have:=h.gt;omega) _),h.sr.next⟩
theorem AG.cells (h:AG X pr w c nd g cap (r ++ [⟨p,cc,k,a⟩]) wr):(wr.cell? ⟨g,r.length * 13,none⟩ = some (E (p:Nat)) /\ wr.cell? ⟨g,r.length * 13 + 1,none⟩ = some (E (cc:Nat)) /\ wr.cell? ⟨g,r.length * 13 + 2,none⟩ = some (E (k:Nat))) /\ wr.rangeAt g (r.length * 13 + 3) (CC a).toList /\ (∀ i,wr.frozen? ⟨g,i,none⟩ = false) /\ r.length + 1 <= cap:=by
 obtain ⟨cur,h2,h3,h4,_⟩:=h.sr.parts;refine ⟨⟨h.sr.cell 0 _ rfl,h.sr.cell 1 _ rfl,h.sr.cell 2 _ rfl⟩,fun q v hv=>?_,fun i=>by simp [World.frozen?,h3],by simpa using h4⟩;(have hq:q < 10:=by have:=(List.getElem?_eq_some_iff.1 hv).1;simpa using this);have:=h.sr.cell (3 + q) v (by
  rw [show 3 + q = q + 1 + 1 + 1 by omega];simpa using hv)
 rw [<- Nat.add_assoc] at this;exact this
theorem AG.zero (h:AG X pr w c nd g cap l wr):AG X pr w c nd g cap l (wr.alloc (.cells CZ 34)) /\ (wr.alloc (.cells CZ 34)).heap[wr.heap.size]? = some (.cells CZ 34 (0,0)) /\ w.heap.size + 1 + 1 < wr.heap.size :=
 ⟨h.below ((Below.refl _ _).alloc (Nat.le_refl _) _),heap_alloc_new _ _,lt_heap' h.lf.nb⟩
theorem AG.fill (h:AG X pr w c nd g cap l wr) {gx:Nat} (hg:wr.heap[gx]? = some (.cells CZ 34 (0,0))) (hlt:w.heap.size + 1 + 1 < gx) (x:Caps):AG X pr w c nd g cap l (wr.setRow gx (CC x)) /\ CB (wr.setRow gx (CC x)) gx x:=by
 obtain ⟨cur,h2,h3,_⟩:=h.sr.parts;have hne:g ≠ gx:=by
  rintro rfl;have:=h3.symm.trans hg;simp only [Option.some.injEq,Obj.cells.injEq] at this;exact absurd this.2.1 (by decide)
 exact ⟨⟨h.lf.other (by decide) (by decide) hg hlt (by simp) (fun q _ hq=>setRow_other _ _ _ _ hq) (below_setRow (Below.refl _ _) (by have:=h.lf.tf.base;omega) _),h.sr.keep (setRow_other _ _ _ _ hne)⟩,setRow_heap _ _ _ _ _ _ hg⟩
theorem AG.kept (h:AG X pr w c nd g cap l wr) {gx:Nat} {cs:Array Value} {t:TypeId} {fr:Nat × Nat} (hg:wr.heap[gx]? = some (.cells cs t fr)) (hk:Km X wr w'):w'.heap[gx]? = some (.cells cs t fr):=mm_keep h.lf.tf.mm hk hg
theorem AG.stand (h:AG X pr w c nd g cap l wr) (o:Obj):AG X pr w c nd g cap l (wr.alloc o) /\ ∀ {gx:Nat} {cs:Array Value} {t:TypeId} {fr:Nat × Nat},wr.heap[gx]? = some (.cells cs t fr) -> (wr.alloc o).heap[gx]? = some (.cells cs t fr):=by
 have hb:=(Below.refl wr.heap.size wr).alloc (Nat.le_refl _) o;exact ⟨h.below hb,fun hg=>(hb.block _ (lt_heap' hg)).trans hg⟩
theorem stand_laid (wr:World) (p c k:Nat) (a:Caps):(wr.alloc (.cells SZ 234)).setRow wr.heap.size (SC p c k a) = wr.alloc (.cells (SC p c k a) 234):=World.setRow_alloc_new wr SZ (SC p c k a) 234
theorem AG.push {o:Obj} {gg cap' n:Nat} {p cc k:Nat} {a:Caps} (h:AG X pr w c nd g cap l wr) (hl:l.length = n)
  (hown:w'.ownsRow (w.heap.size + 1 + 1 + 1) 234 13 (.slice (some ⟨gg,0,none⟩) (n + 1) cap') (n + 1) (flatS l ++ (SC p cc k a).toList)) (hgrow:(wr.alloc o).grownBy w' (Value.slice (some ⟨g,0,none⟩) n cap).ownBlock) :
  AG X pr w c nd gg cap' (l ++ [⟨p,cc,k,a⟩]) w':=by
 subst hl;have h2:=(h.stand o).1;obtain ⟨cur,q2,q3,_⟩:=h2.sr.parts;refine ⟨h2.lf.other (by decide) (by decide) q3 h2.gt hgrow.size (fun q hq hn=>hgrow.block q hq (by simp only [Value.ownBlock,ne_eq,Option.some.injEq];exact fun e=>hn e)) ((Below.refl _ _).grown hgrow (by have:=h2.lf.tf.mm.bel.size;exact this) (by
  intro q hq;simp only [Value.ownBlock,Option.some.injEq] at hq;have:=h2.gt;have:=h2.lf.tf.base;omega)),?_⟩
 unfold SR;rw [List.length_append,List.length_singleton,flatS_push];exact hown
theorem AG.row (h:AG X pr w c nd g cap l wr) {n:Nat} (hl:l.length = n):wr.ownsRow (w.heap.size + 1 + 1 + 1) 234 13 (.slice (some ⟨g,0,none⟩) n cap) n (flatS l):=by
 subst hl;exact h.sr
theorem ag_start (h:LF X pr w c nd wr) (p cc k:Nat) (a:Caps):AG X pr w c nd wr.heap.size 1 [⟨p,cc,k,a⟩] (wr.alloc (.cells (SC p cc k a) 234)) :=
 ⟨h.below ((Below.refl _ _).alloc (Nat.le_refl _) _),World.ownsRow_lit (size:=13) wr (SC p cc k a) 1 (by have:=lt_heap' h.nb;omega) (by decide) rfl⟩
end
abbrev AGS (X:Par) (w:World) (c:Caps) (nd:Nd) (g:Nat) (q p cc k:Nat) (a:Caps) (w':World):Prop :=
 LW X w c nd w' /\ (w'.cell? ⟨g,q * 13,none⟩ = some (E (p:Nat)) /\ w'.cell? ⟨g,q * 13 + 1,none⟩ = some (E (cc:Nat)) /\ w'.cell? ⟨g,q * 13 + 2,none⟩ = some (E (k:Nat))) /\ w'.rangeAt g (q * 13 + 3) (CC a).toList
theorem AG.ags {X:Par} {pr:Nat -> Prop} {w wr:World} {c:Caps} {nd:Nd} {g cap:Nat} {r:List Std} {p cc k:Nat} {a:Caps} (h:AG X pr w c nd g cap (r ++ [⟨p,cc,k,a⟩]) wr):AGS X w c nd g r.length p cc k a wr:=⟨h.lf.ls,h.cells.1,h.cells.2.1⟩
end Go.Proofs.YtinallojhkaogaaGreatDoor.Mt
