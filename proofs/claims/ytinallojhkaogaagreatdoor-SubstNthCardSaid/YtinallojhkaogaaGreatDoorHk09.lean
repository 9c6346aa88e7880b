/- The texts RxNum RxNum2 RxLook SlB. -/
import Derived.Laws.EntriesVeiled
import Derived.RangeFuncBox
import Derived.Maps.AppendAt
import Derived.Test.YtinallojhkaogaaGreatDoorHk08
set_option linter.unusedVariables false
set_option linter.unusedSimpArgs false
set_option maxHeartbeats 2000000
set_option maxRecDepth 100000
namespace Go.Proofs.YtinallojhkaogaaGreatDoor.Rx
open Go.RowKit Go.Shelf
open St (Wf word zeroW)
open Tr
abbrev BA (l:List Bool):Array Value:=(l.map Value.bool).toArray
abbrev CLO (H:Nat):Array Value:=#[PT H,PT (H + 5),PT (H + 1),PT (H + 3),PT (H + 4),PT (H + 2)]
abbrev FV (H:Nat):Value:=.func (.func 128) #[] (CLO H)
structure NW (w0:World) (v:Value) (s:NSt) (w:World):Prop where
 l:w.heap[w0.heap.size]? = some (.cells #[v] 22 (0,0))
 g:w.heap[w0.heap.size + 1]? = some (.cells #[E s.g] 3 (0,0))
 r:w.heap[w0.heap.size + 2]? = some (.cells #[.bool s.r] 4 (0,0))
 ok:w.heap[w0.heap.size + 3]? = some (.cells #[.bool s.ok] 4 (0,0))
 e:w.heap[w0.heap.size + 4]? = some (.cells (BA s.e) 160 (0,0))
 f:w.heap[w0.heap.size + 5]? = some (.cells #[FV w0.heap.size] 188 (0,0))
 len:s.e.length = 10
 bel:Below w0.heap.size w0 w
structure Kp (w0 w w':World):Prop where
 size:w.heap.size <= w'.heap.size
 far:∀ k,w0.heap.size + 5 <= k -> k < w.heap.size -> w'.heap[k]? = w.heap[k]?
theorem Kp.refl (w0 w:World):Kp w0 w w:=⟨Nat.le_refl _,fun _ _ _=>rfl⟩
theorem Kp.trans {w0 a b c:World} (h:Kp w0 a b) (k:Kp w0 b c):Kp w0 a c:=⟨Nat.le_trans h.size k.size,fun i h1 h2=>(k.far i h1 (Nat.lt_of_lt_of_le h2 h.size)).trans (h.far i h1 h2)⟩
theorem Kp.alloc {w0 a b:World} (h:Kp w0 a b) (o:Obj):Kp w0 a (b.alloc o):=⟨by have:=h.size;simp;omega,fun i h1 h2=>(Below.heap_alloc _ _ _ (Nat.lt_of_lt_of_le h2 h.size)).trans (h.far i h1 h2)⟩
theorem Kp.set {w0 a b:World} (h:Kp w0 a b) {k:Nat} (hk:k < w0.heap.size + 5) (i:Nat) (u:Value):Kp w0 a (b.setCell ⟨k,i,none⟩ u) :=
 ⟨by have:=h.size;simpa using this,fun j h1 h2=>(Below.heap_setCell b ⟨k,i,none⟩ u j (by show j ≠ k;omega)).trans (h.far j h1 h2)⟩
theorem NW.cells {w0 w:World} {v:Value} {s:NSt} (h:NW w0 v s w) :
  (w.cell? ⟨w0.heap.size,0,none⟩ = some v /\ w.cell? ⟨w0.heap.size + 1,0,none⟩ = some (E s.g) /\ w.cell? ⟨w0.heap.size + 2,0,none⟩ = some (.bool s.r) /\ w.cell? ⟨w0.heap.size + 3,0,none⟩ = some (.bool s.ok) /\ w.cell? ⟨w0.heap.size + 5,0,none⟩ = some (FV w0.heap.size)) /\
  (w.frozen? ⟨w0.heap.size + 1,0,none⟩ = false /\ w.frozen? ⟨w0.heap.size + 2,0,none⟩ = false /\ w.frozen? ⟨w0.heap.size + 3,0,none⟩ = false) :=
 ⟨⟨cell_of_one h.l,cell_of_one h.g,cell_of_one h.r,cell_of_one h.ok,cell_of_one h.f⟩,free_of_one h.g,free_of_one h.r,free_of_one h.ok⟩
theorem NW.ended {w0 w:World} {v:Value} {s:NSt} (h:NW w0 v s w) {u:Nat} (hu:u < 10):w.cell? ⟨w0.heap.size + 4,u,none⟩ = some (.bool ((s.e[u]?).getD false)) /\ w.frozen? ⟨w0.heap.size + 4,u,none⟩ = false:=by
 have he:=h.e;have hl:=h.len;refine ⟨?_,by simp [World.frozen?,he]⟩;rw [Lib.cell_of_heap he];(have hu':u < s.e.length:=by omega);simp [List.getElem?_eq_getElem hu']
theorem NW.sz {w0 w:World} {v:Value} {s:NSt} (h:NW w0 v s w):w0.heap.size + 6 <= w.heap.size:=lt_heap' h.f
theorem NW.alloc {w0 w:World} {v:Value} {s:NSt} (h:NW w0 v s w) (o:Obj):NW w0 v s (w.alloc o):=by
 have hs:=h.sz;(have e:∀ {k o'},w.heap[k]? = some o' -> (w.alloc o).heap[k]? = some o':=fun hk=>(Below.heap_alloc _ _ _ (lt_heap' hk)).trans hk);exact ⟨e h.l,e h.g,e h.r,e h.ok,e h.e,e h.f,h.len,h.bel.alloc (by omega) _⟩
theorem setne {w:World} {a b i:Nat} {u:Value} {o:Obj} (h:w.heap[a]? = some o) (hne:a ≠ b):(w.setCell ⟨b,i,none⟩ u).heap[a]? = some o:=(Below.heap_setCell w ⟨b,i,none⟩ u a hne).trans h
theorem NW.setG {w0 w:World} {v:Value} {s:NSt} (h:NW w0 v s w) (x:Int):NW w0 v ⟨x,s.e,s.r,s.ok⟩ (w.setCell ⟨w0.heap.size + 1,0,none⟩ (E x)) :=
 ⟨setne h.l (by omega),one_setCell h.g,setne h.r (by omega),setne h.ok (by omega),setne h.e (by omega),setne h.f (by omega),h.len,h.bel.setCell (by simp) _⟩
theorem NW.setR {w0 w:World} {v:Value} {s:NSt} (h:NW w0 v s w) (x:Bool):NW w0 v ⟨s.g,s.e,x,s.ok⟩ (w.setCell ⟨w0.heap.size + 2,0,none⟩ (.bool x)) :=
 ⟨setne h.l (by omega),setne h.g (by omega),one_setCell h.r,setne h.ok (by omega),setne h.e (by omega),setne h.f (by omega),h.len,h.bel.setCell (by simp) _⟩
theorem NW.setO {w0 w:World} {v:Value} {s:NSt} (h:NW w0 v s w) (x:Bool):NW w0 v ⟨s.g,s.e,s.r,x⟩ (w.setCell ⟨w0.heap.size + 3,0,none⟩ (.bool x)) :=
 ⟨setne h.l (by omega),setne h.g (by omega),setne h.r (by omega),one_setCell h.ok,setne h.e (by omega),setne h.f (by omega),h.len,h.bel.setCell (by simp) _⟩
theorem NW.setE {w0 w:World} {v:Value} {s:NSt} (h:NW w0 v s w) (u:Nat):NW w0 v ⟨s.g,s.e.set u true,s.r,s.ok⟩ (w.setCell ⟨w0.heap.size + 4,u,none⟩ (.bool true)) :=
 ⟨setne h.l (by omega),setne h.g (by omega),setne h.r (by omega),setne h.ok (by omega),by
  have:=Go.Joins.block_setCell h.e (i:=u) (.bool true);rw [this]
  congr 2
  apply Array.ext';simp,setne h.f (by omega),by simpa using h.len,h.bel.setCell (by simp) _⟩
structure NN (w0:World) (v:Value) (s:NSt) (K:Nat) (n:Nd) (w:World):Prop where
 nw:NW w0 v s w
 nb:NB w K n
 far:w0.heap.size + 6 <= K
theorem NN.new {w0 w:World} {v:Value} {s:NSt} (h:NW w0 v s w) (n:Nd):NN w0 v s w.heap.size n (w.alloc (.cells (NC n) 72)):=⟨h.alloc _,heap_alloc_new _ _,h.sz⟩
theorem NN.node {w0 w:World} {v:Value} {s:NSt} {K:Nat} {n:Nd} (h:NN w0 v s K n w):NH w0 w K n:=NB.held h.nb h.nw.bel
theorem NN.step {w0 w w':World} {v:Value} {s s':NSt} {K:Nat} {n:Nd} (h:NN w0 v s K n w) (hn:NW w0 v s' w') (hk:Kp w0 w w'):NN w0 v s' K n w':=⟨hn,(hk.far K (by have:=h.far;omega) (lt_heap' h.nb)).trans h.nb,h.far⟩
theorem NN.setG {w0 w:World} {v:Value} {s:NSt} {K:Nat} {n:Nd} (h:NN w0 v s K n w) (x:Int):NN w0 v ⟨x,s.e,s.r,s.ok⟩ K n (w.setCell ⟨w0.heap.size + 1,0,none⟩ (E x)):=⟨h.nw.setG x,setne h.nb (by have:=h.far;omega),h.far⟩
theorem NN.setR {w0 w:World} {v:Value} {s:NSt} {K:Nat} {n:Nd} (h:NN w0 v s K n w) (x:Bool):NN w0 v ⟨s.g,s.e,x,s.ok⟩ K n (w.setCell ⟨w0.heap.size + 2,0,none⟩ (.bool x)):=⟨h.nw.setR x,setne h.nb (by have:=h.far;omega),h.far⟩
theorem NN.setO {w0 w:World} {v:Value} {s:NSt} {K:Nat} {n:Nd} (h:NN w0 v s K n w) (x:Bool):NN w0 v ⟨s.g,s.e,s.r,x⟩ K n (w.setCell ⟨w0.heap.size + 3,0,none⟩ (.bool x)):=⟨h.nw.setO x,setne h.nb (by have:=h.far;omega),h.far⟩
theorem NN.setE {w0 w:World} {v:Value} {s:NSt} {K:Nat} {n:Nd} (h:NN w0 v s K n w) (u:Nat):NN w0 v ⟨s.g,s.e.set u true,s.r,s.ok⟩ K n (w.setCell ⟨w0.heap.size + 4,u,none⟩ (.bool true)):=⟨h.nw.setE u,setne h.nb (by have:=h.far;omega),h.far⟩
abbrev Wlk (w0:World) (v:Value) (i:Nat) (f:NSt -> NSt) (s:NSt) (w:World):Prop :=
 Calls Tryz.prog 128 #[E (i:Nat),PT w0.heap.size,PT (w0.heap.size + 5),PT (w0.heap.size + 1),PT (w0.heap.size + 3),PT (w0.heap.size + 4),PT (w0.heap.size + 2)] w fun e w'=>e = .returned (.tuple #[]) /\ NW w0 v (f s) w' /\ Kp w0 w w'
theorem num_leaf (w0 w:World) (b0 o0 L c i:Nat) (s:NSt) (hi:(i:Int) < (L:Int)) (n:Nd) (h4:(n.k == 4) = false) (h5:(n.k == 5) = false) (h6:(n.k == 6) = false) (h7:(n.k == 7) = false) (h8:(n.k == 8) = false) (hN:NW w0 (.slice (some ⟨b0,o0,none⟩) L c) s w) (hq:NCell w b0 (o0 + i * 10) n) :
  Wlk w0 (.slice (some ⟨b0,o0,none⟩) L c) i (fun s=>s) s w:=by
 (have hi0:(0:Int) <= (i:Int):=by omega);have HN0:=Lib.hid hN;clear hN;obtain ⟨⟨c0,c1,c2,c3,c5⟩,cf1,cf2,cf3⟩:=HN0.out.cells;obtain ⟨q0,q1,q2,q3,q4,q5,q6,q7,q8,q9⟩:=hq;have HN1:=Lib.hid (NN.new HN0.out n);have HK1:=Lib.hid ((Kp.refl w0 w).alloc (.cells (NC n) 72));obtain ⟨⟨d0,d1,d2,d3,d5⟩,df1,df2,df3⟩:=HN1.out.nw.cells;obtain ⟨r0,r1,r2,r3,r4,r5,r6,r7,r8,r9,_⟩:=HN1.out.node;go_enter Tryz.func128,Tryz.ntmps128;go_wp2;go_end0;exact ⟨rfl,HN1.out.nw,HK1.out⟩
theorem num_4 (w0 w:World) (b0 o0 L c i:Nat) (s:NSt) (hi:(i:Int) < (L:Int)) (z:List Nat) (a b:Nat) (mn mx m:Int) (fa fb:NSt -> NSt) (HXa:Hid (∀ w,NW w0 (.slice (some ⟨b0,o0,none⟩) L c) (s) w -> Wlk w0 (.slice (some ⟨b0,o0,none⟩) L c) a fa (s) w)) (HXb:Hid (∀ w,NW w0 (.slice (some ⟨b0,o0,none⟩) L c) (fa s) w -> Wlk w0 (.slice (some ⟨b0,o0,none⟩) L c) b fb (fa s) w)) (hN:NW w0 (.slice (some ⟨b0,o0,none⟩) L c) s w) (hq:NCell w b0 (o0 + i * 10) ⟨4,z,(a:Nat),(b:Nat),mn,mx,m⟩) :
  Wlk w0 (.slice (some ⟨b0,o0,none⟩) L c) i (fun s=>fb (fa s)) s w:=by
 (have hi0:(0:Int) <= (i:Int):=by omega);have HN0:=Lib.hid hN;clear hN;obtain ⟨⟨c0,c1,c2,c3,c5⟩,cf1,cf2,cf3⟩:=HN0.out.cells;obtain ⟨q0,q1,q2,q3,q4,q5,q6,q7,q8,q9⟩:=hq;have HN1:=Lib.hid (NN.new HN0.out ⟨4,z,(a:Nat),(b:Nat),mn,mx,m⟩);have HK1:=Lib.hid ((Kp.refl w0 w).alloc (.cells (NC ⟨4,z,(a:Nat),(b:Nat),mn,mx,m⟩) 72));obtain ⟨⟨d0,d1,d2,d3,d5⟩,df1,df2,df3⟩:=HN1.out.nw.cells;obtain ⟨r0,r1,r2,r3,r4,r5,r6,r7,r8,r9,_⟩:=HN1.out.node;go_enter Tryz.func128,Tryz.ntmps128;go_wp2_with (first
  | (go_at_call 128;refine (HXa.out _ HN1.out.nw).mono ?_;rintro e w2 ⟨rfl,hn,hk⟩;have HN2:=Lib.hid (HN1.out.step hn hk);have HK2:=Lib.hid (HK1.out.trans hk);clear hn hk HXa;obtain ⟨⟨e0,e1,e2,e3,e5⟩,ef1,ef2,ef3⟩:=HN2.out.nw.cells;obtain ⟨t0,t1,t2,t3,t4,t5,t6,t7,t8,t9,_⟩:=HN2.out.node)
  | (go_at_call 128;refine (HXb.out _ HN2.out.nw).mono ?_;rintro e w3 ⟨rfl,hn,hk⟩;have HN3:=Lib.hid (HN2.out.step hn hk);have HK3:=Lib.hid (HK2.out.trans hk);clear hn hk HXb;obtain ⟨⟨f0,f1,f2,f3,f5⟩,ff1,ff2,ff3⟩:=HN3.out.nw.cells;obtain ⟨u0,u1,u2,u3,u4,u5,u6,u7,u8,u9,_⟩:=HN3.out.node))
 (all_goals go_end0);exact ⟨rfl,HN3.out.nw,HK3.out⟩
theorem num_5 (w0 w:World) (b0 o0 L c i:Nat) (s:NSt) (hi:(i:Int) < (L:Int)) (z:List Nat) (a b:Nat) (mn mx m:Int) (fa fb:NSt -> NSt) (HXa:Hid (∀ w,NW w0 (.slice (some ⟨b0,o0,none⟩) L c) (s) w -> Wlk w0 (.slice (some ⟨b0,o0,none⟩) L c) a fa (s) w)) (HXb:Hid (∀ w,NW w0 (.slice (some ⟨b0,o0,none⟩) L c) (fa s) w -> Wlk w0 (.slice (some ⟨b0,o0,none⟩) L c) b fb (fa s) w)) (hN:NW w0 (.slice (some ⟨b0,o0,none⟩) L c) s w) (hq:NCell w b0 (o0 + i * 10) ⟨5,z,(a:Nat),(b:Nat),mn,mx,m⟩) :
  Wlk w0 (.slice (some ⟨b0,o0,none⟩) L c) i (fun s=>fb (fa s)) s w:=by
 (have hi0:(0:Int) <= (i:Int):=by omega);have HN0:=Lib.hid hN;clear hN;obtain ⟨⟨c0,c1,c2,c3,c5⟩,cf1,cf2,cf3⟩:=HN0.out.cells;obtain ⟨q0,q1,q2,q3,q4,q5,q6,q7,q8,q9⟩:=hq;have HN1:=Lib.hid (NN.new HN0.out ⟨5,z,(a:Nat),(b:Nat),mn,mx,m⟩);have HK1:=Lib.hid ((Kp.refl w0 w).alloc (.cells (NC ⟨5,z,(a:Nat),(b:Nat),mn,mx,m⟩) 72));obtain ⟨⟨d0,d1,d2,d3,d5⟩,df1,df2,df3⟩:=HN1.out.nw.cells;obtain ⟨r0,r1,r2,r3,r4,r5,r6,r7,r8,r9,_⟩:=HN1.out.node;go_enter Tryz.func128,Tryz.ntmps128;go_wp2_with (first
  | (go_at_call 128;refine (HXa.out _ HN1.out.nw).mono ?_;rintro e w2 ⟨rfl,hn,hk⟩;have HN2:=Lib.hid (HN1.out.step hn hk);have HK2:=Lib.hid (HK1.out.trans hk);clear hn hk HXa;obtain ⟨⟨e0,e1,e2,e3,e5⟩,ef1,ef2,ef3⟩:=HN2.out.nw.cells;obtain ⟨t0,t1,t2,t3,t4,t5,t6,t7,t8,t9,_⟩:=HN2.out.node)
  | (go_at_call 128;refine (HXb.out _ HN2.out.nw).mono ?_;rintro e w3 ⟨rfl,hn,hk⟩;have HN3:=Lib.hid (HN2.out.step hn hk);have HK3:=Lib.hid (HK2.out.trans hk);clear hn hk HXb;obtain ⟨⟨f0,f1,f2,f3,f5⟩,ff1,ff2,ff3⟩:=HN3.out.nw.cells;obtain ⟨u0,u1,u2,u3,u4,u5,u6,u7,u8,u9,_⟩:=HN3.out.node))
 (all_goals go_end0);exact ⟨rfl,HN3.out.nw,HK3.out⟩
theorem num_6 (w0 w:World) (b0 o0 L c i:Nat) (s:NSt) (hi:(i:Int) < (L:Int)) (z:List Nat) (a:Nat) (b mn mx m:Int) (fa:NSt -> NSt) (HXa:Hid (∀ w,NW w0 (.slice (some ⟨b0,o0,none⟩) L c) (s) w -> Wlk w0 (.slice (some ⟨b0,o0,none⟩) L c) a fa (s) w)) (hN:NW w0 (.slice (some ⟨b0,o0,none⟩) L c) s w) (hq:NCell w b0 (o0 + i * 10) ⟨6,z,(a:Nat),b,mn,mx,m⟩) :
  Wlk w0 (.slice (some ⟨b0,o0,none⟩) L c) i (fun s=>fa s) s w:=by
 (have hi0:(0:Int) <= (i:Int):=by omega);have HN0:=Lib.hid hN;clear hN;obtain ⟨⟨c0,c1,c2,c3,c5⟩,cf1,cf2,cf3⟩:=HN0.out.cells;obtain ⟨q0,q1,q2,q3,q4,q5,q6,q7,q8,q9⟩:=hq;have HN1:=Lib.hid (NN.new HN0.out ⟨6,z,(a:Nat),b,mn,mx,m⟩);have HK1:=Lib.hid ((Kp.refl w0 w).alloc (.cells (NC ⟨6,z,(a:Nat),b,mn,mx,m⟩) 72));obtain ⟨⟨d0,d1,d2,d3,d5⟩,df1,df2,df3⟩:=HN1.out.nw.cells;obtain ⟨r0,r1,r2,r3,r4,r5,r6,r7,r8,r9,_⟩:=HN1.out.node;go_enter Tryz.func128,Tryz.ntmps128;go_wp2_with (go_at_call 128;refine (HXa.out _ HN1.out.nw).mono ?_;rintro e w2 ⟨rfl,hn,hk⟩;have HN2:=Lib.hid (HN1.out.step hn hk);have HK2:=Lib.hid (HK1.out.trans hk);clear hn hk HXa;obtain ⟨⟨e0,e1,e2,e3,e5⟩,ef1,ef2,ef3⟩:=HN2.out.nw.cells;obtain ⟨t0,t1,t2,t3,t4,t5,t6,t7,t8,t9,_⟩:=HN2.out.node);go_end0;exact ⟨rfl,HN2.out.nw,HK2.out⟩
theorem num_7f (w0 w:World) (b0 o0 L c i:Nat) (s:NSt) (hi:(i:Int) < (L:Int)) (z:List Nat) (a m:Nat) (b mn mx:Int) (fa:NSt -> NSt) (hm10:m < 10) (hg0:0 <= s.g) (hg1:s.g <= 1000) (hok:s.ok = false) (HXa:Hid (∀ w,NW w0 (.slice (some ⟨b0,o0,none⟩) L c) (⟨s.g + 1,s.e,s.r,false⟩) w -> Wlk w0 (.slice (some ⟨b0,o0,none⟩) L c) a fa (⟨s.g + 1,s.e,s.r,false⟩) w)) (hN:NW w0 (.slice (some ⟨b0,o0,none⟩) L c) s w) (hq:NCell w b0 (o0 + i * 10) ⟨7,z,(a:Nat),b,mn,mx,(m:Nat)⟩) :
  Wlk w0 (.slice (some ⟨b0,o0,none⟩) L c) i (fun s=>⟨(fa ⟨s.g + 1,s.e,s.r,false⟩).g,(fa ⟨s.g + 1,s.e,s.r,false⟩).e.set m true,(fa ⟨s.g + 1,s.e,s.r,false⟩).r,(fa ⟨s.g + 1,s.e,s.r,false⟩).ok⟩) s w:=by
 (have hi0:(0:Int) <= (i:Int):=by omega);have HN0:=Lib.hid hN;clear hN;obtain ⟨⟨c0,c1,c2,c3,c5⟩,cf1,cf2,cf3⟩:=HN0.out.cells;obtain ⟨q0,q1,q2,q3,q4,q5,q6,q7,q8,q9⟩:=hq;(have hw1:IntKind.i64.wrap (s.g + 1) = s.g + 1:=by rw [IntKind.wrap_i64];omega);(have hm0:(0:Int) <= (m:Int):=by omega);(have hm10':(m:Int) < 10:=by omega);have HN1:=Lib.hid (NN.new HN0.out ⟨7,z,(a:Nat),b,mn,mx,(m:Nat)⟩);have HK1:=Lib.hid ((Kp.refl w0 w).alloc (.cells (NC ⟨7,z,(a:Nat),b,mn,mx,(m:Nat)⟩) 72));obtain ⟨⟨d0,d1,d2,d3,d5⟩,df1,df2,df3⟩:=HN1.out.nw.cells;obtain ⟨r0,r1,r2,r3,r4,r5,r6,r7,r8,r9,_⟩:=HN1.out.node;have HN2:=Lib.hid (HN1.out.setG (s.g + 1));have HK2:=Lib.hid (HK1.out.set (k:=w0.heap.size + 1) (by omega) 0 (E (s.g + 1)));obtain ⟨⟨e0,e1,e2,e3,e5⟩,ef1,ef2,ef3⟩:=HN2.out.nw.cells;obtain ⟨t0,t1,t2,t3,t4,t5,t6,t7,t8,t9,_⟩:=HN2.out.node;have HN3:=Lib.hid (HN2.out.setO false);have HK3:=Lib.hid (HK2.out.set (k:=w0.heap.size + 3) (by omega) 0 (.bool false));obtain ⟨⟨f0,f1,f2,f3,f5⟩,ff1,ff2,ff3⟩:=HN3.out.nw.cells;obtain ⟨u0,u1,u2,u3,u4,u5,u6,u7,u8,u9,_⟩:=HN3.out.node;dsimp only at e0 e1 e2 e3 e5 f0 f1 f2 f3 f5;rw [hok] at c3 d3 e3;clear hok;go_enter Tryz.func128,Tryz.ntmps128;go_wp2_with (go_at_call 128;refine (HXa.out _ HN3.out.nw).mono ?_;rintro e w4 ⟨rfl,hn,hk⟩;have HN4:=Lib.hid (HN3.out.step hn hk);have HK4:=Lib.hid (HK3.out.trans hk);clear hn hk HXa;obtain ⟨⟨g0,g1,g2,g3,g5⟩,gf1,gf2,gf3⟩:=HN4.out.nw.cells;obtain ⟨v0,v1,v2,v3,v4,v5,v6,v7,v8,v9,_⟩:=HN4.out.node;obtain ⟨gc,gf⟩:=HN4.out.nw.ended hm10);go_end0;exact ⟨rfl,(HN4.out.setE m).nw,HK4.out.set (by omega) _ _⟩
theorem num_7t (w0 w:World) (b0 o0 L c i:Nat) (s:NSt) (hi:(i:Int) < (L:Int)) (z:List Nat) (a m:Nat) (b mn mx:Int) (fa:NSt -> NSt) (hm10:m < 10) (hg0:0 <= s.g) (hg1:s.g <= 1000) (hok:s.ok = true) (hm:((m:Int) == s.g + 1) = true) (HXa:Hid (∀ w,NW w0 (.slice (some ⟨b0,o0,none⟩) L c) (⟨s.g + 1,s.e,s.r,true⟩) w -> Wlk w0 (.slice (some ⟨b0,o0,none⟩) L c) a fa (⟨s.g + 1,s.e,s.r,true⟩) w)) (hN:NW w0 (.slice (some ⟨b0,o0,none⟩) L c) s w) (hq:NCell w b0 (o0 + i * 10) ⟨7,z,(a:Nat),b,mn,mx,(m:Nat)⟩) :
  Wlk w0 (.slice (some ⟨b0,o0,none⟩) L c) i (fun s=>⟨(fa ⟨s.g + 1,s.e,s.r,true⟩).g,(fa ⟨s.g + 1,s.e,s.r,true⟩).e.set m true,(fa ⟨s.g + 1,s.e,s.r,true⟩).r,(fa ⟨s.g + 1,s.e,s.r,true⟩).ok⟩) s w:=by
 (have hi0:(0:Int) <= (i:Int):=by omega);have HN0:=Lib.hid hN;clear hN;obtain ⟨⟨c0,c1,c2,c3,c5⟩,cf1,cf2,cf3⟩:=HN0.out.cells;obtain ⟨q0,q1,q2,q3,q4,q5,q6,q7,q8,q9⟩:=hq;(have hw1:IntKind.i64.wrap (s.g + 1) = s.g + 1:=by rw [IntKind.wrap_i64];omega);(have hm0:(0:Int) <= (m:Int):=by omega);(have hm10':(m:Int) < 10:=by omega);have HN1:=Lib.hid (NN.new HN0.out ⟨7,z,(a:Nat),b,mn,mx,(m:Nat)⟩);have HK1:=Lib.hid ((Kp.refl w0 w).alloc (.cells (NC ⟨7,z,(a:Nat),b,mn,mx,(m:Nat)⟩) 72));obtain ⟨⟨d0,d1,d2,d3,d5⟩,df1,df2,df3⟩:=HN1.out.nw.cells;obtain ⟨r0,r1,r2,r3,r4,r5,r6,r7,r8,r9,_⟩:=HN1.out.node;have HN2:=Lib.hid (HN1.out.setG (s.g + 1));have HK2:=Lib.hid (HK1.out.set (k:=w0.heap.size + 1) (by omega) 0 (E (s.g + 1)));obtain ⟨⟨e0,e1,e2,e3,e5⟩,ef1,ef2,ef3⟩:=HN2.out.nw.cells;obtain ⟨t0,t1,t2,t3,t4,t5,t6,t7,t8,t9,_⟩:=HN2.out.node;have HN3:=Lib.hid (HN2.out.setO true);have HK3:=Lib.hid (HK2.out.set (k:=w0.heap.size + 3) (by omega) 0 (.bool true));obtain ⟨⟨f0,f1,f2,f3,f5⟩,ff1,ff2,ff3⟩:=HN3.out.nw.cells;obtain ⟨u0,u1,u2,u3,u4,u5,u6,u7,u8,u9,_⟩:=HN3.out.node;dsimp only at e0 e1 e2 e3 e5 f0 f1 f2 f3 f5;rw [hok] at c3 d3 e3;clear hok;go_enter Tryz.func128,Tryz.ntmps128;go_wp2_with (go_at_call 128;refine (HXa.out _ HN3.out.nw).mono ?_;rintro e w4 ⟨rfl,hn,hk⟩;have HN4:=Lib.hid (HN3.out.step hn hk);have HK4:=Lib.hid (HK3.out.trans hk);clear hn hk HXa;obtain ⟨⟨g0,g1,g2,g3,g5⟩,gf1,gf2,gf3⟩:=HN4.out.nw.cells;obtain ⟨v0,v1,v2,v3,v4,v5,v6,v7,v8,v9,_⟩:=HN4.out.node;obtain ⟨gc,gf⟩:=HN4.out.nw.ended hm10);go_end0;exact ⟨rfl,(HN4.out.setE m).nw,HK4.out.set (by omega) _ _⟩
theorem num_7n (w0 w:World) (b0 o0 L c i:Nat) (s:NSt) (hi:(i:Int) < (L:Int)) (z:List Nat) (a m:Nat) (b mn mx:Int) (fa:NSt -> NSt) (hm10:m < 10) (hg0:0 <= s.g) (hg1:s.g <= 1000) (hok:s.ok = true) (hm:((m:Int) == s.g + 1) = false) (HXa:Hid (∀ w,NW w0 (.slice (some ⟨b0,o0,none⟩) L c) (⟨s.g + 1,s.e,s.r,false⟩) w -> Wlk w0 (.slice (some ⟨b0,o0,none⟩) L c) a fa (⟨s.g + 1,s.e,s.r,false⟩) w)) (hN:NW w0 (.slice (some ⟨b0,o0,none⟩) L c) s w) (hq:NCell w b0 (o0 + i * 10) ⟨7,z,(a:Nat),b,mn,mx,(m:Nat)⟩) :
  Wlk w0 (.slice (some ⟨b0,o0,none⟩) L c) i (fun s=>⟨(fa ⟨s.g + 1,s.e,s.r,false⟩).g,(fa ⟨s.g + 1,s.e,s.r,false⟩).e.set m true,(fa ⟨s.g + 1,s.e,s.r,false⟩).r,(fa ⟨s.g + 1,s.e,s.r,false⟩).ok⟩) s w:=by
 (have hi0:(0:Int) <= (i:Int):=by omega);have HN0:=Lib.hid hN;clear hN;obtain ⟨⟨c0,c1,c2,c3,c5⟩,cf1,cf2,cf3⟩:=HN0.out.cells;obtain ⟨q0,q1,q2,q3,q4,q5,q6,q7,q8,q9⟩:=hq;(have hw1:IntKind.i64.wrap (s.g + 1) = s.g + 1:=by rw [IntKind.wrap_i64];omega);(have hm0:(0:Int) <= (m:Int):=by omega);(have hm10':(m:Int) < 10:=by omega);have HN1:=Lib.hid (NN.new HN0.out ⟨7,z,(a:Nat),b,mn,mx,(m:Nat)⟩);have HK1:=Lib.hid ((Kp.refl w0 w).alloc (.cells (NC ⟨7,z,(a:Nat),b,mn,mx,(m:Nat)⟩) 72));obtain ⟨⟨d0,d1,d2,d3,d5⟩,df1,df2,df3⟩:=HN1.out.nw.cells;obtain ⟨r0,r1,r2,r3,r4,r5,r6,r7,r8,r9,_⟩:=HN1.out.node;have HN2:=Lib.hid (HN1.out.setG (s.g + 1));have HK2:=Lib.hid (HK1.out.set (k:=w0.heap.size + 1) (by omega) 0 (E (s.g + 1)));obtain ⟨⟨e0,e1,e2,e3,e5⟩,ef1,ef2,ef3⟩:=HN2.out.nw.cells;obtain ⟨t0,t1,t2,t3,t4,t5,t6,t7,t8,t9,_⟩:=HN2.out.node;have HN3:=Lib.hid (HN2.out.setO false);have HK3:=Lib.hid (HK2.out.set (k:=w0.heap.size + 3) (by omega) 0 (.bool false));obtain ⟨⟨f0,f1,f2,f3,f5⟩,ff1,ff2,ff3⟩:=HN3.out.nw.cells;obtain ⟨u0,u1,u2,u3,u4,u5,u6,u7,u8,u9,_⟩:=HN3.out.node;dsimp only at e0 e1 e2 e3 e5 f0 f1 f2 f3 f5;rw [hok] at c3 d3 e3;clear hok;go_enter Tryz.func128,Tryz.ntmps128;go_wp2_with (go_at_call 128;refine (HXa.out _ HN3.out.nw).mono ?_;rintro e w4 ⟨rfl,hn,hk⟩;have HN4:=Lib.hid (HN3.out.step hn hk);have HK4:=Lib.hid (HK3.out.trans hk);clear hn hk HXa;obtain ⟨⟨g0,g1,g2,g3,g5⟩,gf1,gf2,gf3⟩:=HN4.out.nw.cells;obtain ⟨v0,v1,v2,v3,v4,v5,v6,v7,v8,v9,_⟩:=HN4.out.node;obtain ⟨gc,gf⟩:=HN4.out.nw.ended hm10);go_end0;exact ⟨rfl,(HN4.out.setE m).nw,HK4.out.set (by omega) _ _⟩
theorem num_8f (w0 w:World) (b0 o0 L c i:Nat) (s:NSt) (hi:(i:Int) < (L:Int)) (z:List Nat) (m:Nat) (a b mn mx:Int) (hm10:m < 10) (hok:s.ok = false) (hN:NW w0 (.slice (some ⟨b0,o0,none⟩) L c) s w) (hq:NCell w b0 (o0 + i * 10) ⟨8,z,a,b,mn,mx,(m:Nat)⟩) :
  Wlk w0 (.slice (some ⟨b0,o0,none⟩) L c) i (fun s=>⟨s.g,s.e,true,false⟩) s w:=by
 (have hi0:(0:Int) <= (i:Int):=by omega);have HN0:=Lib.hid hN;clear hN;obtain ⟨⟨c0,c1,c2,c3,c5⟩,cf1,cf2,cf3⟩:=HN0.out.cells;obtain ⟨q0,q1,q2,q3,q4,q5,q6,q7,q8,q9⟩:=hq;(have hm0:(0:Int) <= (m:Int):=by omega);(have hm10':(m:Int) < 10:=by omega);have HN1:=Lib.hid (NN.new HN0.out ⟨8,z,a,b,mn,mx,(m:Nat)⟩);have HK1:=Lib.hid ((Kp.refl w0 w).alloc (.cells (NC ⟨8,z,a,b,mn,mx,(m:Nat)⟩) 72));obtain ⟨⟨d0,d1,d2,d3,d5⟩,df1,df2,df3⟩:=HN1.out.nw.cells;obtain ⟨r0,r1,r2,r3,r4,r5,r6,r7,r8,r9,_⟩:=HN1.out.node;have HN2:=Lib.hid (HN1.out.setR true);have HK2:=Lib.hid (HK1.out.set (k:=w0.heap.size + 2) (by omega) 0 (.bool true));obtain ⟨⟨e0,e1,e2,e3,e5⟩,ef1,ef2,ef3⟩:=HN2.out.nw.cells;obtain ⟨t0,t1,t2,t3,t4,t5,t6,t7,t8,t9,_⟩:=HN2.out.node;obtain ⟨gc,gf⟩:=HN2.out.nw.ended hm10;dsimp only at e0 e1 e2 e3 e5 gc;rw [hok] at c3 d3 e3;generalize hx:(s.e[m]?).getD false = x at gc;have HN3:=Lib.hid (HN2.out.setO false);have HK3:=Lib.hid (HK2.out.set (k:=w0.heap.size + 3) (by omega) 0 (.bool false));clear hok;go_enter Tryz.func128,Tryz.ntmps128;go_wp2;go_end0;exact ⟨rfl,HN3.out.nw,HK3.out⟩
theorem num_8t (w0 w:World) (b0 o0 L c i:Nat) (s:NSt) (hi:(i:Int) < (L:Int)) (z:List Nat) (m:Nat) (a b mn mx:Int) (hm10:m < 10) (hok:s.ok = true) (hN:NW w0 (.slice (some ⟨b0,o0,none⟩) L c) s w) (hq:NCell w b0 (o0 + i * 10) ⟨8,z,a,b,mn,mx,(m:Nat)⟩) :
  Wlk w0 (.slice (some ⟨b0,o0,none⟩) L c) i (fun s=>⟨s.g,s.e,true,((s.e[m]?).getD false)⟩) s w:=by
 (have hi0:(0:Int) <= (i:Int):=by omega);have HN0:=Lib.hid hN;clear hN;obtain ⟨⟨c0,c1,c2,c3,c5⟩,cf1,cf2,cf3⟩:=HN0.out.cells;obtain ⟨q0,q1,q2,q3,q4,q5,q6,q7,q8,q9⟩:=hq;(have hm0:(0:Int) <= (m:Int):=by omega);(have hm10':(m:Int) < 10:=by omega);have HN1:=Lib.hid (NN.new HN0.out ⟨8,z,a,b,mn,mx,(m:Nat)⟩);have HK1:=Lib.hid ((Kp.refl w0 w).alloc (.cells (NC ⟨8,z,a,b,mn,mx,(m:Nat)⟩) 72));obtain ⟨⟨d0,d1,d2,d3,d5⟩,df1,df2,df3⟩:=HN1.out.nw.cells;obtain ⟨r0,r1,r2,r3,r4,r5,r6,r7,r8,r9,_⟩:=HN1.out.node;have HN2:=Lib.hid (HN1.out.setR true);have HK2:=Lib.hid (HK1.out.set (k:=w0.heap.size + 2) (by omega) 0 (.bool true));obtain ⟨⟨e0,e1,e2,e3,e5⟩,ef1,ef2,ef3⟩:=HN2.out.nw.cells;obtain ⟨t0,t1,t2,t3,t4,t5,t6,t7,t8,t9,_⟩:=HN2.out.node;obtain ⟨gc,gf⟩:=HN2.out.nw.ended hm10;dsimp only at e0 e1 e2 e3 e5 gc;rw [hok] at c3 d3 e3;generalize hx:(s.e[m]?).getD false = x at gc;have HN3:=Lib.hid (HN2.out.setO x);have HK3:=Lib.hid (HK2.out.set (k:=w0.heap.size + 3) (by omega) 0 (.bool x));clear hok;go_enter Tryz.func128,Tryz.ntmps128;go_wp2;go_end0;exact ⟨rfl,by subst hx;exact HN3.out.nw,HK3.out⟩
theorem num_tree (em:Prop) (w0:World) (b0 o0 c:Nat) (l:List Nd) (hNS:Ns w0 (.slice (some ⟨b0,o0,none⟩) l.length c) l) :
  ∀ (t:Tr) (o:Nat) (s:NSt) (w:World),t.Fine em -> At l t o -> 0 <= s.g -> s.g + cnt t <= 1000 -> NW w0 (.slice (some ⟨b0,o0,none⟩) l.length c) s w -> Wlk w0 (.slice (some ⟨b0,o0,none⟩) l.length c) (o + t.size - 1) (numT t) s w:=by
 have key:∀ (t:Tr) (o:Nat) (s:NSt) (w:World),At l t o -> NW w0 (.slice (some ⟨b0,o0,none⟩) l.length c) s w -> ((o + t.size - 1:Nat):Int) < ((l.length:Nat):Int) /\ NCell w b0 (o0 + (o + t.size - 1) * 10) (t.root o):=by
  intro t o s w ha hN;have h:=at_root ha;obtain ⟨hi,e⟩:=List.getElem?_eq_some_iff.1 h;obtain ⟨b,o',e1,hc⟩:=(hNS.below hN.bel).at hi;simp only [Option.some.injEq,Addr.mk.injEq,and_true] at e1;obtain ⟨rfl,rfl⟩:=e1;rw [e] at hc;exact ⟨by omega,hc⟩
 intro t
 induction t with
 | e | set z | beg | fin =>
  intro o s w hf ha hg hg2 hN;obtain ⟨k1,k2⟩:=key _ o s w ha hN;exact num_leaf w0 w b0 o0 l.length c _ s k1 _ rfl rfl rfl rfl rfl hN k2
 | cat x y ihx ihy =>
  intro o s w hf ha hg hg2 hN;obtain ⟨k1,k2⟩:=key _ o s w ha hN;have px:=cnt_pos x;have py:=cnt_pos y;simp only [cnt] at hg2;have hx:At l x o:=at_left (r:=y.nodes (o + x.size) ++ [(Tr.cat x y).root o]) ha (by simp only [nodes,List.append_assoc]);have hy:At l y (o + x.size):=at_right (x:=x) (r:=[(Tr.cat x y).root o]) ha (by simp only [nodes,List.append_assoc]);exact num_4 w0 w b0 o0 l.length c _ s k1 z4 (o + x.size - 1) (o + x.size + y.size - 1) 0 0 0 (numT x) (numT y)
   (Hd fun w hN=>ihx o s w hf.1 hx hg (by omega) hN) (Hd fun w hN=>ihy (o + x.size) _ w hf.2.1 hy (by rw [num_g];omega) (by rw [num_g];omega) hN) hN k2
 | alt x y ihx ihy =>
  intro o s w hf ha hg hg2 hN;obtain ⟨k1,k2⟩:=key _ o s w ha hN;have px:=cnt_pos x;have py:=cnt_pos y;simp only [cnt] at hg2;have hx:At l x o:=at_left (r:=y.nodes (o + x.size) ++ [(Tr.alt x y).root o]) ha (by simp only [nodes,List.append_assoc]);have hy:At l y (o + x.size):=at_right (x:=x) (r:=[(Tr.alt x y).root o]) ha (by simp only [nodes,List.append_assoc]);exact num_5 w0 w b0 o0 l.length c _ s k1 z4 (o + x.size - 1) (o + x.size + y.size - 1) 0 0 0 (numT x) (numT y)
   (Hd fun w hN=>ihx o s w hf.1 hx hg (by omega) hN) (Hd fun w hN=>ihy (o + x.size) _ w hf.2.1 hy (by rw [num_g];omega) (by rw [num_g];omega) hN) hN k2
 | times mn mx x ihx =>
  intro o s w hf ha hg hg2 hN;obtain ⟨k1,k2⟩:=key _ o s w ha hN;simp only [cnt] at hg2;have hx:At l x o:=at_left (r:=[(Tr.times mn mx x).root o]) ha rfl;exact num_6 w0 w b0 o0 l.length c _ s k1 z4 (o + x.size - 1) 0 mn mx 0 (numT x) (Hd fun w hN=>ihx o s w hf.1 hx hg (by omega) hN) hN k2
 | grp n x ihx =>
  intro o s w hf ha hg hg2 hN;obtain ⟨k1,k2⟩:=key _ o s w ha hN;have px:=cnt_pos x;simp only [cnt] at hg2;have hx:At l x o:=at_left (r:=[(Tr.grp n x).root o]) ha rfl;obtain ⟨h1,h2,h3⟩:=hf;obtain ⟨u,rfl⟩:∃ u:Nat,n = u:=⟨n.toNat,by omega⟩;cases hok:s.ok with
  | false =>
   (have e:numT (.grp (u:Int) x) s = (fun s:NSt=>(⟨(numT x ⟨s.g + 1,s.e,s.r,false⟩).g,(numT x ⟨s.g + 1,s.e,s.r,false⟩).e.set u true,(numT x ⟨s.g + 1,s.e,s.r,false⟩).r,(numT x ⟨s.g + 1,s.e,s.r,false⟩).ok⟩:NSt)) s:=by simp only [numT,hok,Bool.false_and,Int.toNat_natCast]);have h:=num_7f w0 w b0 o0 l.length c _ s k1 z4 (o + x.size - 1) u 0 0 0 (numT x) (by omega) hg (by omega) hok (Hd fun w hN=>ihx o _ w h1 hx (by show 0 <= s.g + 1;omega) (by show s.g + 1 + cnt x <= 1000;omega) hN) hN k2;unfold Wlk;rw [e];exact h
  | true =>
   by_cases hm:(u:Int) = s.g + 1
   · (have e:numT (.grp (u:Int) x) s = (fun s:NSt=>(⟨(numT x ⟨s.g + 1,s.e,s.r,true⟩).g,(numT x ⟨s.g + 1,s.e,s.r,true⟩).e.set u true,(numT x ⟨s.g + 1,s.e,s.r,true⟩).r,(numT x ⟨s.g + 1,s.e,s.r,true⟩).ok⟩:NSt)) s:=by simp only [numT,hok,decide_eq_true hm,Bool.and_self,Int.toNat_natCast]);have h:=num_7t w0 w b0 o0 l.length c _ s k1 z4 (o + x.size - 1) u 0 0 0 (numT x) (by omega) hg (by omega) hok (by rw [beq_iff_eq];exact hm) (Hd fun w hN=>ihx o _ w h1 hx (by show 0 <= s.g + 1;omega) (by show s.g + 1 + cnt x <= 1000;omega) hN) hN k2;unfold Wlk;rw [e];exact h
   · (have e:numT (.grp (u:Int) x) s = (fun s:NSt=>(⟨(numT x ⟨s.g + 1,s.e,s.r,false⟩).g,(numT x ⟨s.g + 1,s.e,s.r,false⟩).e.set u true,(numT x ⟨s.g + 1,s.e,s.r,false⟩).r,(numT x ⟨s.g + 1,s.e,s.r,false⟩).ok⟩:NSt)) s:=by simp only [numT,hok,decide_eq_false hm,Bool.and_false,Int.toNat_natCast]);have h:=num_7n w0 w b0 o0 l.length c _ s k1 z4 (o + x.size - 1) u 0 0 0 (numT x) (by omega) hg (by omega) hok (by rw [beq_eq_false_iff_ne];exact hm) (Hd fun w hN=>ihx o _ w h1 hx (by show 0 <= s.g + 1;omega) (by show s.g + 1 + cnt x <= 1000;omega) hN) hN k2;unfold Wlk;rw [e];exact h
 | ref n =>
  intro o s w hf ha hg hg2 hN;obtain ⟨k1,k2⟩:=key _ o s w ha hN;obtain ⟨h1,h2⟩:=hf;obtain ⟨u,rfl⟩:∃ u:Nat,n = u:=⟨n.toNat,by omega⟩;cases hok:s.ok with
  | false =>
   (have e:numT (.ref (u:Int)) s = (fun s:NSt=>(⟨s.g,s.e,true,false⟩:NSt)) s:=by simp only [numT,hok,Bool.false_and]);have h:=num_8f w0 w b0 o0 l.length c _ s k1 z4 u 0 0 0 0 (by omega) hok hN k2;unfold Wlk;rw [e];exact h
  | true =>
   (have e:numT (.ref (u:Int)) s = (fun s:NSt=>(⟨s.g,s.e,true,(s.e[u]?).getD false⟩:NSt)) s:=by simp only [numT,hok,Bool.true_and,Int.toNat_natCast]);have h:=num_8t w0 w b0 o0 l.length c _ s k1 z4 u 0 0 0 0 (by omega) hok hN k2;unfold Wlk;rw [e];exact h
def NA (w0:World) (v:Value) (s:NSt) (w:World):Prop:=NW w0 v s w /\
  (w.cell? ⟨w0.heap.size + 1,0,none⟩ = some (E s.g) /\ w.cell? ⟨w0.heap.size + 1 + 1,0,none⟩ = some (.bool s.r) /\ w.cell? ⟨w0.heap.size + 1 + 1 + 1,0,none⟩ = some (.bool s.ok)) /\
  (w.frozen? ⟨w0.heap.size + 1,0,none⟩ = false /\ w.frozen? ⟨w0.heap.size + 1 + 1,0,none⟩ = false /\ w.frozen? ⟨w0.heap.size + 1 + 1 + 1,0,none⟩ = false)
theorem NW.all {w0 w:World} {v:Value} {s:NSt} (h:NW w0 v s w):NA w0 v s w:=⟨h,⟨h.cells.1.2.1,h.cells.1.2.2.1,h.cells.1.2.2.2.1⟩,h.cells.2⟩
theorem NW.drew {w0 w:World} {v:Value} {s:NSt} (h:NW w0 v s w):NW w0 v s w.drew:=⟨h.l,h.g,h.r,h.ok,h.e,h.f,h.len,h.bel.drew⟩
abbrev F10:Array Value:=#[.bool false,.bool false,.bool false,.bool false,.bool false,.bool false,.bool false,.bool false,.bool false,.bool false]
theorem nw_start (w:World) (v:Value):NW w v num0 ((((((w.alloc (.cells #[v] 22)).alloc (.cells #[E 0] 3)).alloc (.cells #[.bool false] 4)).alloc (.cells #[.bool true] 4)).alloc (.cells F10 160)).alloc (.cells #[FV w.heap.size] 188)):=by
 (have key:∀ (W:World) (o:Obj) (k:Nat),k = W.heap.size -> (W.alloc o).heap[k]? = some o:=fun W o k h=>by subst h;exact heap_alloc_new W o);(have far:∀ (W:World) (o o':Obj) (k:Nat),k < W.heap.size -> W.heap[k]? = some o' -> (W.alloc o).heap[k]? = some o':=fun W o o' k h h2=>(Below.heap_alloc _ _ _ h).trans h2);refine ⟨?_,?_,?_,?_,?_,?_,rfl,?_⟩
 · exact far _ _ _ _ (by simp;try omega) (far _ _ _ _ (by simp;try omega) (far _ _ _ _ (by simp;try omega) (far _ _ _ _ (by simp;try omega) (far _ _ _ _ (by simp) (key _ _ _ rfl)))))
 · exact far _ _ _ _ (by simp;try omega) (far _ _ _ _ (by simp;try omega) (far _ _ _ _ (by simp;try omega) (far _ _ _ _ (by simp) (key _ _ _ (by simp)))))
 · exact far _ _ _ _ (by simp;try omega) (far _ _ _ _ (by simp;try omega) (far _ _ _ _ (by simp) (key _ _ _ (by simp))))
 · exact far _ _ _ _ (by simp;try omega) (far _ _ _ _ (by simp) (key _ _ _ (by simp)))
 · exact far _ _ _ _ (by simp) (key _ _ _ (by simp))
 · exact key _ _ _ (by simp)
 · exact (((((Below.refl w.heap.size w).alloc (Nat.le_refl _) _).alloc (by simp) _).alloc (by simp;omega) _).alloc (by simp;omega) _).alloc (by simp;omega) _ |>.alloc (by simp;omega) _
theorem results_cell3 {fn:Func} {p q r:Tmp} {a b c:TypeId} (h:fn.results = #[.cell p a,.cell q b,.cell r c]) (tmps:Array Value) (P:Program) (w:World) :
  (results fn tmps).run P w =
   ((asAddr (tmps.getD p undef)).run P w).andThen fun x w₁=>((loadVar a x).run P w₁).andThen fun v w₂ =>
   ((asAddr (tmps.getD q undef)).run P w₂).andThen fun x w₁=>((loadVar b x).run P w₁).andThen fun v' w₂ =>
   ((asAddr (tmps.getD r undef)).run P w₂).andThen fun x w₁=>((loadVar c x).run P w₁).andThen fun v'' w₂=>.ok (.tuple #[v,v',v'']) w₂:=by
 simp only [results,h];simp [Sem.run_bind,Result.andThen]
theorem numbered_tree (t:Tr) (ao:Option Addr) (c:Nat) (w:World) (h:Ns w (.slice ao (t.nodes 0).length c) (t.nodes 0)) (hw:Whole t) (hs:t.size <= 120) :
  Calls Tryz.prog 101 #[.slice ao (t.nodes 0).length c] w fun e w'=>e = .returned (.tuple #[E (numT t num0).g,.bool (numT t num0).r,.bool (numT t num0).ok]) /\ Below w.heap.size w w':=by
 have hp:=size_pos t;have hlen:=nodes_len t 0;(have hmf:∀ (fn:Fn) (first cap:Array Value) (w:World),(Instr.makeFunc fn first cap).run Tryz.prog w = .ok (.func fn first cap) w:=fun _ _ _ _=>rfl);obtain ⟨b0,o0,rfl,_⟩:=h.at (i:=0) (by omega);obtain ⟨s1,hs1⟩:∃ s1,s1 = numT t num0:=⟨_,rfl⟩;rw [<- hs1];have HC:Hid (∀ W,NW w (.slice (some ⟨b0,o0,none⟩) t.size c) num0 W -> Wlk w (.slice (some ⟨b0,o0,none⟩) t.size c) (t.size - 1) (fun _=>s1) num0 W):=Hd (fun W hN=>by
  subst hs1;rw [<- hlen] at hN ⊢;have:=num_tree (t.size <= 1) w b0 o0 c _ h t 0 num0 W hw (at_self t) (by decide) (by
   have:=cnt_size t;show 0 + cnt t <= 1000;omega) hN
  rw [Nat.zero_add,<- hlen] at this;exact this)
 clear hs1;rw [hlen];clear h;(have hlt:(1:Int) <= ((t.size:Nat):Int):=by omega);(have hsub:IntKind.i64.wrap (((t.size:Nat):Int) - 1) = ((t.size - 1:Nat):Int):=by rw [IntKind.wrap_i64];omega);go_enter Tryz.func101,Tryz.ntmps101;go_wp2_with (go_at_call 128;refine (HC.out _ (nw_start w _)).mono ?_;rintro e w1 ⟨rfl,hn,hk⟩;have HN1:=Hd hn;obtain ⟨⟨c0,c1,c2,c3,c5⟩,cf1,cf2,cf3⟩:=HN1.out.cells;have HN2:=Hd HN1.out.drew;clear hn hk);refine Tk.g (fun w'=>NW w (.slice (some ⟨b0,o0,none⟩) t.size c) s1 w' /\ (w'.cell? ⟨w.heap.size + 1,0,none⟩ = some (E s1.g) /\ w'.cell? ⟨w.heap.size + 1 + 1,0,none⟩ = some (.bool s1.r) /\ w'.cell? ⟨w.heap.size + 1 + 1 + 1,0,none⟩ = some (.bool s1.ok)) /\
  (w'.frozen? ⟨w.heap.size + 1,0,none⟩ = false /\ w'.frozen? ⟨w.heap.size + 1 + 1,0,none⟩ = false /\ w'.frozen? ⟨w.heap.size + 1 + 1 + 1,0,none⟩ = false)) (by exact HN2.out.all) fun hH=>?_
 clear HN1 HN2;generalize w1.drew = w2 at *;refine Tk.t 0 ?_;refine Tk.t 1 ?_;refine Tk.t 2 ?_;refine Tk.o 3 (fun K hK=>?_);obtain ⟨hN0,⟨y0,y1,y2⟩,y3,y4,y5⟩:=hH;go_simp;refine hK.out _ _ ?_ (fun hH=>Tk.w ?_)
 · (try dsimp only);(first | exact (NW.setG hN0 s1.g).all | exact (NW.setR hN0 s1.r).all | exact (NW.setO hN0 s1.ok).all)
 clear hK K;refine Tk.o 4 (fun K hK=>?_);obtain ⟨hN0,⟨y0,y1,y2⟩,y3,y4,y5⟩:=hH;go_simp;refine hK.out _ _ ?_ (fun hH=>Tk.w ?_)
 · (try dsimp only);(first | exact (NW.setG hN0 s1.g).all | exact (NW.setR hN0 s1.r).all | exact (NW.setO hN0 s1.ok).all)
 clear hK K;refine Tk.o 5 (fun K hK=>?_);obtain ⟨hN0,⟨y0,y1,y2⟩,y3,y4,y5⟩:=hH;go_simp;refine hK.out _ _ ?_ (fun hH=>Tk.w ?_)
 · (try dsimp only);(first | exact (NW.setG hN0 s1.g).all | exact (NW.setR hN0 s1.r).all | exact (NW.setO hN0 s1.ok).all)
 clear hK K;refine Tk.d ?_;have HZ:=Hd hH;obtain ⟨_,⟨y0,y1,y2⟩,_⟩:=hH;go_wp2;refine bodyPost_ret (v:=.tuple #[E s1.g,.bool s1.r,.bool s1.ok]) ?_ rfl ⟨rfl,HZ.out.1.bel⟩;rw [results_cell3 rfl];go_simp
abbrev LR (l:List Nd):Value:=.tuple #[E (groupsL l),.bool (refsL l),.bool (mayL l)]
theorem lr_none {l:List Nd} (h:patOf l = none):LR l = .tuple #[E 0,.bool false,.bool false]:=by
 unfold LR groupsL refsL mayL;rw [h];rfl
theorem lr_some {l:List Nd} {t:Tr} (h:patOf l = some t):LR l = .tuple #[E (cnt t),.bool (decide (0 < refsT t)),.bool true]:=by
 unfold LR groupsL refsL mayL;rw [h];rfl
theorem pat_long {l:List Nd} (h:120 < l.length):patOf l = none:=by
 cases e:patOf l with
 | none=>rfl
 | some t =>
  obtain ⟨h1,h2⟩:=patOf_some e;have:=h2.2.1;rw [h1,nodes_len] at h;omega
theorem pat_out {l:List Nd} (h:¬ Ordered l):patOf l = none:=by
 cases e:patOf l with
 | none=>rfl
 | some t =>
  obtain ⟨h1,h2⟩:=patOf_some e;exact absurd ((ordered_iff l).2 ⟨t,h2.1,h1⟩) h
theorem look_nil (ao:Option Addr) (c:Nat) (w:World):Calls Tryz.prog 74 #[.slice ao 0 c] w fun e w'=>e = .returned (.tuple #[E 0,.bool false,.bool false]) /\ Below w.heap.size w w':=by
 go_enter Tryz.func74,Tryz.ntmps74;go_wp2;refine bodyPost_ret (v:=.tuple #[E 0,.bool false,.bool false]) ?_ rfl ⟨rfl,Below.refl _ _⟩;rw [results_tmp3 rfl];rfl
theorem look_long (ao:Option Addr) (n c:Nat) (h:120 < n) (w:World):Calls Tryz.prog 74 #[.slice ao n c] w fun e w'=>e = .returned (.tuple #[E 0,.bool false,.bool false]) /\ Below w.heap.size w w':=by
 (have h0:(((n:Nat):Int) == 0) = false:=by simp;omega);(have h1:(120:Int) < ((n:Nat):Int):=by omega);go_enter Tryz.func74,Tryz.ntmps74;go_wp2;refine bodyPost_ret (v:=.tuple #[E 0,.bool false,.bool false]) ?_ rfl ⟨rfl,Below.refl _ _⟩;rw [results_tmp3 rfl];rfl
theorem look_out (ao:Option Addr) (c:Nat) (l:List Nd) (w:World) (h:Ns w (.slice ao l.length c) l) (hw:∀ n ∈ l,Wf n.s) (hl0:0 < l.length) (hl:l.length <= 120) (ho:¬ Ordered l) :
  Calls Tryz.prog 74 #[.slice ao l.length c] w fun e w'=>e = .returned (.tuple #[E 0,.bool false,.bool false]) /\ Below w.heap.size w w':=by
 have C1:=ordered_any ao c l w h hw hl;rw [decide_eq_false ho] at C1;have HC:=Hd C1;clear C1 h hw ho;(have h0:(((l.length:Nat):Int) == 0) = false:=by rw [beq_eq_false_iff_ne];omega);(have h1:¬ (120:Int) < ((l.length:Nat):Int):=by omega);generalize l.length = n at *;go_enter Tryz.func74,Tryz.ntmps74;go_wp2_with (go_at_call 100;refine HC.out.mono ?_;rintro e w1 ⟨rfl,hb⟩;have HB:=Hd hb;clear hb);refine bodyPost_ret (v:=.tuple #[E 0,.bool false,.bool false]) ?_ rfl ⟨rfl,HB.out⟩;rw [results_tmp3 rfl];rfl
theorem look_tree (t:Tr) (ao:Option Addr) (c:Nat) (w:World) (h:Ns w (.slice ao (t.nodes 0).length c) (t.nodes 0)) (hw:∀ n ∈ t.nodes 0,Wf n.s) (ht:Whole t) (hs:t.size <= 120) :
  Calls Tryz.prog 74 #[.slice ao (t.nodes 0).length c] w fun e w'=>e = .returned (LR (t.nodes 0)) /\ Below w.heap.size w w':=by
 have hp:=size_pos t;have hlen:=nodes_len t 0;have C1:=ordered_any ao c _ w h hw (by omega);rw [decide_eq_true ((ordered_iff _).2 ⟨t,ht,rfl⟩)] at C1;have HC:=Hd C1;have HC2:=Hd (fun w' (hb:Below w.heap.size w w')=>numbered_tree t ao c w' (h.below hb) ht hs);have HL:Hid (LR (t.nodes 0) = if (numT t num0).ok = true then .tuple #[E (numT t num0).g,.bool (numT t num0).r,.bool true] else .tuple #[E 0,.bool false,.bool false]):=Hd (by
  split
  · rename_i hok;rw [lr_some (patOf_good ⟨ht,hs,hok⟩),num_g,num_r];show _ = Value.tuple #[E (0 + cnt t),.bool (false || _),.bool true];rw [Int.zero_add,Bool.false_or]
  ·
   rename_i hok;refine lr_none ?_;cases e:patOf (t.nodes 0) with
   | none=>rfl
   | some u =>
    obtain ⟨h1,h2⟩:=patOf_some e;obtain rfl:=nodes_inj t u 0 h1;exact absurd h2.2.2 hok)
 clear C1 h hw;(have h0:(((t.nodes 0).length:Int) == 0) = false:=by rw [hlen];simp;omega);(have h1:¬ (120:Int) < (((t.nodes 0).length:Nat):Int):=by omega);clear hlen;generalize (t.nodes 0).length = n at *;generalize numT t num0 = s1 at *;cases hok:s1.ok with
 | false =>
  rw [hok] at HC2 HL;go_enter Tryz.func74,Tryz.ntmps74;go_wp2_with (first
   | (go_at_call 100;refine HC.out.mono ?_;rintro e w1 ⟨rfl,hb⟩;have HB:=Hd hb;clear hb)
   | (go_at_call 101;refine (HC2.out _ HB.out).mono ?_;rintro e w2 ⟨rfl,hb⟩;have HB2:=Hd hb;clear hb))
  refine bodyPost_ret (v:=.tuple #[E 0,.bool false,.bool false]) ?_ rfl ⟨by rw [HL.out];rfl,HB.out.trans (HB2.out.mono HB.out.size)⟩;rw [results_tmp3 rfl];rfl
 | true =>
  rw [hok] at HC2 HL;go_enter Tryz.func74,Tryz.ntmps74;go_wp2_with (first
   | (go_at_call 100;refine HC.out.mono ?_;rintro e w1 ⟨rfl,hb⟩;have HB:=Hd hb;clear hb)
   | (go_at_call 101;refine (HC2.out _ HB.out).mono ?_;rintro e w2 ⟨rfl,hb⟩;have HB2:=Hd hb;clear hb))
  refine bodyPost_ret (v:=.tuple #[E s1.g,.bool s1.r,.bool true]) ?_ rfl ⟨by rw [HL.out];rfl,HB.out.trans (HB2.out.mono HB.out.size)⟩;rw [results_tmp3 rfl];rfl
theorem look_any (ao:Option Addr) (c:Nat) (l:List Nd) (w:World) (h:Ns w (.slice ao l.length c) l) (hw:∀ n ∈ l,Wf n.s) :
  Calls Tryz.prog 74 #[.slice ao l.length c] w fun e w'=>e = .returned (LR l) /\ Below w.heap.size w w':=by
 by_cases h0:l.length = 0
 · obtain rfl:=List.length_eq_zero_iff.1 h0;rw [lr_none rfl];exact look_nil ao c w
 by_cases h1:120 < l.length
 · rw [lr_none (pat_long h1)];exact look_long ao l.length c h1 w
 by_cases ho:Ordered l
 · obtain ⟨t,ht,rfl⟩:=(ordered_iff l).1 ho;exact look_tree t ao c w h hw ht (by rw [nodes_len] at h1;omega)
 · rw [lr_none (pat_out ho)];exact look_out ao c l w h hw (by omega) (by omega) ho
theorem may_any (ao:Option Addr) (c:Nat) (l:List Nd) (w:World) (h:Ns w (.slice ao l.length c) l) (hw:∀ n ∈ l,Wf n.s) :
  Calls Tryz.prog 47 #[.slice ao l.length c] w fun e w'=>e = .returned (.bool (mayL l)) /\ Below w.heap.size w w':=by
 have HC:=Hd (look_any ao c l w h hw);clear h hw;generalize l.length = n at *;go_enter Tryz.func47,Tryz.ntmps47;go_wp2_with (go_at_call 74;refine HC.out.mono ?_;rintro e w1 ⟨rfl,hb⟩;have HB:=Hd hb;clear hb);go_ret;exact ⟨rfl,HB.out⟩
theorem refs_any (ao:Option Addr) (c:Nat) (l:List Nd) (w:World) (h:Ns w (.slice ao l.length c) l) (hw:∀ n ∈ l,Wf n.s) :
  Calls Tryz.prog 75 #[.slice ao l.length c] w fun e w'=>e = .returned (.bool (refsL l)) /\ Below w.heap.size w w':=by
 have HC:=Hd (look_any ao c l w h hw);clear h hw;generalize l.length = n at *;go_enter Tryz.func75,Tryz.ntmps75;go_wp2_with (go_at_call 74;refine HC.out.mono ?_;rintro e w1 ⟨rfl,hb⟩;have HB:=Hd hb;clear hb);go_ret;exact ⟨rfl,HB.out⟩
end Go.Proofs.YtinallojhkaogaaGreatDoor.Rx
namespace Go.Proofs.YtinallojhkaogaaGreatDoor.St
open Go.RowKit Go.Shelf
attribute [local go_sem] Oper.semAt_some
theorem all_stops (n:Nat) (hn:2 <= n) (B:Nat) (ws:List Nat) (w:World) (Kp:World -> World -> Prop) (hw:Wf ws) (hB:B < w.heap.size) (hg:2 < w.heap.size) (hS:SB w B ws)
  (hT:∀ W,Below w.heap.size w W -> Tab W) (hKT:∀ W W',Kp W W' -> Tab W -> Tab W') :
  SeqStopsK Fence.wide n Tryz.prog 149 #[.pointer (some ⟨B,0,none⟩)] (fun x:UInt8=>#[.int .u8 (x.toNat:Int)]) Kp (fun xs=>xs = bytesL ws) (fun _=>True) 256 w:=fun l J Jx W hW hJ hJx hY h0=>by
 have hSW:SB W B ws:=(hW.block B hB).trans hS;have hTW:=hT W hW;have c0:=hSW.cell hw (i:=0) (by omega);have c1:=hSW.cell hw (i:=1) (by omega);have c2:=hSW.cell hw (i:=2) (by omega);have c3:=hSW.cell hw (i:=3) (by omega);clear hS hSW;refine callsIn_of_wp Tryz.func149 rfl trivial ?_ rfl;simp only [Tryz.ntmps149,List.size_toArray,List.length_cons,List.length_nil,Nat.reduceAdd,Nat.reduceSub,Array.replicate_succ,Array.replicate_zero,List.push_toArray,List.append_toArray,List.nil_append,List.cons_append];gi_wp2
 gi_loopw [3,4,6] (fun _ _ i wr=>∃ k:Nat,k <= 4 /\ i = .int .i64 (k:Int) /\ Tab wr /\ ∃ pre:List UInt8,pre.map UInt8.toNat ++ tl ws k (4 - k) = bytesN ws /\ J pre wr) (fun _ _ i _=>4 - (intOf i).toNat)
 (case atStart=>exact ⟨0,Nat.zero_le _,rfl,hTW,[],tl_four ws,h0⟩);case round =>
  obtain ⟨k,hk,rfl,hTr,pre,hpre,hJr⟩:=hrel;by_cases hlt:k < 4
  ·
   (have hI:(k:Int) < 4:=by omega);(have hi:=fun w=>idx_word ws hlt w);have HP:=Lib.hid hpre;clear hpre;gi_wp2
   gi_loopw [4] (fun v wv=>∃ x:Nat,v = .int .u64 (x:Int) /\ x < 2 ^ 64 /\ Tab wv /\ ∃ pre:List UInt8,pre.map UInt8.toNat ++ ((bl x).map (k * 64 + ·) ++ tl ws (k + 1) (4 - (k + 1))) = bytesN ws /\ J pre wv) (fun v _=>(bl (intOf v).toNat).length)
   (case atStart=>exact ⟨word ws k,rfl,word_lt hw k,hTr,pre,by rw [<- HP.out,show 4 - k = (4 - (k + 1)) + 1 from by omega,tl],hJr⟩);case round =>
    clear HP hTr hJr pre;obtain ⟨x,rfl,hx,hTv,pre,hpre,hJv⟩:=hrel;have HP:=Lib.hid hpre;clear hpre;by_cases hx0:x = 0
    · subst hx0;gi_wp2;go_roundw;(case rel=>exact ⟨k + 1,by omega,by go_num,hTv,pre,by rw [<- HP.out,bl_zero];rfl,hJv⟩);case measure=>simp [intOf];omega
    ·
     obtain ⟨hstep,hc⟩:=bl_step hx hx0;have HST:=Lib.hid hstep;have hlen:pre.length < 256:=by
      have:=bytesN_len ws;have e:=congrArg List.length HP.out;rw [hstep] at e;simp at e;omega
     (have hne:((x:Int) != 0) = true:=by simp;omega);(have htz:=fun w=>tz_any x hx hx0 w);clear hstep;generalize hcz:Lib.ctz 64 x = c at *;have hcz':=Lib.hid hcz;clear hcz;obtain ⟨fn,tmps,assign,body,hy,hR⟩:=hY pre (UInt8.ofNat (k * 64 + c)) _ hJv hlen;have hu:=ofNat_toNat (n:=k * 64 + c) (by omega);generalize UInt8.ofNat (k * 64 + c) = d at *;rw [show ((d.toNat:Nat):Int) = (k:Int) * 64 + (c:Int) from by omega] at hy;have HU:=Lib.hid hu;clear hu;gi_wp2;refine ⟨trivial,fun h=>(by cases h),?_⟩;refine (callsIn_wide.2 (htz _ hTv)).mono ?_;rintro e w' ⟨rfl,rfl⟩;gi_wp2;refine ⟨fun h=>(by cases h),hR.mono ?_⟩;clear hy hR;rintro e W' (⟨rfl,hJ',hk'⟩ | ⟨rfl,hJx'⟩)
     ·
      gi_wp2;have hand:bits BinOp.and IntKind.u64 (x:Int) ((x:Int) - 1) = ((x &&& (x - 1):Nat):Int):=by
       rw [show ((x:Int) - 1) = ((x - 1:Nat):Int) from by omega];exact u64_and_nat _ _ hx (by omega)
      go_roundw;case rel =>
       refine ⟨x &&& (x - 1),by rw [hand],clear_lt hx,hKT _ _ hk' hTv,pre ++ [d],?_,hJ'⟩;rw [<- HP.out,HST.out];simp [HU.out]
      case measure =>
       rw [hand];simp only [intOf,Int.toNat_natCast];rw [HST.out];simp
     · gi_wp2;refine bodyPost_ret (results_none rfl _ _ _) rfl ?_;exact ⟨⟨_,rfl⟩,.inr ⟨_,trivial,hJx'⟩⟩
  · (have hk4:k = 4:=by omega);subst hk4;have HP:=Lib.hid hpre;clear hpre;gi_wp2;go_end0;exact ⟨⟨_,rfl⟩,.inl ⟨_,bytesL_of (by have:=HP.out;simpa [tl] using this),hJr⟩⟩
attribute [local go_sem] Oper.semAt_some
theorem infoU8:(Tryz.prog.info? 5).map (fun i=>(i.zero,i.size,i.bytes)) = some (some (.int .u8 0),1,1):=by kernel_rfl
abbrev u8v (x:UInt8):Value:=.int .u8 (x.toNat:Int)
theorem append_any (B:Nat) (ws:List Nat) (w:World) (hw:Wf ws) (hB:B < w.heap.size) (hg:2 < w.heap.size) (hS:SB w B ws) (hT:Tab w) :
  CallsIn Fence.wide 5 Tryz.prog 148 #[.slice none 0 0,.func (.func 149) #[] #[.pointer (some ⟨B,0,none⟩)]] w fun e W'=>∃ v,e = .returned v /\ W'.ownsRow w.heap.size 5 1 v (bytesL ws).length ((bytesL ws).map u8v) /\ Below w.heap.size w W':=by
 obtain ⟨i0,hi,hz0,hz1,hz2⟩:=info_parts infoU8;refine callsIn_of_wp_marks Tryz.func148 rfl trivial ?_ rfl;simp only [Tryz.ntmps148,List.size_toArray,List.length_cons,List.length_nil,Nat.reduceAdd,Nat.reduceSub,Array.replicate_succ,Array.replicate_zero,List.push_toArray,List.append_toArray,List.nil_append,List.cons_append];have HS:=Lib.hid hS;have HT:=Lib.hid hT;clear hS hT;gi_wp2;have bO:=Boxed.new w 96 (.slice none 0 0);have hB0:Below w.heap.size w (w.alloc (.cells #[.slice none 0 0] 96)):=(Below.refl _ w).alloc (Nat.le_refl _) _;refine wpIn_rangeFunc_ownG rfl (by omega) (gf:=149) (lb:=#[.pointer (some ⟨B,0,none⟩)]) rfl trivial (enters_of Tryz.func149 (by kernel_rfl) rfl)
  (all_stops 4 (by omega) B ws _ (Below w.heap.size) hw (by simp;omega) (by simp <;> omega) ((hB0.block B hB).trans HS.out) (fun W hW=>(HT.out.below hB0 hg).below hW (by simp <;> omega)) (fun W W' hK hT=>hT.below hK hg)) belowK_t (belowK_b (by simp)) (Below.refl _ _) (fun _=>rfl)
  (fun (pre:List UInt8) W=>(∃ v,Boxed W w.heap.size 96 v /\ W.ownsRow w.heap.size 5 1 v pre.length (pre.map u8v) /\ True) /\ Below w.heap.size w W)
  (fun _ _ _=>False)
  (OwnFrom.and (Own.from (holdsRow_own w.heap.size w.heap.size 96 5 1 (fun (pre:List UInt8)=>pre.length) (fun (pre:List UInt8)=>pre.map u8v) (fun (pre:List UInt8) v=>True)) _) (ownFrom_below (Nat.le_refl _) (by simp)))
  (fun _ _ _ _ _ hs _ _=>hs)
  ⟨⟨_,bO,World.ownsRow_nil _ _ _ _,trivial⟩,hB0⟩
  (fun (x:UInt8)=>{ tmps:=#[.slice none 0 0,.func (.func 149) #[] #[.pointer (some ⟨B,0,none⟩)],.pointer (some ⟨w.heap.size,0,none⟩),undef,.slice none 0 0,u8v x,.func (.func 149) #[] #[.pointer (some ⟨B,0,none⟩)],u8v x,undef,undef,undef,undef,undef],defers:=[] }) ?assign ?body ?done ?stop
 case assign =>
  intro l x W K hK;gi_wp2;exact hK
 case body =>
  rintro l pre x W ⟨⟨v,hv,hrow,_⟩,hB⟩ hlt;have hc:=hv.cell
  gi_wp2_with (gi_at_builtin;refine wpListIn_append_own _ rfl _ _ 96 rfl w.heap.size 5 i0 (.int .u8 0) 1 1 Tryz.underlying96 hi hz0 hz1 hz2 rfl (by decide) _ _ _ rfl (hrow.alloc _) ⟨W.heap.size,0,none⟩ 1 1 [u8v x] rfl rfl (cell_one_new _ _ _) (by simp [Value.oneCell',u8v]) (Nat.le_trans hlt (by decide)) (by omega) (by have:=hB.size;simp;omega) ?_;intro v' w1 hown' hgrow _;obtain ⟨g',cap',rfl⟩:=ownsRow_succ hown';obtain ⟨hv1,hv2,hr2,hk2,hb2⟩:=hv.appended (by decide) hrow hB.size (Nat.le_refl _) hown' hgrow;have hc1:=hv1.cell;have hf1:=hv1.frozen)
  exact ⟨hk2.from _,hb2,⟨_,hv2,by simpa using hr2,trivial⟩,hB.trans hb2⟩
 case done =>
  rintro D ys W hD rfl ⟨⟨v,hv,hrow,_⟩,hB⟩ hK;have hc:=hv.cell;gi_wp2;refine ⟨by simp,.inl ⟨_,_,rfl,run_takeDeferred hK,?_⟩⟩;exact ⟨_,results_tmp rfl _ _ _,v,rfl,ownsRow_putObj hrow _ hK rfl,hB.trans (belowK_b (w:=w) (Nat.le_refl _) W D _ _ (by simp at hD;omega) hK rfl rfl)⟩
 case stop =>
  rintro D c pre W _ _ h _;exact h.elim
theorem own_string {w:World} {base:Nat} {v:Value} {ws:List Nat} (h:w.ownsRow base 5 1 v (bytesL ws).length ((bytesL ws).map u8v)) :
  (convert 96 9 v).run Tryz.prog w = .ok (.string ⟨(bytesL ws).toArray⟩) w:=by
 obtain ⟨_,⟨rfl,h0⟩ | ⟨g,cap,cur,rfl,_,hg,hc,_,hs,ht⟩⟩:=h
 · have hn:bytesL ws = []:=List.length_eq_zero_iff.1 h0;have:=run_convert_bytes_nil (P:=Tryz.prog) (w:=w) 96 5 Tryz.underlying96 Tryz.underlying5 0 0 9 Tryz.underlying9;rw [this,hn];rfl
 · refine run_convert_bytes_back (P:=Tryz.prog) w 96 9 5 ⟨g,0,none⟩ cap (bytesL ws) Tryz.underlying96 Tryz.underlying5 Tryz.underlying9 ?_;intro j hj;have h1:=congrArg (·[j]?) ht;simp only [Nat.mul_one,List.getElem?_take,hj,if_true,List.getElem?_map,Array.getElem?_toList] at h1;rw [List.getElem?_eq_getElem hj] at h1;rw [show (Addr.add ⟨g,0,none⟩ j) = ⟨g,j,none⟩ from by simp [Addr.add];exact Eq.symm,Lib.cell_of_heap hg];exact h1
theorem collect_any (B:Nat) (ws:List Nat) (w:World) (hw:Wf ws) (hB:B < w.heap.size) (hg:2 < w.heap.size) (hS:SB w B ws) (hT:Tab w) :
  Calls Tryz.prog 120 #[.func (.func 149) #[] #[.pointer (some ⟨B,0,none⟩)]] w fun e W'=>∃ v,e = .returned v /\ W'.ownsRow w.heap.size 5 1 v (bytesL ws).length ((bytesL ws).map u8v) /\ Below w.heap.size w W':=by
 have HA:=callsIn_wide.1 (append_any B ws w hw hB hg hS hT);clear hS hT;go_enter Tryz.func120,Tryz.ntmps120;go_wp2_with (go_at_call 148;refine HA.mono ?_;rintro e w' ⟨v,rfl,ho,hb⟩);go_ret;exact ⟨_,rfl,ho,hb⟩
theorem bytes_any (ws:List Nat) (w:World) (hw:Wf ws) (hg:2 < w.heap.size) (hT:Tab w) :
  Calls Tryz.prog 92 #[SV ws] w fun e w'=>e = .returned (.string ⟨(bytesL ws).toArray⟩) /\ Below w.heap.size w w':=by
 have g0:=word_get hw (i:=0) (by omega);have g1:=word_get hw (i:=1) (by omega);have g2:=word_get hw (i:=2) (by omega);have g3:=word_get hw (i:=3) (by omega);have HSV:=Lib.hid (SV_eq hw);have HT:=Lib.hid hT;clear hT;go_enter Tryz.func92,Tryz.ntmps92;go_wp2_with (first
  | (go_at_call 121;rw [<- HSV.out];refine (all_any ws _ hw).mono ?_;rintro e w' ⟨rfl,rfl⟩)
  | (go_at_call 120;refine (collect_any _ ws _ hw (by simp) (by simp <;> omega) (two_new w _ _).2 (HT.out.below (((Below.refl w.heap.size w).alloc (Nat.le_refl _) _).alloc (by simp) _) hg)).mono ?_;rintro e w1 ⟨v,rfl,ho,hb⟩;have hcv:=own_string ho))
 go_ret;exact ⟨rfl,(((Below.refl w.heap.size w).alloc (Nat.le_refl _) _).alloc (by simp) _).trans (hb.mono (by simp;omega))⟩
attribute [local go_sem] Oper.semAt_some
theorem ls2 {w:World} {b:Nat} {s v:List Nat} {t:TypeId} {f:Nat × Nat} (h:w.heap[b]? = some (.cells #[.int .u64 (word s 0:Int),.int .u64 (word s 1:Int),.int .u64 (word s 2:Int),.int .u64 (word s 3:Int),.int .u64 (word v 0:Int),.int .u64 (word v 1:Int),.int .u64 (word v 2:Int),.int .u64 (word v 3:Int)] t f)):Ls w b [s,v]:=by
 intro k hk j hj;rw [Lib.cell_of_heap h]
 match k,hk,j,hj with
 | 0,_,0,_=>rfl
 | 0,_,1,_=>rfl
 | 0,_,2,_=>rfl
 | 0,_,3,_=>rfl
 | 1,_,0,_=>rfl
 | 1,_,1,_=>rfl
 | 1,_,2,_=>rfl
 | 1,_,3,_=>rfl
theorem wf_two {a b:List Nat} (ha:Wf a) (hb:Wf b):∀ v ∈ [a,b],Wf v:=by
 intro v hv;simp at hv;rcases hv with rfl | rfl;exact ha;exact hb
open Go.RowKit
end Go.Proofs.YtinallojhkaogaaGreatDoor.St
