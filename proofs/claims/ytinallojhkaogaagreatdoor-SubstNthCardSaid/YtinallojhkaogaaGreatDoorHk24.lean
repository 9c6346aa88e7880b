/- The texts M6w M6x M6y M6z. -/
import Derived.Test.YtinallojhkaogaaGreatDoorHk11
import Derived.Test.YtinallojhkaogaaGreatDoorHk23
set_option linter.unusedVariables false
set_option linter.unusedSimpArgs false
set_option maxHeartbeats 6400000
set_option maxRecDepth 100000
namespace Go.Proofs.YtinallojhkaogaaGreatDoor.Mt
open Go.RowKit Go.Shelf
open Rx
open Rx.Tr
open St (Wf word mem SV SV_eq)
def FT (T:List UInt8) (t:Tr) (x i j:Nat):Bool:=decide (i <= j) && gP T (sT t x) i j
theorem FT_off (T:List UInt8) (t:Tr) (x i j:Nat) (h:j < i):FT T t x i j = false:=by
 unfold FT;rw [decide_eq_false (by omega)];rfl
theorem FT_on {T:List UInt8} {t:Tr} {x i j:Nat} (h:i <= j):FT T t x i j = gP T (sT t x) i j:=by
 unfold FT;rw [decide_eq_true h];rfl
theorem FT_root {T:List UInt8} {t x:Tr} {o i j:Nat} (hx:InT t x o) (h:i <= j):FT T t (o + x.size - 1) i j = gP T x i j:=by
 rw [FT_on h,in_root hx]
theorem stC_congr {a b:Nat -> Nat -> Bool} {mn mx:Int} {j most:Nat} (h:∀ p k,p <= k -> k <= j -> a p k = b p k):∀ (u p:Nat),p <= j -> stC a mn mx j most u p = stC b mn mx j most u p
 | 0,p,hp=>by
  unfold stC;rw [h j j (Nat.le_refl _) (Nat.le_refl _)]
 | u + 1,p,hp=>by
  unfold stC;rw [h j j (Nat.le_refl _) (Nat.le_refl _)];by_cases e:p = j
  · rw [if_pos e,if_pos e]
  ·
   rw [if_neg e,if_neg e,Bool.eq_iff_iff,List.any_eq_true,List.any_eq_true];constructor
   · rintro ⟨k,h1,h2⟩;have hk:=List.mem_range.1 h1;refine ⟨k,h1,?_⟩;simp only [Bool.and_eq_true,decide_eq_true_eq] at h2 ⊢;obtain ⟨⟨⟨h3,h4⟩,h5⟩,h6⟩:=h2;exact ⟨⟨⟨h3,h4⟩,by rw [<- h p k (by omega) (by omega)];exact h5⟩,by rw [<- stC_congr h u k (by omega)];exact h6⟩
   · rintro ⟨k,h1,h2⟩;have hk:=List.mem_range.1 h1;refine ⟨k,h1,?_⟩;simp only [Bool.and_eq_true,decide_eq_true_eq] at h2 ⊢;obtain ⟨⟨⟨h3,h4⟩,h5⟩,h6⟩:=h2;exact ⟨⟨⟨h3,h4⟩,by rw [h p k (by omega) (by omega)];exact h5⟩,by rw [stC_congr h u k (by omega)];exact h6⟩
structure DM (t:Tr) (T:List UInt8) (lv gv:Value) (w:World):Prop where
 ns:Ns w lv (t.nodes 0)
 g:(0 < refsT t /\ ∃ ao c,gv = .slice ao 0 c) \/ (refsT t = 0 /\ R3 w gv t.size t.size (T.length + 1) (FT T t))
def DAns (w:World) (N:Nat) (r:Option Caps) (e:Ending) (w':World):Prop:=∃ c' b,e = .returned (.tuple #[CV c',.bool b]) /\ LeftOk N r c' b /\ Below w.heap.size w w'
def DFit (t:Tr) (T:List UInt8) (lv gv:Value) (x:Tr) (ia:Nat):Prop:=∀ (i j:Nat) (c:Caps) (w:World),i <= j -> j <= T.length -> CapsOk T.length c -> DM t T lv gv w ->
 Calls Tryz.prog 78 #[lv,gv,E (ia:Nat),S T,E (i:Nat),E (j:Nat),CV c] w (DAns w T.length (fitP T x i j c))
theorem DM.below {t:Tr} {T:List UInt8} {lv gv:Value} {w w':World} (h:DM t T lv gv w) (hb:Below w.heap.size w w'):DM t T lv gv w' :=
 ⟨h.ns.below hb,h.g.imp id fun h=>⟨h.1,h.2.below hb⟩⟩
theorem DM.r3 {t:Tr} {T:List UInt8} {lv gv:Value} {w:World} (h:DM t T lv gv w) (hr:refsT t = 0):R3 w gv t.size t.size (T.length + 1) (FT T t):=by
 rcases h.g with ⟨q,_⟩ | ⟨_,q⟩
 · omega
 · exact q
theorem DM.node {t:Tr} {T:List UInt8} {lv gv:Value} {w:World} (h:DM t T lv gv w) {x:Tr} {o:Nat} (ha:At (t.nodes 0) x o):∃ nb no cap,lv = .slice (some ⟨nb,no,none⟩) (t.nodes 0).length cap /\ o + x.size - 1 < (t.nodes 0).length /\ NCell w nb (no + (o + x.size - 1) * 10) (x.root o):=by
 have hr:=at_root ha;have hlt:o + x.size - 1 < (t.nodes 0).length:=(List.getElem?_eq_some_iff.1 hr).1;have hN:=h.ns;obtain ⟨ao,cap,hv,_⟩:=h.ns;rw [hv] at hN;obtain ⟨b,o',e,hc⟩:=hN.at hlt;subst e;rw [List.getElem?_eq_getElem hlt] at hr;rw [Option.some.inj hr] at hc;exact ⟨b,o',cap,hv,hlt,hc⟩
theorem res_caps6 {fn:Func} {p u:Tmp} (h:fn.results = #[.cell p 33,.tmp u]) {tmps:Array Value} {w:World} {g:Nat} {c:Caps} {v:Value} (hp:tmps.getD p undef = PT g) (hg:w.heap[g]? = some (.cells (CC c) 33 (0,0))) (hu:tmps.getD u undef = v) :
  (results fn tmps).run Tryz.prog w = .ok (.tuple #[CV c,v]) w:=by
 rw [results_cell_tmp h,hp,hu];have:=run_loadVar_row (P:=Tryz.prog) w g 33 33 (CC c) (0,0) _ hg Tryz.underlying33 rfl (by kernel_rfl);rw [show (asAddr (PT g)).run Tryz.prog w = .ok ⟨g,0,none⟩ w from rfl];simp only [Result.andThen];rw [this]
theorem ld6 (x:Nat) {ops:Array Oper} {rest:List Oper} {o:Oper} {a a':Act} {w:World} {Q:Exit -> Act -> World -> Prop} {g:Nat} {c:Caps} (F:w.heap[g]? = some (.cells (CC c) 33 (0,0))) (h:wpList Tryz.prog ops Q rest a' w) (hgd:o.guard = none:=by rfl) (ho:o.op = .load 33 (.tmp x):=by rfl) (hx:a.eval (.tmp x) = .pointer (some ⟨g,0,none⟩):=by rfl)
  (ha:a.put o.dst (CV c) = a':=by simp only [Act.put,List.setIfInBounds_toArray,List.set_cons_zero,List.set_cons_succ] <;> rfl):wpList Tryz.prog ops Q (o :: rest) a w:=by
 subst ha;exact wpList_load_row hgd 33 (.tmp x) ho g hx _ (CC c) (0,0) _ F Tryz.underlying33 rfl (by kernel_rfl) h
theorem st6 (x y:Nat) (c:Caps) {ops:Array Oper} {rest:List Oper} {o:Oper} {a a':Act} {w:World} {Q:Exit -> Act -> World -> Prop} {g:Nat} {old:Array Value} (F:w.heap[g]? = some (.cells old 33 (0,0))) (h:wpList Tryz.prog ops Q rest a' (w.setRow g (CC c))) (hold:old.size = (CC c).size:=by rfl) (hgd:o.guard = none:=by rfl) (ho:o.op = .store 33 (.tmp x) (.tmp y):=by rfl) (hx:a.eval (.tmp x) = .pointer (some ⟨g,0,none⟩):=by rfl) (hy:a.eval (.tmp y) = .agg (CC c):=by rfl)
  (ha:a.put o.dst undef = a':=by simp only [Act.put,List.setIfInBounds_toArray,List.set_cons_zero,List.set_cons_succ] <;> rfl):wpList Tryz.prog ops Q (o :: rest) a w:=by
 subst ha;exact wpList_store_row hgd 33 (.tmp x) (.tmp y) ho g (CC c) hx hy _ old F (by kernel_rfl) hold (cc_one c) h
theorem xl6 (x:Nat) {o:Oper} {a:Act} {w:World} {g:Nat} {c:Caps} (F:w.heap[g]? = some (.cells (CC c) 33 (0,0))) (ho:o.op = .load 33 (.tmp x):=by rfl) (hx:a.eval (.tmp x) = .pointer (some ⟨g,0,none⟩):=by rfl):(execOp a.eval o).run Tryz.prog w = .ok (.value (CV c)) w :=
 exec_load_row 33 (.tmp x) ho g hx _ (CC c) _ _ F Tryz.underlying33 rfl (by kernel_rfl)
theorem ss6 (x y:Nat) (c:Caps) {w:World} {ops:Array Oper} {o:Oper} {a:Act} {K:Act -> World -> Prop} {Q:Exit -> Act -> World -> Prop} {E:Prop} {g:Nat} {old:Array Value} (F:w.heap[g]? = some (.cells old 33 (0,0))) (h:K (a.put o.dst undef) (w.setRow g (CC c))) (hold:old.size = (CC c).size:=by rfl) (hgd:o.guard = none:=by rfl) (ho:o.op = .store 33 (.tmp x) (.tmp y):=by rfl) (hx:a.eval (.tmp x) = .pointer (some ⟨g,0,none⟩):=by rfl) (hy:a.eval (.tmp y) = .agg (CC c):=by rfl):if Region.wanted o (yielded ops a.tmps) = true then Oper.wp Tryz.prog o a w K Q else E :=
 step_store_row hgd 33 (.tmp x) (.tmp y) ho g (CC c) hx hy _ old F (by kernel_rfl) hold (cc_one c) h
theorem box_laid6 (wr:World) (a:Caps):(wr.alloc (.cells CZ 33)).setRow wr.heap.size (CC a) = wr.alloc (.cells (CC a) 33):=World.setRow_alloc_new wr CZ (CC a) 33
theorem cap_cell6 {w:World} {g:Nat} {c:Caps} {n:Nat} (h:w.heap[g]? = some (.cells (CC c) 33 (0,0))) (hn:n < 10):w.cell? ⟨g,n,none⟩ = some (capV (gr c n)):=by
 rw [Lib.cell_of_heap h n]
 match n,hn with
 | 0,_=>rfl
 | 1,_=>rfl
 | 2,_=>rfl
 | 3,_=>rfl
 | 4,_=>rfl
 | 5,_=>rfl
 | 6,_=>rfl
 | 7,_=>rfl
 | 8,_=>rfl
 | 9,_=>rfl
structure DS (t:Tr) (T:List UInt8) (lv gv:Value) (w:World) (c:Caps) (nd:Nd) (wr:World):Prop where
 dm0:DM t T lv gv w
 bx:wr.heap[w.heap.size]? = some (.cells (CC c) 33 (0,0))
 rs:wr.heap[w.heap.size + 1]? = some (.cells CZ 33 (0,0))
 nb:wr.heap[w.heap.size + 1 + 1]? = some (.cells (NC nd) 87 (0,0))
 bel:Below w.heap.size w wr
section
variable {t:Tr} {T:List UInt8} {lv gv:Value} {w wr w':World} {c:Caps} {nd:Nd}
theorem DS.dm (h:DS t T lv gv w c nd wr):DM t T lv gv wr:=h.dm0.below h.bel
theorem DS.below (h:DS t T lv gv w c nd wr) (hb:Below wr.heap.size wr w'):DS t T lv gv w c nd w' :=
 ⟨h.dm0,(hb.block _ (lt_heap' h.bx)).trans h.bx,(hb.block _ (lt_heap' h.rs)).trans h.rs,(hb.block _ (lt_heap' h.nb)).trans h.nb,h.bel.trans (hb.mono h.bel.size)⟩
theorem ds_start (h:DM t T lv gv w) (c:Caps) (nd:Nd):DS t T lv gv w c nd (((w.alloc (.cells (CC c) 33)).alloc (.cells CZ 33)).alloc (.cells (NC nd) 87)):=by
 have b1:=(Below.refl w.heap.size w).alloc (Nat.le_refl _) (.cells (CC c) 33);have b2:=b1.alloc (by simp) (.cells CZ 33);have b3:=b2.alloc (by simp;omega) (.cells (NC nd) 87);have e2:=heap_alloc2_old w (.cells (CC c) 33) (.cells CZ 33);have e3:=heap_alloc2_new w (.cells (CC c) 33) (.cells CZ 33);have e4:=heap_alloc_new ((w.alloc (.cells (CC c) 33)).alloc (.cells CZ 33)) (.cells (NC nd) 87);rw [show ((w.alloc (.cells (CC c) 33)).alloc (.cells CZ 33)).heap.size = w.heap.size + 1 + 1 by simp] at e4;exact ⟨h,(Below.heap_alloc _ _ _ (by simp;omega)).trans e2,(Below.heap_alloc _ _ _ (by simp)).trans e3,e4,b3⟩
theorem DS.ret (h:DS t T lv gv w c nd wr) (a:Caps):(wr.setRow (w.heap.size + 1) (CC a)).heap[w.heap.size + 1]? = some (.cells (CC a) 33 (0,0)) /\ Below w.heap.size w (wr.setRow (w.heap.size + 1) (CC a)) :=
 ⟨setRow_heap _ _ _ _ _ _ h.rs,below_setRow h.bel (by omega) (CC a)⟩
theorem DS.box (h:DS t T lv gv w c nd wr) (a:Caps):DS t T lv gv w c nd (wr.alloc (.cells (CC a) 33)) /\ (wr.alloc (.cells (CC a) 33)).heap[wr.heap.size]? = some (.cells (CC a) 33 (0,0)) :=
 ⟨h.below ((Below.refl _ _).alloc (Nat.le_refl _) _),heap_alloc_new _ _⟩
theorem DS.cells (h:DS t T lv gv w c nd wr) :
  wr.cell? ⟨w.heap.size + 1 + 1,0,none⟩ = some (E nd.k) /\ wr.cell? ⟨w.heap.size + 1 + 1,1,none⟩ = some (U (word nd.s 0)) /\ wr.cell? ⟨w.heap.size + 1 + 1,2,none⟩ = some (U (word nd.s 1)) /\ wr.cell? ⟨w.heap.size + 1 + 1,3,none⟩ = some (U (word nd.s 2)) /\ wr.cell? ⟨w.heap.size + 1 + 1,4,none⟩ = some (U (word nd.s 3)) /\
   wr.cell? ⟨w.heap.size + 1 + 1,5,none⟩ = some (E nd.a) /\ wr.cell? ⟨w.heap.size + 1 + 1,6,none⟩ = some (E nd.b) /\ wr.cell? ⟨w.heap.size + 1 + 1,7,none⟩ = some (E nd.mn) /\ wr.cell? ⟨w.heap.size + 1 + 1,8,none⟩ = some (E nd.mx) /\ wr.cell? ⟨w.heap.size + 1 + 1,9,none⟩ = some (E nd.n):=by
 have:=node_cellsR h.nb;simpa using this
end
section
variable {t:Tr} {T:List UInt8} {lv gv:Value} {w wr w':World} {c:Caps} {nd:Nd}
theorem DS.putc (h:DS t T lv gv w c nd wr) {g:Nat} {a:Caps} (hb:wr.heap[g]? = some (.cells (CC a) 33 (0,0))) (ha:a.length = 10) (hg:w.heap.size + 1 + 1 + 1 <= g) {n:Nat} (hn:n < 10) (x:Cap) :
  DS t T lv gv w c nd (wr.setCell ⟨g,n,none⟩ (capV x)) /\ (wr.setCell ⟨g,n,none⟩ (capV x)).heap[g]? = some (.cells (CC (a.set n x)) 33 (0,0)):=by
 (have hk:∀ k,k ≠ g -> (wr.setCell ⟨g,n,none⟩ (capV x)).heap[k]? = wr.heap[k]?:=fun k hk=>Below.heap_setCell wr ⟨g,n,none⟩ _ k hk);refine ⟨⟨h.dm0,(hk _ (by omega)).trans h.bx,(hk _ (by omega)).trans h.rs,(hk _ (by omega)).trans h.nb,h.bel.setCell (by show w.heap.size <= g;omega) _⟩,?_⟩;have:=Go.Joins.block_setCell hb (i:=n) (capV x);rw [cc_set ha hn] at this;exact this
theorem DS.big (h:DS t T lv gv w c nd wr):w.heap.size + 1 + 1 + 1 <= wr.heap.size:=lt_heap' h.nb
end
theorem row_ret {w wr:World} {n g:Nat} {cs:Array Value} {t:TypeId} (h:wr.heap[g]? = some (.cells cs t (0,0))) (hb:Below n w wr) (hg:n <= g) (a:Array Value):(wr.setRow g a).heap[g]? = some (.cells a t (0,0)) /\ Below n w (wr.setRow g a) :=
 ⟨setRow_heap _ _ _ _ _ _ h,below_setRow hb hg a⟩
def DW (w:World) (c:Caps) (nd:Nd) (w':World):Prop :=
 w'.heap[w.heap.size]? = some (.cells (CC c) 33 (0,0)) /\ NCell w' (w.heap.size + 1 + 1) 0 nd
theorem DS.dw {t:Tr} {T:List UInt8} {lv gv:Value} {w wr:World} {c:Caps} {nd:Nd} (h:DS t T lv gv w c nd wr):DW w c nd wr:=⟨h.bx,node_cellsR h.nb⟩
theorem DS.dw_ret {t:Tr} {T:List UInt8} {lv gv:Value} {w wr:World} {c:Caps} {nd:Nd} (h:DS t T lv gv w c nd wr) (a:Caps):DW w c nd (wr.setRow (w.heap.size + 1) (CC a)) :=
 ⟨(setRow_other _ _ _ _ (by omega)).trans h.bx,node_cellsR ((setRow_other _ _ _ _ (by omega)).trans h.nb)⟩
theorem dc_start (w:World) (c:Caps):(((w.alloc (.cells (CC c) 33)).alloc (.cells CZ 33)).heap[w.heap.size]? = some (.cells (CC c) 33 (0,0))) /\ (((w.alloc (.cells (CC c) 33)).alloc (.cells CZ 33)).heap[w.heap.size + 1]? = some (.cells CZ 33 (0,0))) /\ Below w.heap.size w ((w.alloc (.cells (CC c) 33)).alloc (.cells CZ 33)) :=
 ⟨heap_alloc2_old _ _ _,heap_alloc2_new _ _ _,((Below.refl _ _).alloc (Nat.le_refl _) _).alloc (by simp) _⟩
theorem dfit_cut (t:Tr) (T:List UInt8) (hT:T.length <= 100) (gv:Value) (ia i j:Nat) (c:Caps) (w:World) (hij:i <= j) (hj:j <= T.length) (hc:CapsOk T.length c) (nb no cap:Nat) (hM:DM t T (.slice (some ⟨nb,no,none⟩) (t.nodes 0).length cap) gv w) (hil:ia < (t.nodes 0).length) (hgd:refsT t = 0 /\ FT T t ia i j = false) (R:Option Caps) (hR:R = none) :
  Calls Tryz.prog 78 #[(.slice (some ⟨nb,no,none⟩) (t.nodes 0).length cap),gv,E (ia:Nat),S T,E (i:Nat),E (j:Nat),CV c] w (DAns w T.length R):=by
 (have ha0:(0:Int) <= (ia:Int):=by omega);have hsl:=nodes_len t 0;(have ha2:(ia:Int) < (t.size:Int):=by omega);(have hs0:(0:Int) < (t.size:Int):=by omega);(have hi0:(0:Int) <= (i:Int):=by omega);(have hi1:(i:Int) < (T.length:Int) + 1:=by omega);(have hj0:(0:Int) <= (j:Int):=by omega);(have hj1:(j:Int) < (T.length:Int) + 1:=by omega);have HT:=Hd (dc_start w c);have HC:=Hd hc;have HRR:=Hd hR;clear hR hc;rcases hM.g with ⟨hr,gao,gc,rfl⟩ | ⟨hr,hg⟩
 · omega
 obtain ⟨gb,gc,rfl,_⟩:=id hg;obtain ⟨ra,ca,q,y1,y2,y3⟩:=hg.at (x:=ia) (i:=i) (j:=j) (by omega) (by omega) (by omega);rw [hgd.2] at y3;have y4:=lt_cell y1;have y5:=lt_cell y2;have y6:=lt_cell y3;(try dsimp only at y4 y5 y6);(have y7:gb < w.heap.size + 1:=by omega);(have y8:ra < w.heap.size + 1:=by omega);(have y9:q < w.heap.size + 1:=by omega);clear hg hM hr hgd hij hj hsl;go_enter Tryz.func78,Tryz.ntmps78;go_wp2_with (first
  | (refine ld6 13 HT.out.1 ?_)
  | (refine st6 14 43 c HT.out.2.1 ?_;have HR:=Hd (row_ret HT.out.2.1 HT.out.2.2 (by omega) (CC c));clear HT;generalize World.setRow _ _ _ = W9 at HR ⊢))
 refine bodyPost_ret (res_caps6 rfl rfl HR.out.1 rfl) rfl ?_;refine ⟨c,false,rfl,?_,HR.out.2⟩;rw [HRR.out];exact ⟨HC.out,rfl⟩
theorem dfit_0 (t:Tr) (T:List UInt8) (hT:T.length <= 100) (gv:Value) (ia i j:Nat) (c:Caps) (w:World) (hij:i <= j) (hj:j <= T.length) (hc:CapsOk T.length c) (nb no cap:Nat) (hM:DM t T (.slice (some ⟨nb,no,none⟩) (t.nodes 0).length cap) gv w) (hil:ia < (t.nodes 0).length) (z:List Nat) (a b:Nat) (mn mx:Int) (m:Nat) (hN:NCell w nb (no + ia * 10) ⟨0,z,(a:Nat),(b:Nat),mn,mx,(m:Nat)⟩) (hgd:refsT t = 0 -> FT T t ia i j = true) (R:Option Caps) (hR:R = (if i = j then some c else none)) :
  Calls Tryz.prog 78 #[(.slice (some ⟨nb,no,none⟩) (t.nodes 0).length cap),gv,E (ia:Nat),S T,E (i:Nat),E (j:Nat),CV c] w (DAns w T.length R):=by
 obtain ⟨q0,q1,q2,q3,q4,q5,q6,q7,q8,q9⟩:=hN;have hnb:nb < w.heap.size:=lt_cell q0;(have hnb2:nb < w.heap.size + 1:=by omega);(have ha0:(0:Int) <= (ia:Int):=by omega);(have ha1:(ia:Int) < ((t.nodes 0).length:Int):=by omega);have hsl:=nodes_len t 0;(have ha2:(ia:Int) < (t.size:Int):=by omega);(have hs0:(0:Int) < (t.size:Int):=by omega);(have hi0:(0:Int) <= (i:Int):=by omega);(have hi1:(i:Int) < (T.length:Int) + 1:=by omega);(have hj0:(0:Int) <= (j:Int):=by omega);(have hj1:(j:Int) < (T.length:Int) + 1:=by omega);have HT:=Hd (ds_start hM c ⟨0,z,(a:Nat),(b:Nat),mn,mx,(m:Nat)⟩);have HC:=Hd hc;have HRR:=Hd hR;have HIJ:=Hd (An hij (An hj (An hT hsl)));clear hR hc;rcases hM.g with ⟨hr,gao,gc,rfl⟩ | ⟨hr,hg⟩;(case' inl=>have HRA:=Hd hr);case' inr =>
  have HRF0:=Hd hr;obtain ⟨gb,gc,rfl,_⟩:=id hg;obtain ⟨ra,ca,q,y1,y2,y3⟩:=hg.at (x:=ia) (i:=i) (j:=j) (by omega) (by omega) (by omega);rw [hgd hr] at y3;have y4:=lt_cell y1;have y5:=lt_cell y2;have y6:=lt_cell y3;(try dsimp only at y4 y5 y6);(have y7:gb < w.heap.size + 1:=by omega);(have y8:ra < w.heap.size + 1:=by omega);(have y9:q < w.heap.size + 1:=by omega);clear hg
 (all_goals clear hM hr hgd hij hj hsl);all_goals
  go_enter Tryz.func78,Tryz.ntmps78;rw [show Code.region 4 = Fz 4 from rfl];go_wp2;refine at_world (p:=fun W=>DS t T (.slice (some ⟨nb,no,none⟩) (t.nodes 0).length cap) _ w c ⟨0,z,(a:Nat),(b:Nat),mn,mx,(m:Nat)⟩ W) HT.out (fun W hW=>?_);have HS:=Hd hW;clear hW HT q0 q1 q2 q3 q4 q5 q6 q7 q8 q9 hnb hnb2 ha0 ha1 ha2;(try clear y1 y2 y3 y4 y5 y6 y7 y8 y9);rw [show Fz 4 = Code.region 4 from rfl];obtain ⟨x0,x1,x2,x3,x4,x5,x6,x7,x8,x9⟩:=HS.out.cells;(try dsimp only at x0 x1 x2 x3 x4 x5 x6 x7 x8 x9);go_wp2_with (first
   | (refine ld6 13 HS.out.bx ?_)
   | (refine st6 14 52 c HS.out.rs ?_;obtain ⟨r1,r2⟩:=HS.out.ret c;have HR:=Hd (An r1 r2);clear r1 r2 HS;generalize World.setRow _ _ _ = W9 at HR ⊢))
  refine bodyPost_ret (res_caps6 rfl rfl HR.out.1 rfl) rfl ?_;refine ⟨c,_,rfl,?_,HR.out.2⟩;refine ⟨HC.out,?_⟩;rw [HRR.out];by_cases e:i = j
  · rw [if_pos e];simp [e]
  · rw [if_neg e];simp [e];(try omega)
theorem dfit_2 (t:Tr) (T:List UInt8) (hT:T.length <= 100) (gv:Value) (ia i j:Nat) (c:Caps) (w:World) (hij:i <= j) (hj:j <= T.length) (hc:CapsOk T.length c) (nb no cap:Nat) (hM:DM t T (.slice (some ⟨nb,no,none⟩) (t.nodes 0).length cap) gv w) (hil:ia < (t.nodes 0).length) (z:List Nat) (a b:Nat) (mn mx:Int) (m:Nat) (hN:NCell w nb (no + ia * 10) ⟨2,z,(a:Nat),(b:Nat),mn,mx,(m:Nat)⟩) (hgd:refsT t = 0 -> FT T t ia i j = true) (R:Option Caps) (hR:R = (if j = 0 then some c else none)) :
  Calls Tryz.prog 78 #[(.slice (some ⟨nb,no,none⟩) (t.nodes 0).length cap),gv,E (ia:Nat),S T,E (i:Nat),E (j:Nat),CV c] w (DAns w T.length R):=by
 obtain ⟨q0,q1,q2,q3,q4,q5,q6,q7,q8,q9⟩:=hN;have hnb:nb < w.heap.size:=lt_cell q0;(have hnb2:nb < w.heap.size + 1:=by omega);(have ha0:(0:Int) <= (ia:Int):=by omega);(have ha1:(ia:Int) < ((t.nodes 0).length:Int):=by omega);have hsl:=nodes_len t 0;(have ha2:(ia:Int) < (t.size:Int):=by omega);(have hs0:(0:Int) < (t.size:Int):=by omega);(have hi0:(0:Int) <= (i:Int):=by omega);(have hi1:(i:Int) < (T.length:Int) + 1:=by omega);(have hj0:(0:Int) <= (j:Int):=by omega);(have hj1:(j:Int) < (T.length:Int) + 1:=by omega);have HT:=Hd (ds_start hM c ⟨2,z,(a:Nat),(b:Nat),mn,mx,(m:Nat)⟩);have HC:=Hd hc;have HRR:=Hd hR;have HIJ:=Hd (An hij (An hj (An hT hsl)));clear hR hc;have HI0:=Hd (show (i = 0 /\ ((i:Int) == 0) = true) \/ (i ≠ 0 /\ ((i:Int) == 0) = false) from by by_cases e:i = 0 <;> simp [e]);rcases hM.g with ⟨hr,gao,gc,rfl⟩ | ⟨hr,hg⟩;(case' inl=>have HRA:=Hd hr);case' inr =>
  have HRF0:=Hd hr;obtain ⟨gb,gc,rfl,_⟩:=id hg;obtain ⟨ra,ca,q,y1,y2,y3⟩:=hg.at (x:=ia) (i:=i) (j:=j) (by omega) (by omega) (by omega);rw [hgd hr] at y3;have y4:=lt_cell y1;have y5:=lt_cell y2;have y6:=lt_cell y3;(try dsimp only at y4 y5 y6);(have y7:gb < w.heap.size + 1:=by omega);(have y8:ra < w.heap.size + 1:=by omega);(have y9:q < w.heap.size + 1:=by omega);clear hg
 (all_goals clear hM hr hgd hij hj hsl);all_goals
  go_enter Tryz.func78,Tryz.ntmps78;rw [show Code.region 4 = Fz 4 from rfl];go_wp2;refine at_world (p:=fun W=>DS t T (.slice (some ⟨nb,no,none⟩) (t.nodes 0).length cap) _ w c ⟨2,z,(a:Nat),(b:Nat),mn,mx,(m:Nat)⟩ W) HT.out (fun W hW=>?_);have HS:=Hd hW;clear hW HT q0 q1 q2 q3 q4 q5 q6 q7 q8 q9 hnb hnb2 ha0 ha1 ha2;(try clear y1 y2 y3 y4 y5 y6 y7 y8 y9);rw [show Fz 4 = Code.region 4 from rfl];obtain ⟨x0,x1,x2,x3,x4,x5,x6,x7,x8,x9⟩:=HS.out.cells;(try dsimp only at x0 x1 x2 x3 x4 x5 x6 x7 x8 x9);rcases HI0.out with ⟨e0,hq⟩ | ⟨e0,hq⟩
  ·
   have HE:=Hd e0;clear e0 HI0;go_wp2_with (first
    | (refine ld6 13 HS.out.bx ?_)
    | (refine st6 14 74 c HS.out.rs ?_;obtain ⟨r1,r2⟩:=HS.out.ret c;have HR:=Hd (An r1 r2);clear r1 r2 HS;generalize World.setRow _ _ _ = W9 at HR ⊢))
   refine bodyPost_ret (res_caps6 rfl rfl HR.out.1 rfl) rfl ?_;refine ⟨c,_,rfl,?_,HR.out.2⟩;refine ⟨HC.out,?_⟩;rw [HRR.out];by_cases e:j = 0
   · rw [if_pos e];simp [e]
   · rw [if_neg e];simp [e];(try omega)
  ·
   have HE:=Hd e0;clear e0 HI0;go_wp2_with (first
    | (refine ld6 13 HS.out.bx ?_)
    | (refine st6 14 74 c HS.out.rs ?_;obtain ⟨r1,r2⟩:=HS.out.ret c;have HR:=Hd (An r1 r2);clear r1 r2 HS;generalize World.setRow _ _ _ = W9 at HR ⊢))
   refine bodyPost_ret (res_caps6 rfl rfl HR.out.1 rfl) rfl ?_;refine ⟨c,_,rfl,?_,HR.out.2⟩;refine ⟨HC.out,?_⟩;rw [HRR.out,if_neg (by have:=HE.out;have:=HIJ.out.1;omega)]
theorem dfit_3 (t:Tr) (T:List UInt8) (hT:T.length <= 100) (gv:Value) (ia i j:Nat) (c:Caps) (w:World) (hij:i <= j) (hj:j <= T.length) (hc:CapsOk T.length c) (nb no cap:Nat) (hM:DM t T (.slice (some ⟨nb,no,none⟩) (t.nodes 0).length cap) gv w) (hil:ia < (t.nodes 0).length) (z:List Nat) (a b:Nat) (mn mx:Int) (m:Nat) (hN:NCell w nb (no + ia * 10) ⟨3,z,(a:Nat),(b:Nat),mn,mx,(m:Nat)⟩) (hgd:refsT t = 0 -> FT T t ia i j = true) (R:Option Caps) (hR:R = (if i = T.length then some c else none)) :
  Calls Tryz.prog 78 #[(.slice (some ⟨nb,no,none⟩) (t.nodes 0).length cap),gv,E (ia:Nat),S T,E (i:Nat),E (j:Nat),CV c] w (DAns w T.length R):=by
 obtain ⟨q0,q1,q2,q3,q4,q5,q6,q7,q8,q9⟩:=hN;have hnb:nb < w.heap.size:=lt_cell q0;(have hnb2:nb < w.heap.size + 1:=by omega);(have ha0:(0:Int) <= (ia:Int):=by omega);(have ha1:(ia:Int) < ((t.nodes 0).length:Int):=by omega);have hsl:=nodes_len t 0;(have ha2:(ia:Int) < (t.size:Int):=by omega);(have hs0:(0:Int) < (t.size:Int):=by omega);(have hi0:(0:Int) <= (i:Int):=by omega);(have hi1:(i:Int) < (T.length:Int) + 1:=by omega);(have hj0:(0:Int) <= (j:Int):=by omega);(have hj1:(j:Int) < (T.length:Int) + 1:=by omega);have HT:=Hd (ds_start hM c ⟨3,z,(a:Nat),(b:Nat),mn,mx,(m:Nat)⟩);have HC:=Hd hc;have HRR:=Hd hR;have HIJ:=Hd (An hij (An hj (An hT hsl)));clear hR hc;have HI0:=Hd (show (i = T.length /\ ((i:Int) == (T.length:Int)) = true) \/ (i ≠ T.length /\ ((i:Int) == (T.length:Int)) = false) from by by_cases e:i = T.length <;> simp [e] <;> omega);(have hsz:(ByteArray.mk T.toArray).size = T.length:=by simp [ByteArray.size]);rcases hM.g with ⟨hr,gao,gc,rfl⟩ | ⟨hr,hg⟩;(case' inl=>have HRA:=Hd hr);case' inr =>
  have HRF0:=Hd hr;obtain ⟨gb,gc,rfl,_⟩:=id hg;obtain ⟨ra,ca,q,y1,y2,y3⟩:=hg.at (x:=ia) (i:=i) (j:=j) (by omega) (by omega) (by omega);rw [hgd hr] at y3;have y4:=lt_cell y1;have y5:=lt_cell y2;have y6:=lt_cell y3;(try dsimp only at y4 y5 y6);(have y7:gb < w.heap.size + 1:=by omega);(have y8:ra < w.heap.size + 1:=by omega);(have y9:q < w.heap.size + 1:=by omega);clear hg
 (all_goals clear hM hr hgd hij hj hsl);all_goals
  go_enter Tryz.func78,Tryz.ntmps78;rw [show Code.region 4 = Fz 4 from rfl];go_wp2;refine at_world (p:=fun W=>DS t T (.slice (some ⟨nb,no,none⟩) (t.nodes 0).length cap) _ w c ⟨3,z,(a:Nat),(b:Nat),mn,mx,(m:Nat)⟩ W) HT.out (fun W hW=>?_);have HS:=Hd hW;clear hW HT q0 q1 q2 q3 q4 q5 q6 q7 q8 q9 hnb hnb2 ha0 ha1 ha2;(try clear y1 y2 y3 y4 y5 y6 y7 y8 y9);rw [show Fz 4 = Code.region 4 from rfl];obtain ⟨x0,x1,x2,x3,x4,x5,x6,x7,x8,x9⟩:=HS.out.cells;(try dsimp only at x0 x1 x2 x3 x4 x5 x6 x7 x8 x9);rcases HI0.out with ⟨e0,hq⟩ | ⟨e0,hq⟩
  ·
   have HE:=Hd e0;clear e0 HI0;go_wp2_with (first
    | (refine ld6 13 HS.out.bx ?_)
    | (refine st6 14 83 c HS.out.rs ?_;obtain ⟨r1,r2⟩:=HS.out.ret c;have HR:=Hd (An r1 r2);clear r1 r2 HS;generalize World.setRow _ _ _ = W9 at HR ⊢))
   refine bodyPost_ret (res_caps6 rfl rfl HR.out.1 rfl) rfl ?_;refine ⟨c,_,rfl,?_,HR.out.2⟩;refine ⟨HC.out,?_⟩;rw [HRR.out,if_pos HE.out];have h1:=HE.out;have h2:=HIJ.out.1;have h3:=HIJ.out.2.1;(have h4:j = T.length:=by omega);refine ⟨?_,rfl⟩;simp [h4]
  ·
   have HE:=Hd e0;clear e0 HI0;go_wp2_with (first
    | (refine ld6 13 HS.out.bx ?_)
    | (refine st6 14 83 c HS.out.rs ?_;obtain ⟨r1,r2⟩:=HS.out.ret c;have HR:=Hd (An r1 r2);clear r1 r2 HS;generalize World.setRow _ _ _ = W9 at HR ⊢))
   refine bodyPost_ret (res_caps6 rfl rfl HR.out.1 rfl) rfl ?_;refine ⟨c,_,rfl,?_,HR.out.2⟩;refine ⟨HC.out,?_⟩;rw [HRR.out,if_neg HE.out]
theorem dfit_5 (t:Tr) (T:List UInt8) (hT:T.length <= 100) (gv:Value) (ia i j:Nat) (c:Caps) (w:World) (hij:i <= j) (hj:j <= T.length) (hc:CapsOk T.length c) (nb no cap:Nat) (hM:DM t T (.slice (some ⟨nb,no,none⟩) (t.nodes 0).length cap) gv w) (hil:ia < (t.nodes 0).length) (z:List Nat) (a b:Nat) (mn mx:Int) (m:Nat) (hN:NCell w nb (no + ia * 10) ⟨5,z,(a:Nat),(b:Nat),mn,mx,(m:Nat)⟩) (hgd:refsT t = 0 -> FT T t ia i j = true) (x y:Tr) (HFx:DFit t T (.slice (some ⟨nb,no,none⟩) (t.nodes 0).length cap) gv x a) (HFy:DFit t T (.slice (some ⟨nb,no,none⟩) (t.nodes 0).length cap) gv y b) (R:Option Caps) (hR:R = (match fitP T x i j c with | some q=>some q | none=>fitP T y i j c)) :
  Calls Tryz.prog 78 #[(.slice (some ⟨nb,no,none⟩) (t.nodes 0).length cap),gv,E (ia:Nat),S T,E (i:Nat),E (j:Nat),CV c] w (DAns w T.length R):=by
 obtain ⟨q0,q1,q2,q3,q4,q5,q6,q7,q8,q9⟩:=hN;have hnb:nb < w.heap.size:=lt_cell q0;(have hnb2:nb < w.heap.size + 1:=by omega);(have ha0:(0:Int) <= (ia:Int):=by omega);(have ha1:(ia:Int) < ((t.nodes 0).length:Int):=by omega);have hsl:=nodes_len t 0;(have ha2:(ia:Int) < (t.size:Int):=by omega);(have hs0:(0:Int) < (t.size:Int):=by omega);(have hi0:(0:Int) <= (i:Int):=by omega);(have hi1:(i:Int) < (T.length:Int) + 1:=by omega);(have hj0:(0:Int) <= (j:Int):=by omega);(have hj1:(j:Int) < (T.length:Int) + 1:=by omega);have HT:=Hd (ds_start hM c ⟨5,z,(a:Nat),(b:Nat),mn,mx,(m:Nat)⟩);have HC:=Hd hc;have HRR:=Hd hR;have HIJ:=Hd (An hij (An hj (An hT hsl)));clear hR hc;have HFa:=Hd HFx;have HFb:=Hd HFy;clear HFx HFy;rcases hM.g with ⟨hr,gao,gc,rfl⟩ | ⟨hr,hg⟩;(case' inl=>have HRA:=Hd hr);case' inr =>
  have HRF0:=Hd hr;obtain ⟨gb,gc,rfl,_⟩:=id hg;obtain ⟨ra,ca,q,y1,y2,y3⟩:=hg.at (x:=ia) (i:=i) (j:=j) (by omega) (by omega) (by omega);rw [hgd hr] at y3;have y4:=lt_cell y1;have y5:=lt_cell y2;have y6:=lt_cell y3;(try dsimp only at y4 y5 y6);(have y7:gb < w.heap.size + 1:=by omega);(have y8:ra < w.heap.size + 1:=by omega);(have y9:q < w.heap.size + 1:=by omega);clear hg
 (all_goals clear hM hr hgd hij hj hsl);all_goals
  go_enter Tryz.func78,Tryz.ntmps78;rw [show Code.region 4 = Fz 4 from rfl];go_wp2;refine at_world (p:=fun W=>DS t T (.slice (some ⟨nb,no,none⟩) (t.nodes 0).length cap) _ w c ⟨5,z,(a:Nat),(b:Nat),mn,mx,(m:Nat)⟩ W) HT.out (fun W hW=>?_);have HS:=Hd hW;clear hW HT q0 q1 q2 q3 q4 q5 q6 q7 q8 q9 hnb hnb2 ha0 ha1 ha2;(try clear y1 y2 y3 y4 y5 y6 y7 y8 y9);rw [show Fz 4 = Code.region 4 from rfl];obtain ⟨x0,x1,x2,x3,x4,x5,x6,x7,x8,x9⟩:=HS.out.cells;(try dsimp only at x0 x1 x2 x3 x4 x5 x6 x7 x8 x9);cases hf1:fitP T x i j c with
  | none =>
   go_wp2_with (first
    | (refine ld6 13 HS.out.bx ?_)
    | (go_at_call 78;have hq:=HFa.out i j c _ HIJ.out.1 HIJ.out.2.1 HC.out HS.out.dm;refine hq.mono ?_;clear hq;rintro e w2 ⟨a1,b1,rfl,hl,hb⟩;have HS2:=Hd (HS.out.below hb);have HLE:=Hd hl;clear hl hb HS HFa;rw [hf1] at HLE;obtain ⟨hca,hb1⟩:=HLE.out;subst hb1;have HCA1:=Hd hca;clear hca HLE)
    | (refine st6 22 160 a1 (heap_alloc_new _ _) ?_;rw [box_laid6];obtain ⟨r1,r2⟩:=HS2.out.box a1;have HS3:=Hd r1;have HB:=Hd r2;clear r1 r2 HS2 x0 x1 x2 x3 x4 x5 x6 x7 x8 x9;generalize World.alloc _ _ = W3 at HS3 HB ⊢;obtain ⟨x0,x1,x2,x3,x4,x5,x6,x7,x8,x9⟩:=HS3.out.cells;(try dsimp only at x0 x1 x2 x3 x4 x5 x6 x7 x8 x9))
    | (refine ld6 13 HS3.out.bx ?_)
    | (go_at_call 78;have hq:=HFb.out i j c _ HIJ.out.1 HIJ.out.2.1 HC.out HS3.out.dm;refine hq.mono ?_;clear hq;rintro e w4 ⟨a2,b2,rfl,hl,hb⟩;have HS4:=Hd (HS3.out.below hb);have HLE:=Hd hl;clear hl hb HS3)
    | (refine st6 14 173 a2 HS4.out.rs ?_;obtain ⟨r1,r2⟩:=HS4.out.ret a2;have HR:=Hd (An r1 r2);clear r1 r2 HS4;generalize World.setRow _ _ _ = W9 at HR ⊢))
   refine bodyPost_ret (res_caps6 rfl rfl HR.out.1 rfl) rfl ?_;refine ⟨a2,b2,rfl,?_,HR.out.2⟩;rw [HRR.out,hf1];exact HLE.out
  | some a0 =>
   go_wp2_with (first
    | (refine ld6 13 HS.out.bx ?_)
    | (go_at_call 78;have hq:=HFa.out i j c _ HIJ.out.1 HIJ.out.2.1 HC.out HS.out.dm;refine hq.mono ?_;clear hq;rintro e w2 ⟨a1,b1,rfl,hl,hb⟩;have HS2:=Hd (HS.out.below hb);have HLE:=Hd hl;clear hl hb HS HFa;rw [hf1] at HLE;obtain ⟨hca,hb1,ha1⟩:=HLE.out;subst hb1;subst ha1;have HCA1:=Hd hca;clear hca HLE)
    | (refine st6 22 160 a1 (heap_alloc_new _ _) ?_;rw [box_laid6];obtain ⟨r1,r2⟩:=HS2.out.box a1;have HS3:=Hd r1;have HB:=Hd r2;clear r1 r2 HS2;generalize World.alloc _ _ = W3 at HS3 HB ⊢)
    | (refine ld6 22 HB.out ?_)
    | (refine st6 14 163 a1 HS3.out.rs ?_;obtain ⟨r1,r2⟩:=HS3.out.ret a1;have HR:=Hd (An r1 r2);clear r1 r2 HS3;generalize World.setRow _ _ _ = W9 at HR ⊢))
   refine bodyPost_ret (res_caps6 rfl rfl HR.out.1 rfl) rfl ?_;refine ⟨a1,true,rfl,?_,HR.out.2⟩;rw [HRR.out,hf1];exact ⟨HCA1.out,rfl,rfl⟩
theorem dfit_7 (t:Tr) (T:List UInt8) (hT:T.length <= 100) (gv:Value) (ia i j:Nat) (c:Caps) (w:World) (hij:i <= j) (hj:j <= T.length) (hc:CapsOk T.length c) (nb no cap:Nat) (hM:DM t T (.slice (some ⟨nb,no,none⟩) (t.nodes 0).length cap) gv w) (hil:ia < (t.nodes 0).length) (z:List Nat) (a b:Nat) (mn mx:Int) (m:Nat) (hN:NCell w nb (no + ia * 10) ⟨7,z,(a:Nat),(b:Nat),mn,mx,(m:Nat)⟩) (hgd:refsT t = 0 -> FT T t ia i j = true) (hm0:1 <= m) (hm1:m <= 9) (y:Tr) (HF:DFit t T (.slice (some ⟨nb,no,none⟩) (t.nodes 0).length cap) gv y a) (R:Option Caps) (hR:R = ((fitP T y i j c).map fun q=>q.set m (some (i,j)))) :
  Calls Tryz.prog 78 #[(.slice (some ⟨nb,no,none⟩) (t.nodes 0).length cap),gv,E (ia:Nat),S T,E (i:Nat),E (j:Nat),CV c] w (DAns w T.length R):=by
 obtain ⟨q0,q1,q2,q3,q4,q5,q6,q7,q8,q9⟩:=hN;have hnb:nb < w.heap.size:=lt_cell q0;(have hnb2:nb < w.heap.size + 1:=by omega);(have ha0:(0:Int) <= (ia:Int):=by omega);(have ha1:(ia:Int) < ((t.nodes 0).length:Int):=by omega);have hsl:=nodes_len t 0;(have ha2:(ia:Int) < (t.size:Int):=by omega);(have hs0:(0:Int) < (t.size:Int):=by omega);(have hi0:(0:Int) <= (i:Int):=by omega);(have hi1:(i:Int) < (T.length:Int) + 1:=by omega);(have hj0:(0:Int) <= (j:Int):=by omega);(have hj1:(j:Int) < (T.length:Int) + 1:=by omega);have HT:=Hd (ds_start hM c ⟨7,z,(a:Nat),(b:Nat),mn,mx,(m:Nat)⟩);have HC:=Hd hc;have HRR:=Hd hR;have HIJ:=Hd (An hij (An hj (An hT hsl)));clear hR hc;(have hn0:(0:Int) <= (m:Int):=by omega);(have hn1:(m:Int) < 10:=by omega);(have hn2:((m:Int)).toNat = m:=by omega);(have hm9:m < 10:=by omega);have HM10:=Hd hm9;have HFt:=Hd HF;have hof:=(fun W=>rof_cap hij (by omega:j <= 999999999) W);obtain ⟨cxa,cxb,hcx⟩:∃ p q,capV (some (i,j)) = .complex .f64 p q:=⟨_,_,rfl⟩;rw [hcx] at hof;have HCX:=Hd hcx;have HOF:=Hd hof;clear HF hcx hof;rcases hM.g with ⟨hr,gao,gc,rfl⟩ | ⟨hr,hg⟩;(case' inl=>have HRA:=Hd hr);case' inr =>
  have HRF0:=Hd hr;obtain ⟨gb,gc,rfl,_⟩:=id hg;obtain ⟨ra,ca,q,y1,y2,y3⟩:=hg.at (x:=ia) (i:=i) (j:=j) (by omega) (by omega) (by omega);rw [hgd hr] at y3;have y4:=lt_cell y1;have y5:=lt_cell y2;have y6:=lt_cell y3;(try dsimp only at y4 y5 y6);(have y7:gb < w.heap.size + 1:=by omega);(have y8:ra < w.heap.size + 1:=by omega);(have y9:q < w.heap.size + 1:=by omega);clear hg
 (all_goals clear hM hr hgd hij hj hsl);all_goals
  go_enter Tryz.func78,Tryz.ntmps78;rw [show Code.region 4 = Fz 4 from rfl];rw [show Code.region 37 = Fz 37 from rfl];go_wp2;refine at_world (p:=fun W=>DS t T (.slice (some ⟨nb,no,none⟩) (t.nodes 0).length cap) _ w c ⟨7,z,(a:Nat),(b:Nat),mn,mx,(m:Nat)⟩ W) HT.out (fun W hW=>?_);have HS:=Hd hW;clear hW HT q0 q1 q2 q3 q4 q5 q6 q7 q8 q9 hnb hnb2 ha0 ha1 ha2;(try clear y1 y2 y3 y4 y5 y6 y7 y8 y9);rw [show Fz 4 = Code.region 4 from rfl];obtain ⟨x0,x1,x2,x3,x4,x5,x6,x7,x8,x9⟩:=HS.out.cells;(try dsimp only at x0 x1 x2 x3 x4 x5 x6 x7 x8 x9);cases hf1:fitP T y i j c with
  | none =>
   go_wp2_with (first
    | (refine ld6 13 HS.out.bx ?_)
    | (go_at_call 78;have hq:=HFt.out i j c _ HIJ.out.1 HIJ.out.2.1 HC.out HS.out.dm;refine hq.mono ?_;clear hq;rintro e w2 ⟨a1,b1,rfl,hl,hb⟩;have HS2:=Hd (HS.out.below hb);have HLE:=Hd hl;clear hl hb HS;rw [hf1] at HLE;obtain ⟨hca,hb1⟩:=HLE.out;subst hb1;have HCA1:=Hd hca;clear hca HLE)
    | (refine st6 25 212 a1 (heap_alloc_new _ _) ?_;rw [box_laid6];obtain ⟨r1,r2⟩:=HS2.out.box a1;have HS3:=Hd r1;have HB:=Hd r2;clear r1 r2 HS2;generalize World.alloc _ _ = W3 at HS3 HB ⊢)
    | (refine ld6 25 HB.out ?_)
    | (refine st6 14 224 a1 HS3.out.rs ?_;obtain ⟨r1,r2⟩:=HS3.out.ret a1;have HR:=Hd (An r1 r2);clear r1 r2 HS3;generalize World.setRow _ _ _ = W9 at HR ⊢))
   refine bodyPost_ret (res_caps6 rfl rfl HR.out.1 rfl) rfl ?_;refine ⟨a1,false,rfl,?_,HR.out.2⟩;rw [HRR.out,hf1];exact ⟨HCA1.out,rfl⟩
  | some a0 =>
   go_wp2_with (first
    | (refine ld6 13 HS.out.bx ?_)
    | (go_at_call 78;have hq:=HFt.out i j c _ HIJ.out.1 HIJ.out.2.1 HC.out HS.out.dm;refine hq.mono ?_;clear hq;rintro e w2 ⟨a1,b1,rfl,hl,hb⟩;have HS2:=Hd (HS.out.below hb);have HLE:=Hd hl;have HGE:=Hd (Nat.le_trans HS.out.big hb.size);clear hl hb HS;rw [hf1] at HLE;obtain ⟨hca,hb1,ha1⟩:=HLE.out;subst hb1;subst ha1;have HCA1:=Hd hca;clear hca HLE)
    | (refine st6 25 212 a1 (heap_alloc_new _ _) ?_;rw [box_laid6];obtain ⟨r1,r2⟩:=HS2.out.box a1;have HS3:=Hd r1;have HB:=Hd r2;clear r1 r2 HS2;generalize World.alloc _ _ = W3 at HS3 HB ⊢))
   rw [show Fz 37 = Code.region 37 from rfl];have HBd:=Hd (show W3.drew.heap[w2.heap.size]? = some (.cells (CC a1) 33 (0,0)) from HB.out);clear HB;have HD:=Hd (HS3.out.below (Below.refl _ _).drew);clear x0 x1 x2 x3 x4 x5 x6 x7 x8 x9 HS3;(refine Tk.g (fun w'=>DW w c ⟨7,z,(a:Nat),(b:Nat),mn,mx,(m:Nat)⟩ w') (by exact HD.out.dw) fun hH=>?_);generalize World.drew _ = W4 at HD HBd hH ⊢;refine Tk.t 0 ?_;refine Tk.t 1 (hy:=by (intro wv hSw;(try dsimp only at hSw);obtain ⟨k0,k1,k2,k3,k4,k5,k6,k7,k8,k9⟩:=hSw.2;(try dsimp only at k0 k1 k2 k3 k4 k5 k6 k7 k8 k9);simp only [Nat.zero_add] at k0 k1 k2 k3 k4 k5 k6 k7 k8 k9;go_simp) <;> with_reducible rfl) ?_;refine Tk.t 2 ?_;refine Tk.t 3 ?_;refine Tk.o 4 (fun K hK=>?_);go_simp
   (go_at_call 79;refine (HOF.out W4).mono ?_;rintro e w6 ⟨rfl,rfl⟩)
   (refine hK.out _ _ (by exact HD.out.dw) fun hH=>Tk.w ?_);clear hK K;refine Tk.t 5 ?_;refine Tk.t 6 ?_;refine Tk.t 7 ?_;refine Tk.t 8 ?_;refine Tk.o 9 (fun K hK=>?_);have hcl:=cap_cell6 HBd.out HM10.out;(have hfz:W4.frozen? ⟨w2.heap.size,m,none⟩ = false:=by simp [World.frozen?,HBd.out]);have hst:=store_complex Tryz.prog W4 w2.heap.size m cxa cxb hcl hfz;obtain ⟨hp1,hp2⟩:=HD.out.putc HBd.out HCA1.out.len HGE.out HM10.out (some (i,j));obtain ⟨a2,ha2⟩:∃ a2,a2 = a1.set m (some (i,j)):=⟨_,rfl⟩;rw [<- ha2] at hp2;rw [HCX.out] at hp1 hp2;have HA2:=Hd ha2;have HS5:=Hd hp1;have HB5:=Hd hp2;clear hp1 hp2 ha2;go_simp;(refine hK.out _ _ (by exact HS5.out.dw) fun hH=>Tk.w ?_);clear hK K;refine Tk.d ?_;clear hH hcl hfz hst HD HBd;generalize World.setCell _ _ _ = W5 at HS5 HB5 ⊢;go_wp2_with (first
    | (refine ld6 25 HB5.out ?_)
    | (refine st6 14 224 a2 HS5.out.rs ?_;obtain ⟨r1,r2⟩:=HS5.out.ret a2;have HR:=Hd (An r1 r2);clear r1 r2 HS5;generalize World.setRow _ _ _ = W9 at HR ⊢))
   refine bodyPost_ret (res_caps6 rfl rfl HR.out.1 rfl) rfl ?_;refine ⟨a2,true,rfl,?_,HR.out.2⟩;rw [HRR.out,hf1,HA2.out];exact ⟨HCA1.out.set HIJ.out.1 HIJ.out.2.1 m,rfl,rfl⟩
theorem dfit_1 (t:Tr) (T:List UInt8) (hT:T.length <= 100) (gv:Value) (ia i j:Nat) (c:Caps) (w:World) (hij:i <= j) (hj:j <= T.length) (hc:CapsOk T.length c) (nb no cap:Nat) (hM:DM t T (.slice (some ⟨nb,no,none⟩) (t.nodes 0).length cap) gv w) (hil:ia < (t.nodes 0).length) (z:List Nat) (a b:Nat) (mn mx:Int) (m:Nat) (hN:NCell w nb (no + ia * 10) ⟨1,z,(a:Nat),(b:Nat),mn,mx,(m:Nat)⟩) (hgd:refsT t = 0 -> FT T t ia i j = true) (hTo:ToldOk) (hz:Wf z) (R:Option Caps) (hR:R = (if j = i + 1 /\ hasAt z T i = true then some c else none)) :
  Calls Tryz.prog 78 #[(.slice (some ⟨nb,no,none⟩) (t.nodes 0).length cap),gv,E (ia:Nat),S T,E (i:Nat),E (j:Nat),CV c] w (DAns w T.length R):=by
 obtain ⟨q0,q1,q2,q3,q4,q5,q6,q7,q8,q9⟩:=hN;have hnb:nb < w.heap.size:=lt_cell q0;(have hnb2:nb < w.heap.size + 1:=by omega);(have ha0:(0:Int) <= (ia:Int):=by omega);(have ha1:(ia:Int) < ((t.nodes 0).length:Int):=by omega);have hsl:=nodes_len t 0;(have ha2:(ia:Int) < (t.size:Int):=by omega);(have hs0:(0:Int) < (t.size:Int):=by omega);(have hi0:(0:Int) <= (i:Int):=by omega);(have hi1:(i:Int) < (T.length:Int) + 1:=by omega);(have hj0:(0:Int) <= (j:Int):=by omega);(have hj1:(j:Int) < (T.length:Int) + 1:=by omega);have HT:=Hd (ds_start hM c ⟨1,z,(a:Nat),(b:Nat),mn,mx,(m:Nat)⟩);have HC:=Hd hc;have HRR:=Hd hR;have HIJ:=Hd (An hij (An hj (An hT hsl)));clear hR hc;(have hw1:IntKind.i64.wrap ((i:Int) + 1) = (i:Int) + 1:=by rw [IntKind.wrap_i64];omega);have HZ:=Hd hz;have HTO:=Hd hTo;(have hsz:(ByteArray.mk T.toArray).size = T.length:=by simp [ByteArray.size]);clear hz hTo;rcases hM.g with ⟨hr,gao,gc,rfl⟩ | ⟨hr,hg⟩;(case' inl=>have HRA:=Hd hr);case' inr =>
  have HRF0:=Hd hr;obtain ⟨gb,gc,rfl,_⟩:=id hg;obtain ⟨ra,ca,q,y1,y2,y3⟩:=hg.at (x:=ia) (i:=i) (j:=j) (by omega) (by omega) (by omega);rw [hgd hr] at y3;have y4:=lt_cell y1;have y5:=lt_cell y2;have y6:=lt_cell y3;(try dsimp only at y4 y5 y6);(have y7:gb < w.heap.size + 1:=by omega);(have y8:ra < w.heap.size + 1:=by omega);(have y9:q < w.heap.size + 1:=by omega);clear hg
 (all_goals clear hM hr hgd hij hj hsl);all_goals
  go_enter Tryz.func78,Tryz.ntmps78;rw [show Code.region 4 = Fz 4 from rfl];go_wp2;refine at_world (p:=fun W=>DS t T (.slice (some ⟨nb,no,none⟩) (t.nodes 0).length cap) _ w c ⟨1,z,(a:Nat),(b:Nat),mn,mx,(m:Nat)⟩ W) HT.out (fun W hW=>?_);have HS:=Hd hW;clear hW HT q0 q1 q2 q3 q4 q5 q6 q7 q8 q9 hnb hnb2 ha0 ha1 ha2;(try clear y1 y2 y3 y4 y5 y6 y7 y8 y9);rw [show Fz 4 = Code.region 4 from rfl];obtain ⟨x0,x1,x2,x3,x4,x5,x6,x7,x8,x9⟩:=HS.out.cells;(try dsimp only at x0 x1 x2 x3 x4 x5 x6 x7 x8 x9);by_cases hji:j = i + 1
  ·
   (have hq:((j:Int) == (i:Int) + 1) = true:=by rw [hji];simp);(have hlt:i < T.length:=by have:=HIJ.out.2.1;omega);(have hlt':(i:Int) < (T.length:Int):=by omega);have hg:=(show (ByteArray.mk T.toArray)[i]'(by rw [hsz];exact hlt) = T[i] from rfl);have HHA:=Hd (show hasAt z T i = mem z (T[i]).toNat from by unfold hasAt;rw [List.getElem?_eq_getElem hlt]);generalize T[i] = by0 at *;obtain ⟨bc,hb1,hb2,hb3⟩:=HTO.out z HZ.out;(have hix:=fun W=>idx_told hb1 hb2 (a:=by0.toNat) (UInt8.toNat_lt by0) W);have HTC:=Hd (fun W=>(by have h1:=hb3 W;rw [SV_eq HZ.out] at h1;exact h1:Calls Tryz.prog 104 #[.agg #[U (word z 0),U (word z 1),U (word z 2),U (word z 3)]] W fun e w'=>e = .returned (.agg bc) /\ Below W.heap.size W w'));have HJI:=Hd hji;clear hji hb1 hb2 hb3;go_wp2;have HD:=Hd (HS.out.below (Below.refl _ _).drew);clear x0 x1 x2 x3 x4 x5 x6 x7 x8 x9 HS;(refine Tk.g (fun w'=>DW w c ⟨1,z,(a:Nat),(b:Nat),mn,mx,(m:Nat)⟩ w') (by exact HD.out.dw) fun hH=>?_);generalize World.drew _ = W4 at HD hH ⊢;refine Tk.t 0 (hy:=fun _ h=>xl6 13 h.1) ?_;refine Tk.t 1 ?_;refine Tk.t 2 ?_;refine Tk.t 3 ?_;refine Tk.t 4 ?_;refine Tk.t 5 ?_;refine Tk.t 6 ?_;refine Tk.t 7 (hy:=by (intro wv hSw;(try dsimp only at hSw);obtain ⟨k0,k1,k2,k3,k4,k5,k6,k7,k8,k9⟩:=hSw.2;(try dsimp only at k0 k1 k2 k3 k4 k5 k6 k7 k8 k9);simp only [Nat.zero_add] at k0 k1 k2 k3 k4 k5 k6 k7 k8 k9;go_simp) <;> with_reducible rfl) ?_;refine Tk.t 9 ?_;refine Tk.t 10 ?_;refine Tk.t 11 ?_;refine Tk.o 8 (fun K hK=>?_);go_simp
   (go_at_call 104;refine (HTC.out _).mono ?_;rintro e w6 ⟨rfl,hbl⟩;have HD2:=Hd (HD.out.below hbl);clear HD)
   (refine hK.out _ _ (by exact HD2.out.dw) fun hH=>Tk.w ?_);clear hK K;refine Tk.t 12 ?_;refine Tk.t 13 ?_;refine Tk.o 14 (fun K hK=>?_);refine ss6 14 58 c HD2.out.rs ?_;obtain ⟨r1,r2⟩:=HD2.out.ret c;have r4:=HD2.out.dw_ret c;have HR:=Hd (An r1 r2);clear r1 r2 HD2;generalize World.setRow _ _ _ = W9 at HR r4 ⊢;(refine hK.out _ _ (by exact r4) fun hH=>Tk.w ?_);clear hK K;refine Tk.t 15 ?_;refine Tk.d ?_;clear hH r4;go_wp2;refine bodyPost_ret (res_caps6 rfl rfl HR.out.1 rfl) rfl ?_;refine ⟨c,_,rfl,?_,HR.out.2⟩;refine ⟨HC.out,?_⟩;rw [HRR.out];rw [HHA.out];cases mem z by0.toNat
   · rw [if_neg (by simp)]
   · rw [if_pos ⟨HJI.out,rfl⟩];exact ⟨rfl,rfl⟩
  · (have hq:((j:Int) == (i:Int) + 1) = false:=by rw [beq_eq_false_iff_ne];omega);have HJI:=Hd hji;clear hji;go_wp2;have HD:=Hd (HS.out.below (Below.refl _ _).drew);clear x0 x1 x2 x3 x4 x5 x6 x7 x8 x9 HS;(refine Tk.g (fun w'=>DW w c ⟨1,z,(a:Nat),(b:Nat),mn,mx,(m:Nat)⟩ w') (by exact HD.out.dw) fun hH=>?_);generalize World.drew _ = W4 at HD hH ⊢;refine Tk.t 0 (hy:=fun _ h=>xl6 13 h.1) ?_;refine Tk.t 1 ?_;refine Tk.t 2 ?_;refine Tk.t 3 ?_;refine Tk.t 4 ?_;refine Tk.t 5 ?_;refine Tk.p 6 ?_;refine Tk.p 7 ?_;refine Tk.p 8 ?_;refine Tk.p 9 ?_;refine Tk.p 10 ?_;refine Tk.p 11 ?_;refine Tk.p 12 ?_;refine Tk.t 13 ?_;refine Tk.o 14 (fun K hK=>?_);refine ss6 14 58 c HD.out.rs ?_;obtain ⟨r1,r2⟩:=HD.out.ret c;have r4:=HD.out.dw_ret c;have HR:=Hd (An r1 r2);clear r1 r2 HD;generalize World.setRow _ _ _ = W9 at HR r4 ⊢;(refine hK.out _ _ (by exact r4) fun hH=>Tk.w ?_);clear hK K;refine Tk.t 15 ?_;refine Tk.d ?_;clear hH r4;go_wp2;refine bodyPost_ret (res_caps6 rfl rfl HR.out.1 rfl) rfl ?_;refine ⟨c,_,rfl,?_,HR.out.2⟩;refine ⟨HC.out,?_⟩;rw [HRR.out];rw [if_neg (fun q=>HJI.out q.1)]
theorem dfit_8 (t:Tr) (T:List UInt8) (hT:T.length <= 100) (gv:Value) (ia i j:Nat) (c:Caps) (w:World) (hij:i <= j) (hj:j <= T.length) (hc:CapsOk T.length c) (nb no cap:Nat) (hM:DM t T (.slice (some ⟨nb,no,none⟩) (t.nodes 0).length cap) gv w) (hil:ia < (t.nodes 0).length) (z:List Nat) (a b:Nat) (mn mx:Int) (m:Nat) (hN:NCell w nb (no + ia * 10) ⟨8,z,(a:Nat),(b:Nat),mn,mx,(m:Nat)⟩) (hgd:refsT t = 0 -> FT T t ia i j = true) (hm0:1 <= m) (hm1:m <= 9) (R:Option Caps) (hR:R = (if refAt T c m i j = true then some c else none)) :
  Calls Tryz.prog 78 #[(.slice (some ⟨nb,no,none⟩) (t.nodes 0).length cap),gv,E (ia:Nat),S T,E (i:Nat),E (j:Nat),CV c] w (DAns w T.length R):=by
 obtain ⟨q0,q1,q2,q3,q4,q5,q6,q7,q8,q9⟩:=hN;have hnb:nb < w.heap.size:=lt_cell q0;(have hnb2:nb < w.heap.size + 1:=by omega);(have ha0:(0:Int) <= (ia:Int):=by omega);(have ha1:(ia:Int) < ((t.nodes 0).length:Int):=by omega);have hsl:=nodes_len t 0;(have ha2:(ia:Int) < (t.size:Int):=by omega);(have hs0:(0:Int) < (t.size:Int):=by omega);(have hi0:(0:Int) <= (i:Int):=by omega);(have hi1:(i:Int) < (T.length:Int) + 1:=by omega);(have hj0:(0:Int) <= (j:Int):=by omega);(have hj1:(j:Int) < (T.length:Int) + 1:=by omega);have HT:=Hd (ds_start hM c ⟨8,z,(a:Nat),(b:Nat),mn,mx,(m:Nat)⟩);have HC:=Hd hc;have HRR:=Hd hR;have HIJ:=Hd (An hij (An hj (An hT hsl)));clear hR hc;(have hn0:(0:Int) <= (m:Int):=by omega);(have hn1:(m:Int) < 10:=by omega);(have hn2:((m:Int)).toNat = m:=by omega);(have hm9:m < 10:=by omega);(have hij2:(i:Int) <= (j:Int):=by omega);(have hj2:(j:Int) <= (T.length:Int):=by omega);have HM10:=Hd hm9;have HCP:=Hd (HC.out.at m);have HRF:=Hd (show refAt T c m i j = (match gr c m with | some (a,b)=>decide (cutT T a b = cutT T i j) | none=>false) from by
  unfold refAt gr;(have hl:m < c.length:=by rw [HC.out.len];exact hm9);rw [List.getElem?_eq_getElem hl];dsimp only [Option.getD];cases c[m] with
  | none=>rfl
  | some p=>rfl)
 (have hlN:T.length <= 999999999:=by omega);rcases hM.g with ⟨hr,gao,gc,rfl⟩ | ⟨hr,hg⟩;(case' inl=>have HRA:=Hd hr);case' inr =>
  have HRF0:=Hd hr;obtain ⟨gb,gc,rfl,_⟩:=id hg;obtain ⟨ra,ca,q,y1,y2,y3⟩:=hg.at (x:=ia) (i:=i) (j:=j) (by omega) (by omega) (by omega);rw [hgd hr] at y3;have y4:=lt_cell y1;have y5:=lt_cell y2;have y6:=lt_cell y3;(try dsimp only at y4 y5 y6);(have y7:gb < w.heap.size + 1:=by omega);(have y8:ra < w.heap.size + 1:=by omega);(have y9:q < w.heap.size + 1:=by omega);clear hg
 (all_goals clear hM hr hgd hij hj hsl);all_goals
  go_enter Tryz.func78,Tryz.ntmps78;rw [show Code.region 4 = Fz 4 from rfl];go_wp2;refine at_world (p:=fun W=>DS t T (.slice (some ⟨nb,no,none⟩) (t.nodes 0).length cap) _ w c ⟨8,z,(a:Nat),(b:Nat),mn,mx,(m:Nat)⟩ W) HT.out (fun W hW=>?_);have HS:=Hd hW;clear hW HT q0 q1 q2 q3 q4 q5 q6 q7 q8 q9 hnb hnb2 ha0 ha1 ha2;(try clear y1 y2 y3 y4 y5 y6 y7 y8 y9);rw [show Fz 4 = Code.region 4 from rfl];obtain ⟨x0,x1,x2,x3,x4,x5,x6,x7,x8,x9⟩:=HS.out.cells;(try dsimp only at x0 x1 x2 x3 x4 x5 x6 x7 x8 x9);cases hgr:gr c m with
  | none =>
   go_wp2;have HD:=Hd (HS.out.below (Below.refl _ _).drew);clear x0 x1 x2 x3 x4 x5 x6 x7 x8 x9 HS;(refine Tk.g (fun w'=>DW w c ⟨8,z,(a:Nat),(b:Nat),mn,mx,(m:Nat)⟩ w') (by exact HD.out.dw) fun hH=>?_);generalize World.drew _ = W4 at HD hH ⊢;refine Tk.t 0 (hy:=fun _ h=>xl6 13 h.1) ?_;refine Tk.t 1 ?_;refine Tk.t 2 (hy:=by (intro wv hSw;(try dsimp only at hSw);obtain ⟨k0,k1,k2,k3,k4,k5,k6,k7,k8,k9⟩:=hSw.2;(try dsimp only at k0 k1 k2 k3 k4 k5 k6 k7 k8 k9);simp only [Nat.zero_add] at k0 k1 k2 k3 k4 k5 k6 k7 k8 k9;go_simp) <;> with_reducible rfl) ?_;refine Tk.t 3 ?_;refine Tk.t 4 (hy:=by (intro wv hSw;(try dsimp only at hSw);obtain ⟨k0,k1,k2,k3,k4,k5,k6,k7,k8,k9⟩:=hSw.2;(try dsimp only at k0 k1 k2 k3 k4 k5 k6 k7 k8 k9);simp only [Nat.zero_add] at k0 k1 k2 k3 k4 k5 k6 k7 k8 k9;have k10:=cap_cell6 hSw.1 HM10.out;rw [hgr] at k10;go_simp) <;> with_reducible rfl) ?_;refine Tk.o 5 (fun K hK=>?_);go_simp
   (go_at_call 73;have hq:=rmay_cap hlN HCP.out W4;rw [hgr] at hq;refine hq.mono ?_;clear hq;rintro e w6 ⟨rfl,rfl⟩)
   (refine hK.out _ _ (by exact HD.out.dw) fun hH=>Tk.w ?_);clear hK K;refine Tk.t 6 ?_;refine Tk.p 7 ?_;refine Tk.p 8 ?_;refine Tk.p 9 ?_;refine Tk.p 10 ?_;refine Tk.p 11 ?_;refine Tk.p 12 ?_;refine Tk.p 13 ?_;refine Tk.p 14 ?_;refine Tk.p 15 ?_;refine Tk.p 16 ?_;refine Tk.p 17 ?_;refine Tk.t 18 ?_;refine Tk.o 19 (fun K hK=>?_);refine ss6 14 226 c HD.out.rs ?_;obtain ⟨r1,r2⟩:=HD.out.ret c;have r4:=HD.out.dw_ret c;have HR:=Hd (An r1 r2);clear r1 r2 HD;generalize World.setRow _ _ _ = W9 at HR r4 ⊢;(refine hK.out _ _ (by exact r4) fun hH=>Tk.w ?_);clear hK K;refine Tk.t 20 ?_;refine Tk.d ?_;clear hH r4;go_wp2;refine bodyPost_ret (res_caps6 rfl rfl HR.out.1 rfl) rfl ?_;refine ⟨c,_,rfl,?_,HR.out.2⟩;refine ⟨HC.out,?_⟩;rw [HRR.out];rw [HRF.out,hgr];dsimp only;rw [if_neg (by simp)]
  | some p =>
   obtain ⟨p1,p2⟩:=p;go_wp2;have HD:=Hd (HS.out.below (Below.refl _ _).drew);clear x0 x1 x2 x3 x4 x5 x6 x7 x8 x9 HS;(refine Tk.g (fun w'=>DW w c ⟨8,z,(a:Nat),(b:Nat),mn,mx,(m:Nat)⟩ w') (by exact HD.out.dw) fun hH=>?_);generalize World.drew _ = W4 at HD hH ⊢;refine Tk.t 0 (hy:=fun _ h=>xl6 13 h.1) ?_;refine Tk.t 1 ?_;refine Tk.t 2 (hy:=by (intro wv hSw;(try dsimp only at hSw);obtain ⟨k0,k1,k2,k3,k4,k5,k6,k7,k8,k9⟩:=hSw.2;(try dsimp only at k0 k1 k2 k3 k4 k5 k6 k7 k8 k9);simp only [Nat.zero_add] at k0 k1 k2 k3 k4 k5 k6 k7 k8 k9;go_simp) <;> with_reducible rfl) ?_;refine Tk.t 3 ?_;refine Tk.t 4 (hy:=by (intro wv hSw;(try dsimp only at hSw);obtain ⟨k0,k1,k2,k3,k4,k5,k6,k7,k8,k9⟩:=hSw.2;(try dsimp only at k0 k1 k2 k3 k4 k5 k6 k7 k8 k9);simp only [Nat.zero_add] at k0 k1 k2 k3 k4 k5 k6 k7 k8 k9;have k10:=cap_cell6 hSw.1 HM10.out;rw [hgr] at k10;go_simp) <;> with_reducible rfl) ?_;refine Tk.o 5 (fun K hK=>?_);go_simp
   (go_at_call 73;have hq:=rmay_cap hlN HCP.out W4;rw [hgr] at hq;refine hq.mono ?_;clear hq;rintro e w6 ⟨rfl,rfl⟩)
   (refine hK.out _ _ (by exact HD.out.dw) fun hH=>Tk.w ?_);clear hK K;refine Tk.t 6 ?_;refine Tk.t 7 ?_;refine Tk.t 8 ?_;refine Tk.t 9 (hy:=by (intro wv hSw;(try dsimp only at hSw);obtain ⟨k0,k1,k2,k3,k4,k5,k6,k7,k8,k9⟩:=hSw.2;(try dsimp only at k0 k1 k2 k3 k4 k5 k6 k7 k8 k9);simp only [Nat.zero_add] at k0 k1 k2 k3 k4 k5 k6 k7 k8 k9;have k10:=cap_cell6 hSw.1 HM10.out;rw [hgr] at k10;go_simp) <;> with_reducible rfl) ?_;refine Tk.t 10 ?_;refine Tk.t 11 (hy:=by (intro wv hSw;(try dsimp only at hSw);obtain ⟨k0,k1,k2,k3,k4,k5,k6,k7,k8,k9⟩:=hSw.2;(try dsimp only at k0 k1 k2 k3 k4 k5 k6 k7 k8 k9);simp only [Nat.zero_add] at k0 k1 k2 k3 k4 k5 k6 k7 k8 k9;have k10:=cap_cell6 hSw.1 HM10.out;rw [hgr] at k10;go_simp) <;> with_reducible rfl) ?_;refine Tk.t 13 ?_;refine Tk.t 14 ?_;refine Tk.t 15 ?_;refine Tk.t 16 ?_;refine Tk.o 12 (fun K hK=>?_);go_simp
   (go_at_call 52;have hq:=rcut_cap hlN HCP.out W4;rw [hgr] at hq;refine hq.mono ?_;clear hq;rintro e w7 ⟨rfl,rfl⟩)
   (refine hK.out _ _ (by exact HD.out.dw) fun hH=>Tk.w ?_);clear hK K;refine Tk.t 17 ?_;refine Tk.t 18 ?_;refine Tk.o 19 (fun K hK=>?_);refine ss6 14 226 c HD.out.rs ?_;obtain ⟨r1,r2⟩:=HD.out.ret c;have r4:=HD.out.dw_ret c;have HR:=Hd (An r1 r2);clear r1 r2 HD;generalize World.setRow _ _ _ = W9 at HR r4 ⊢;(refine hK.out _ _ (by exact r4) fun hH=>Tk.w ?_);clear hK K;refine Tk.t 20 ?_;refine Tk.d ?_;clear hH r4;go_wp2;refine bodyPost_ret (res_caps6 rfl rfl HR.out.1 rfl) rfl ?_;refine ⟨c,_,rfl,?_,HR.out.2⟩;refine ⟨HC.out,?_⟩;rw [HRR.out];rw [HRF.out,hgr,cut_same];dsimp only;by_cases e:decide (cutT T p1 p2 = cutT T i j) = true
   · rw [if_pos e];exact ⟨e,rfl⟩
   · rw [if_neg e];exact Bool.eq_false_iff.2 e
end Go.Proofs.YtinallojhkaogaaGreatDoor.Mt
