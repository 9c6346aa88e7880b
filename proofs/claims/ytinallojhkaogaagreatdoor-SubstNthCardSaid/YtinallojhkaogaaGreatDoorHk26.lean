/- The texts M6E RrP. -/
import Derived.Test.YtinallojhkaogaaGreatDoorHk14
import Derived.Test.YtinallojhkaogaaGreatDoorHk25
set_option linter.unusedVariables false
set_option linter.unusedSimpArgs false
set_option maxHeartbeats 6400000
set_option maxRecDepth 100000
namespace Go.Proofs.YtinallojhkaogaaGreatDoor.Mt
open Go.RowKit Go.Shelf
open Rx
open Rx.Tr
open St (Wf word mem SV SV_eq)
theorem rnone_any (w:World):Calls Tryz.prog 27 #[] w fun e w'=>e = .returned (CV nones) /\ Below w.heap.size w w':=by
 obtain ⟨ca,cb,hcx⟩:∃ p q,capV none = .complex .f64 p q:=⟨_,_,rfl⟩;have HCX:=Hd hcx;have hnc:=(fun W=>rnone_cap W);rw [hcx] at hnc;have HNC:=Hd hnc;have HA0:=Hd (show (((w.alloc (.cells CZ 33)).alloc (.cells CZ 33)).heap[w.heap.size]? = some (.cells CZ 33 (0,0))) /\ (((w.alloc (.cells CZ 33)).alloc (.cells CZ 33)).heap[w.heap.size + 1]? = some (.cells CZ 33 (0,0))) /\ Below w.heap.size w ((w.alloc (.cells CZ 33)).alloc (.cells CZ 33)) from ⟨heap_alloc2_old _ _ _,heap_alloc2_new _ _ _,((Below.refl _ _).alloc (Nat.le_refl _) _).alloc (by simp) _⟩);have HB0:=Hd (show ((((w.alloc (.cells CZ 33)).alloc (.cells CZ 33)).setRow (w.heap.size + 1) CZ).heap[w.heap.size]? = some (.cells CZ 33 (0,0))) /\ ((((w.alloc (.cells CZ 33)).alloc (.cells CZ 33)).setRow (w.heap.size + 1) CZ).heap[w.heap.size + 1]? = some (.cells (nkC 0) 33 (0,0))) /\ Below w.heap.size w (((w.alloc (.cells CZ 33)).alloc (.cells CZ 33)).setRow (w.heap.size + 1) CZ) from ⟨(setRow_other _ _ _ _ (by omega)).trans HA0.out.1,setRow_heap _ _ _ _ _ _ HA0.out.2.1,below_setRow HA0.out.2.2 (by omega) _⟩);clear hcx hnc;go_enter Tryz.func27,Tryz.ntmps27;rw [show Code.region 6 = Fz 6 from rfl];rw [show Code.region 2 = Fz 2 from rfl];go_wp2_with ((refine wpList_store_row rfl 33 (.tmp 1) (.tmp 3) rfl (w.heap.size + 1) CZ rfl rfl _ CZ HA0.out.2.1 (by kernel_rfl) rfl (by simp [Value.oneCell']) ?_;simp only [Act.put,List.setIfInBounds_toArray,List.set_cons_zero,List.set_cons_succ]));clear HA0;refine at_world (p:=fun V=>V.heap[w.heap.size]? = some (.cells CZ 33 (0,0)) /\ V.heap[w.heap.size + 1]? = some (.cells (nkC 0) 33 (0,0)) /\ Below w.heap.size w V) HB0.out (fun V hV=>?_);have HV:=Hd hV;clear hV HB0;rw [show Fz 2 = Code.region 2 from rfl];go_wp2;go_loopw [2] (fun i wr=>∃ (k:Nat),k <= 10 /\ i = .int .i64 (k:Nat) /\ Hid (wr.heap[w.heap.size]? = some (.cells CZ 33 (0,0)) /\ wr.heap[w.heap.size + 1]? = some (.cells (nkC k) 33 (0,0)) /\ Below w.heap.size w wr)) (fun i _=>10 - (intOf i).toNat);(case atStart=>exact ⟨0,by omega,rfl,HV⟩);case round =>
  clear HV;obtain ⟨k,hk,rfl,HR⟩:=hrel;by_cases hlt:k < 10
  · (have hlt':(k:Int) < 10:=by omega);(have hk0:(0:Int) <= (k:Int):=by omega);(have hwk:IntKind.i64.wrap ((k:Int) + 1) = (k:Int) + 1:=by rw [IntKind.wrap_i64];omega);have hcl:=(Lib.cell_of_heap HR.out.2.1 k).trans (nk_at k hlt);(have hfz:wr.frozen? ⟨w.heap.size + 1,k,none⟩ = false:=by simp [World.frozen?,HR.out.2.1]);have hst:=store_complex Tryz.prog wr (w.heap.size + 1) k ca cb hcl hfz;have hnx:=Go.Joins.block_setCell HR.out.2.1 (i:=k) (.complex .f64 ca cb);rw [<- HCX.out,nk_set] at hnx;have HN:=Hd hnx;have HBL:=Hd (HR.out.2.2.setCell (show w.heap.size <= (⟨w.heap.size + 1,k,none⟩:Addr).block from by show w.heap.size <= w.heap.size + 1;omega) (.complex .f64 ca cb));have HO:=Hd ((Below.heap_setCell wr ⟨w.heap.size + 1,k,none⟩ (.complex .f64 ca cb) w.heap.size (by show w.heap.size ≠ w.heap.size + 1;omega)).trans HR.out.1);rw [HCX.out] at HN;clear hnx;go_wp2_with (go_at_call 54;refine (HNC.out _).mono ?_;rintro e w2 ⟨rfl,rfl⟩);go_roundw;(case rel=>exact ⟨k + 1,by omega,by go_num,Hd ⟨HO.out,HN.out,HBL.out⟩⟩);case measure=>simp [intOf];omega
  · (obtain rfl:k = 10:=by omega);have HN:=Hd (show wr.heap[w.heap.size + 1]? = some (.cells (CC nones) 33 (0,0)) from by rw [HR.out.2.1,nk_all]);go_wp2;rw [show Fz 6 = Code.region 6 from rfl];refine wp_region_list ?_;refine ld6 1 HN.out ?_;refine st6 0 11 nones HR.out.1 ?_;have HN2:=Hd (setRow_heap _ _ _ (CC nones) _ _ HR.out.1);have HB2:=Hd (below_setRow (B:=w.heap.size) HR.out.2.2 (g:=w.heap.size) (Nat.le_refl _) (CC nones));generalize World.setRow _ _ _ = W9 at HN2 HB2 ⊢;go_wp2;refine bodyPost_ret (v:=CV nones) ?_ rfl ⟨rfl,HB2.out⟩;rw [results_cell_row rfl _ W9 w.heap.size 33 (CC nones) (0,0) _ rfl HN2.out Tryz.underlying33 rfl (by kernel_rfl)]
structure TB (w wr:World) (lv gv:Value) (T:List UInt8):Prop where
 bx:wr.heap[w.heap.size]? = some (.cells #[lv,S T,gv] 83 (0,0))
 rs:wr.heap[w.heap.size + 1]? = some (.cells CZ 33 (0,0))
 bel:Below w.heap.size w wr
theorem tb_start (w:World) (lv gv:Value) (T:List UInt8):TB w ((w.alloc (.cells #[lv,S T,gv] 83)).alloc (.cells CZ 33)) lv gv T :=
 ⟨heap_alloc2_old _ _ _,heap_alloc2_new _ _ _,((Below.refl _ _).alloc (Nat.le_refl _) _).alloc (by simp) _⟩
def TW (w:World) (lv gv:Value) (T:List UInt8) (w':World):Prop:=w'.heap[w.heap.size]? = some (.cells #[lv,S T,gv] 83 (0,0))
section
variable {w wr w':World} {lv gv:Value} {T:List UInt8}
theorem tw_cells (h:TW w lv gv T wr):wr.cell? ⟨w.heap.size,0,none⟩ = some lv /\ wr.cell? ⟨w.heap.size,1,none⟩ = some (S T) /\ wr.cell? ⟨w.heap.size,2,none⟩ = some gv :=
 ⟨(Lib.cell_of_heap h 0).trans rfl,(Lib.cell_of_heap h 1).trans rfl,(Lib.cell_of_heap h 2).trans rfl⟩
theorem TB.below (h:TB w wr lv gv T) (hb:Below wr.heap.size wr w'):TB w w' lv gv T :=
 ⟨(hb.block _ (lt_heap' h.bx)).trans h.bx,(hb.block _ (lt_heap' h.rs)).trans h.rs,h.bel.trans (hb.mono h.bel.size)⟩
theorem TB.ret (h:TB w wr lv gv T) (a:Caps):(wr.setRow (w.heap.size + 1) (CC a)).heap[w.heap.size + 1]? = some (.cells (CC a) 33 (0,0)) /\ Below w.heap.size w (wr.setRow (w.heap.size + 1) (CC a)) :=
 ⟨setRow_heap _ _ _ _ _ _ h.rs,below_setRow h.bel (by omega) (CC a)⟩
theorem TB.zero (h:TB w wr lv gv T):TB w (wr.alloc (.cells CZ 33)) lv gv T /\ (wr.alloc (.cells CZ 33)).heap[wr.heap.size]? = some (.cells CZ 33 (0,0)) /\ w.heap.size + 1 < wr.heap.size :=
 ⟨h.below ((Below.refl _ _).alloc (Nat.le_refl _) _),heap_alloc_new _ _,lt_heap' h.rs⟩
theorem TB.set (h:TB w wr lv gv T) {g:Nat} (hz:wr.heap[g]? = some (.cells CZ 33 (0,0))) (hg:w.heap.size + 1 < g) (a:Caps):TB w (wr.setRow g (CC a)) lv gv T /\ (wr.setRow g (CC a)).heap[g]? = some (.cells (CC a) 33 (0,0)) :=
 ⟨⟨(setRow_other _ _ _ _ (by omega)).trans h.bx,(setRow_other _ _ _ _ (by omega)).trans h.rs,below_setRow h.bel (by omega) _⟩,setRow_heap _ _ _ _ _ _ hz⟩
theorem TB.putc (h:TB w wr lv gv T) {g:Nat} {a:Caps} (hb:wr.heap[g]? = some (.cells (CC a) 33 (0,0))) (ha:a.length = 10) (hg:w.heap.size + 1 < g) {n:Nat} (hn:n < 10) (x:Cap) :
  TB w (wr.setCell ⟨g,n,none⟩ (capV x)) lv gv T /\ (wr.setCell ⟨g,n,none⟩ (capV x)).heap[g]? = some (.cells (CC (a.set n x)) 33 (0,0)):=by
 (have hk:∀ k,k ≠ g -> (wr.setCell ⟨g,n,none⟩ (capV x)).heap[k]? = wr.heap[k]?:=fun k hk=>Below.heap_setCell wr ⟨g,n,none⟩ _ k hk);refine ⟨⟨(hk _ (by omega)).trans h.bx,(hk _ (by omega)).trans h.rs,h.bel.setCell (by show w.heap.size <= g;omega) _⟩,?_⟩;have:=Go.Joins.block_setCell hb (i:=n) (capV x);rw [cc_set ha hn] at this;exact this
theorem TB.box (h:TB w wr lv gv T) (a:Caps):TB w (wr.alloc (.cells (CC a) 33)) lv gv T /\ (wr.alloc (.cells (CC a) 33)).heap[wr.heap.size]? = some (.cells (CC a) 33 (0,0)) :=
 ⟨h.below ((Below.refl _ _).alloc (Nat.le_refl _) _),heap_alloc_new _ _⟩
end
def wholeZ (T:List UInt8) (t:Tr) (i j:Int):Option Caps:=if 0 <= i /\ i <= j /\ j <= (T.length:Int) then wholeP T t i.toNat j.toNat else none
theorem wholeZ_nat (T:List UInt8) (t:Tr) {i j:Nat} (hij:i <= j) (hj:j <= T.length):wholeZ T t (i:Nat) (j:Nat) = wholeP T t i j:=by
 unfold wholeZ;rw [if_pos ⟨by omega,by omega,by omega⟩];simp
theorem wholeZ_off (T:List UInt8) (t:Tr) {i j:Int} (h:i < 0 \/ j < i \/ (T.length:Int) < j):wholeZ T t i j = none:=by
 unfold wholeZ;rw [if_neg (by omega)]
theorem rwhole_no (n:Nat) (ao:Option Addr) (c:Nat) (go:Option Addr) (gn gc:Nat) (T:List UInt8) (w:World) (i j:Int) (hbad:n = 0 \/ i < 0 \/ j < i \/ (T.length:Int) < j) :
  Calls Tryz.prog 51 #[.agg #[.slice ao n c,S T,.slice go gn gc],E i,E j] w fun e w'=>e = .returned (ansC none) /\ Below w.heap.size w w':=by
 have HT:=Hd (tb_start w (.slice ao n c) (.slice go gn gc) T);have HNA:=Hd (fun W=>rnone_any W);(have hsz:(ByteArray.mk T.toArray).size = T.length:=by simp [ByteArray.size]);by_cases hn:n = 0
 ·
  (have hn0:((n:Int) == 0) = true:=by rw [hn];rfl);clear hn;clear hbad;go_enter Tryz.func51,Tryz.ntmps51;rw [show Code.region 1 = Fz 1 from rfl];go_wp2;refine at_world (p:=fun V=>TB w V (.slice ao n c) (.slice go gn gc) T) HT.out (fun V hV=>?_);have HV:=Hd hV;have hc:=tw_cells (show TW w (.slice ao n c) (.slice go gn gc) T V from hV.bx);obtain ⟨x0,x1,x2⟩:=hc;clear hV HT;rw [show Fz 1 = Code.region 1 from rfl];go_wp2_with (first
   | (go_at_call 27;refine (HNA.out _).mono ?_;rintro e w8 ⟨rfl,hb⟩;have HE:=Hd (HV.out.below hb);clear hb)
   | (refine st6 6 30 nones HE.out.rs ?_;obtain ⟨r1,r2⟩:=HE.out.ret nones;have HR:=Hd (An r1 r2);clear r1 r2 HE;generalize World.setRow _ _ _ = W9 at HR ⊢))
  refine bodyPost_ret (res_caps6 rfl rfl HR.out.1 rfl) rfl ?_;exact ⟨rfl,HR.out.2⟩
 (have hn0:((n:Int) == 0) = false:=by rw [beq_eq_false_iff_ne];omega);by_cases h0:i < 0
 ·
  clear hn;clear hbad;go_enter Tryz.func51,Tryz.ntmps51;rw [show Code.region 1 = Fz 1 from rfl];go_wp2;refine at_world (p:=fun V=>TB w V (.slice ao n c) (.slice go gn gc) T) HT.out (fun V hV=>?_);have HV:=Hd hV;have hc:=tw_cells (show TW w (.slice ao n c) (.slice go gn gc) T V from hV.bx);obtain ⟨x0,x1,x2⟩:=hc;clear hV HT;rw [show Fz 1 = Code.region 1 from rfl];go_wp2_with (first
   | (go_at_call 27;refine (HNA.out _).mono ?_;rintro e w8 ⟨rfl,hb⟩;have HE:=Hd (HV.out.below hb);clear hb)
   | (refine st6 6 30 nones HE.out.rs ?_;obtain ⟨r1,r2⟩:=HE.out.ret nones;have HR:=Hd (An r1 r2);clear r1 r2 HE;generalize World.setRow _ _ _ = W9 at HR ⊢))
  refine bodyPost_ret (res_caps6 rfl rfl HR.out.1 rfl) rfl ?_;exact ⟨rfl,HR.out.2⟩
 by_cases h1:j < i
 ·
  clear hn;clear hbad;go_enter Tryz.func51,Tryz.ntmps51;rw [show Code.region 1 = Fz 1 from rfl];go_wp2;refine at_world (p:=fun V=>TB w V (.slice ao n c) (.slice go gn gc) T) HT.out (fun V hV=>?_);have HV:=Hd hV;have hc:=tw_cells (show TW w (.slice ao n c) (.slice go gn gc) T V from hV.bx);obtain ⟨x0,x1,x2⟩:=hc;clear hV HT;rw [show Fz 1 = Code.region 1 from rfl];go_wp2_with (first
   | (go_at_call 27;refine (HNA.out _).mono ?_;rintro e w8 ⟨rfl,hb⟩;have HE:=Hd (HV.out.below hb);clear hb)
   | (refine st6 6 30 nones HE.out.rs ?_;obtain ⟨r1,r2⟩:=HE.out.ret nones;have HR:=Hd (An r1 r2);clear r1 r2 HE;generalize World.setRow _ _ _ = W9 at HR ⊢))
  refine bodyPost_ret (res_caps6 rfl rfl HR.out.1 rfl) rfl ?_;exact ⟨rfl,HR.out.2⟩
 (have h2:(T.length:Int) < j:=by omega);clear hbad hn;go_enter Tryz.func51,Tryz.ntmps51;rw [show Code.region 1 = Fz 1 from rfl];go_wp2;refine at_world (p:=fun V=>TB w V (.slice ao n c) (.slice go gn gc) T) HT.out (fun V hV=>?_);have HV:=Hd hV;have hc:=tw_cells (show TW w (.slice ao n c) (.slice go gn gc) T V from hV.bx);obtain ⟨x0,x1,x2⟩:=hc;clear hV HT;rw [show Fz 1 = Code.region 1 from rfl];go_wp2_with (first
  | (go_at_call 27;refine (HNA.out _).mono ?_;rintro e w8 ⟨rfl,hb⟩;have HE:=Hd (HV.out.below hb);clear hb)
  | (refine st6 6 30 nones HE.out.rs ?_;obtain ⟨r1,r2⟩:=HE.out.ret nones;have HR:=Hd (An r1 r2);clear r1 r2 HE;generalize World.setRow _ _ _ = W9 at HR ⊢))
 refine bodyPost_ret (res_caps6 rfl rfl HR.out.1 rfl) rfl ?_;exact ⟨rfl,HR.out.2⟩
theorem rwhole_yes (t:Tr) (hg:Rx.Good t) (hs:SetsOk t) (hTo:ToldOk) (T:List UInt8) (hT:T.length <= 100) (ao:Option Addr) (c:Nat) (go:Option Addr) (gn gc:Nat) (w:World) (hM:DM t T (.slice ao (t.nodes 0).length c) (.slice go gn gc) w) (i j:Nat) (hij:i <= j) (hj:j <= T.length) (R:Option Caps) (hR:R = wholeP T t i j) :
  Calls Tryz.prog 51 #[.agg #[.slice ao (t.nodes 0).length c,S T,.slice go gn gc],E (i:Nat),E (j:Nat)] w fun e w'=>e = .returned (ansC R) /\ Below w.heap.size w w':=by
 have hsl:=nodes_len t 0;have hsp:=size_pos t;have hfit:DFit t T (.slice ao (t.nodes 0).length c) (.slice go gn gc) t (0 + t.size - 1):=dfit_all hT hTo _ t 0 (at_self t) (in_self t) hg.1 hs id;rw [Nat.zero_add,<- hsl] at hfit;(have hmx:(t.nodes 0).length <= 1000:=by have:=hg.2.1;omega);(have hn1:0 < (t.nodes 0).length:=by omega);have HF0:=Hd hfit;have HM0:=Hd (fun W (hb:Below w.heap.size w W)=>hM.below hb);clear hg hs hTo hM hsl hsp hfit;generalize (t.nodes 0).length = n at *;obtain ⟨n1,hn2⟩:∃ n1,n = n1 + 1:=⟨n - 1,by omega⟩;(have hwn:IntKind.i64.wrap ((n:Int) - 1) = (n1:Int):=by rw [IntKind.wrap_i64];omega);(have hn0:((n:Int) == 0) = false:=by rw [beq_eq_false_iff_ne];omega);have HF:=Hd (show DFit t T (.slice ao n c) (.slice go gn gc) t n1 from by have:=HF0.out;rwa [show n - 1 = n1 by omega] at this);have HT:=Hd (tb_start w (.slice ao n c) (.slice go gn gc) T);have HNA:=Hd (fun W=>rnone_any W);(have hsz:(ByteArray.mk T.toArray).size = T.length:=by simp [ByteArray.size]);(have hi0:¬ (i:Int) < 0:=by omega);(have hi1:¬ (j:Int) < (i:Int):=by omega);(have hi2:¬ (T.length:Int) < (j:Int):=by omega);have hof:=(fun W=>rof_cap hij (by omega:j <= 999999999) W);obtain ⟨cxa,cxb,hcx⟩:∃ p q,capV (some (i,j)) = .complex .f64 p q:=⟨_,_,rfl⟩;rw [hcx] at hof;have HCX:=Hd hcx;have HOF:=Hd hof;have HRR:=Hd hR;have HIJ:=Hd (An hij hj);clear hcx hof hR hij hj HF0 hn1 hmx hn2;go_enter Tryz.func51,Tryz.ntmps51;rw [show Code.region 1 = Fz 1 from rfl];go_wp2;refine at_world (p:=fun V=>TB w V (.slice ao n c) (.slice go gn gc) T) HT.out (fun V hV=>?_);have HV:=Hd hV;have hc:=tw_cells (show TW w (.slice ao n c) (.slice go gn gc) T V from hV.bx);obtain ⟨x0,x1,x2⟩:=hc;clear hV HT;rw [show Fz 1 = Code.region 1 from rfl];go_wp2;refine qcut (fun K hK=>?_);have HK:=Hd hK;clear hK;have HD:=Hd (HV.out.below (Below.refl _ _).drew);clear HV x0 x1 x2;have HREST:∀ (z:Nat) (a1:Caps) (b1:Bool) (W5:World),LeftOk T.length (fitP T t i j nones) a1 b1 -> TB w W5 (.slice ao n c) (.slice go gn gc) T -> W5.heap[z]? = some (.cells (CC a1) 33 (0,0)) -> w.heap.size + 1 < z -> K Exit.normal { tmps:=#[Value.agg #[Value.slice ao n c,S T,Value.slice go gn gc],E (i:Nat),E (j:Nat),Value.pointer (some { block:=w.heap.size,off:=0 }),undef,undef,Value.pointer (some { block:=w.heap.size + 1,off:=0 }),Value.bool false,Value.pointer (some { block:=z,off:=0 }),Value.bool b1,Value.pointer (some { block:=w.heap.size,off:=0 }),Value.slice ao n c,E (n:Nat),Value.bool false,Value.bool false,E (i:Nat),Value.bool false,Value.bool false,Value.bool false,E (j:Nat),E (i:Nat),Value.bool false,Value.bool false,Value.bool false,E (j:Nat),Value.pointer (some { block:=w.heap.size,off:=1 }),S T,E (T.length:Nat),Value.bool false,Value.bool false,undef,Value.tuple #[CV a1,Value.bool b1],Value.pointer (some { block:=w.heap.size,off:=0 }),Value.slice ao n c,Value.pointer (some { block:=w.heap.size,off:=2 }),Value.slice go gn gc,Value.pointer (some { block:=w.heap.size,off:=0 }),Value.slice ao n c,E (n:Nat),E (n1:Nat),Value.pointer (some { block:=w.heap.size,off:=1 }),S T,E (i:Nat),E (j:Nat),CV nones,Value.tuple #[CV a1,Value.bool b1],CV a1,Value.bool b1,undef,undef,undef,undef,undef,undef,undef,undef,undef,undef,undef],defers:=[] } W5:=by
  intro z a1 b1 W5 hl h5 hz hgz;have HL:=Hd hl;have HX:=Hd h5;have HZ:=Hd hz;have HG:=Hd hgz;clear hl h5 hz hgz HD;rw [HK.out];clear HK;cases hf:fitP T t i j nones with
  | none =>
   rw [hf] at HL;obtain ⟨hca,hb1⟩:=HL.out;subst hb1;clear hca;go_wp2_with (first
    | (go_at_call 27;refine (HNA.out _).mono ?_;rintro e w8 ⟨rfl,hb⟩;have HE:=Hd (HX.out.below hb);clear hb)
    | (refine st6 6 50 nones HE.out.rs ?_;obtain ⟨r1,r2⟩:=HE.out.ret nones;have HR:=Hd (An r1 r2);clear r1 r2 HE;generalize World.setRow _ _ _ = W9 at HR ⊢))
   refine bodyPost_ret (res_caps6 rfl rfl HR.out.1 rfl) rfl ?_;refine ⟨?_,HR.out.2⟩;rw [HRR.out,wholeP,hf];rfl
  | some a0 =>
   rw [hf] at HL;obtain ⟨hca,hb1,ha1⟩:=HL.out;subst hb1;subst ha1;have HCA:=Hd hca;clear hca HL;have hcl:=cap_cell6 HZ.out (n:=0) (by decide);(have hfz:W5.frozen? ⟨z,0,none⟩ = false:=by simp [World.frozen?,HZ.out]);have hst:=store_complex Tryz.prog W5 z 0 cxa cxb hcl hfz;obtain ⟨hp1,hp2⟩:=HX.out.putc HZ.out HCA.out.len HG.out (n:=0) (by decide) (some (i,j));obtain ⟨a2,ha2⟩:∃ a2,a2 = a1.set 0 (some (i,j)):=⟨_,rfl⟩;rw [<- ha2] at hp2;rw [HCX.out] at hp1 hp2;have HA2:=Hd ha2;have HS5:=Hd hp1;have HB5:=Hd hp2;clear hp1 hp2 ha2 HX HZ;go_wp2_with (first
    | (go_at_call 79;refine (HOF.out W5).mono ?_;rintro e w6 ⟨rfl,rfl⟩)
    | (refine ld6 8 HB5.out ?_)
    | (refine st6 6 58 a2 HS5.out.rs ?_;obtain ⟨r1,r2⟩:=HS5.out.ret a2;have HR:=Hd (An r1 r2);clear r1 r2 HS5;generalize World.setRow _ _ _ = W9 at HR ⊢))
   refine bodyPost_ret (res_caps6 rfl rfl HR.out.1 rfl) rfl ?_;refine ⟨?_,HR.out.2⟩;rw [HRR.out,wholeP,hf,HA2.out];rfl
 clear HK HRR HCX HOF;(refine Tk.g (fun w'=>TW w (.slice ao n c) (.slice go gn gc) T w') (by exact HD.out.bx) fun hH=>?_);generalize World.drew _ = W2 at HD hH ⊢;refine Tk.t 0 ?_;refine Tk.k (fun _ h=>tw_cells h) 1 ?_;refine Tk.t 2 ?_;refine Tk.k (fun _ h=>tw_cells h) 3 ?_;refine Tk.t 4 ?_;refine Tk.k (fun _ h=>tw_cells h) 5 ?_;refine Tk.t 6 ?_;refine Tk.t 7 ?_;refine Tk.t 8 ?_;refine Tk.k (fun _ h=>tw_cells h) 9 ?_;refine Tk.t 10 ?_;refine Tk.t 11 ?_;refine Tk.y 12 17 (fun K hK=>?st12_1) (fun K hK=>?st17_1);case st12_1 =>
  go_simp
  (go_at_call 27;refine (HNA.out _).mono ?_;rintro e w1 ⟨rfl,hb⟩;have HX1_12:=Hd (HD.out.below hb);clear hb)
  (refine hK.out _ _ (by exact HX1_12.out.bx) fun hH=>Tk.w ?_);clear hK;refine Tk.y 13 17 (fun K hK=>?st13_2) (fun K hK=>?st17_2);case st13_2 =>
   go_simp
   (go_at_call 78;have hq:=HF.out i j nones _ HIJ.out.1 HIJ.out.2 (caps_none _) (HM0.out _ HX1_12.out.bel);refine hq.mono ?_;clear hq;rintro e w2 ⟨a1,b1,rfl,hl,hb⟩;have HL:=Hd hl;have HX2_13:=Hd (HX1_12.out.below hb);clear hb hl)
   (refine hK.out _ _ (by exact HX2_13.out.bx) fun hH=>Tk.w ?_);clear hK;refine Tk.t 14 ?_;refine Tk.t 15 ?_;refine Tk.t 16 ?_;refine Tk.o 17 (fun K hK=>?_);go_simp;obtain ⟨f1,f2,f3⟩:=HX2_13.out.zero;have HX3_17:=Hd f1;have HZ:=Hd (An f2 f3);clear f1 f2 f3;(refine hK.out _ _ (by exact HX3_17.out.bx) fun hH=>Tk.w ?_);clear hK;generalize World.alloc _ _ = V3 at HX3_17 HZ hH ⊢;refine Tk.o 18 (fun K hK=>?_);refine ss6 8 46 a1 HZ.out.1 ?_;obtain ⟨f1,f2⟩:=HX3_17.out.set HZ.out.1 HZ.out.2 a1;have HX4:=Hd f1;have HB:=Hd (An f2 HZ.out.2);clear f1 f2 HZ HX3_17;generalize World.setRow _ _ _ = W5 at HX4 HB ⊢;(refine hK.out _ _ (by exact HX4.out.bx) fun hH=>Tk.w ?_);clear hK;refine Tk.t 19 ?_;refine Tk.d ?_;exact HREST _ _ _ _ HL.out HX4.out HB.out.1 HB.out.2
  case st17_2 =>
   go_simp;obtain ⟨f1,f2,f3⟩:=HX1_12.out.zero;have HX2_17:=Hd f1;have HZ:=Hd (An f2 f3);clear f1 f2 f3;(refine hK.out _ _ (by exact HX2_17.out.bx) fun hH=>Tk.w ?_);clear hK;generalize World.alloc _ _ = V2 at HX2_17 HZ hH ⊢;refine Tk.o 13 (fun K hK=>?_);go_simp
   (go_at_call 78;have hq:=HF.out i j nones _ HIJ.out.1 HIJ.out.2 (caps_none _) (HM0.out _ HX2_17.out.bel);refine hq.mono ?_;clear hq;rintro e w5 ⟨a1,b1,rfl,hl,hb⟩;have HL:=Hd hl;have HX5_13:=Hd (HX2_17.out.below hb);have hzz:=(hb.block _ (lt_heap' HZ.out.1)).trans HZ.out.1;have hz2:=HZ.out.2;clear HZ;have HZ:=Hd (An hzz hz2);clear hzz hz2;clear hb hl)
   (refine hK.out _ _ (by exact HX5_13.out.bx) fun hH=>Tk.w ?_);clear hK;refine Tk.t 14 ?_;refine Tk.t 15 ?_;refine Tk.t 16 ?_;refine Tk.o 18 (fun K hK=>?_);refine ss6 8 46 a1 HZ.out.1 ?_;obtain ⟨f1,f2⟩:=HX5_13.out.set HZ.out.1 HZ.out.2 a1;have HX6:=Hd f1;have HB:=Hd (An f2 HZ.out.2);clear f1 f2 HZ HX5_13;generalize World.setRow _ _ _ = W5 at HX6 HB ⊢;(refine hK.out _ _ (by exact HX6.out.bx) fun hH=>Tk.w ?_);clear hK;refine Tk.t 19 ?_;refine Tk.d ?_;exact HREST _ _ _ _ HL.out HX6.out HB.out.1 HB.out.2
 case st17_1 =>
  go_simp;obtain ⟨f1,f2,f3⟩:=HD.out.zero;have HX1_17:=Hd f1;have HZ:=Hd (An f2 f3);clear f1 f2 f3;(refine hK.out _ _ (by exact HX1_17.out.bx) fun hH=>Tk.w ?_);clear hK;generalize World.alloc _ _ = V1 at HX1_17 HZ hH ⊢;refine Tk.o 12 (fun K hK=>?_);go_simp
  (go_at_call 27;refine (HNA.out _).mono ?_;rintro e w7 ⟨rfl,hb⟩;have HX7_12:=Hd (HX1_17.out.below hb);have hzz:=(hb.block _ (lt_heap' HZ.out.1)).trans HZ.out.1;have hz2:=HZ.out.2;clear HZ;have HZ:=Hd (An hzz hz2);clear hzz hz2;clear hb)
  (refine hK.out _ _ (by exact HX7_12.out.bx) fun hH=>Tk.w ?_);clear hK;refine Tk.o 13 (fun K hK=>?_);go_simp
  (go_at_call 78;have hq:=HF.out i j nones _ HIJ.out.1 HIJ.out.2 (caps_none _) (HM0.out _ HX7_12.out.bel);refine hq.mono ?_;clear hq;rintro e w8 ⟨a1,b1,rfl,hl,hb⟩;have HL:=Hd hl;have HX8_13:=Hd (HX7_12.out.below hb);have hzz:=(hb.block _ (lt_heap' HZ.out.1)).trans HZ.out.1;have hz2:=HZ.out.2;clear HZ;have HZ:=Hd (An hzz hz2);clear hzz hz2;clear hb hl)
  (refine hK.out _ _ (by exact HX8_13.out.bx) fun hH=>Tk.w ?_);clear hK;refine Tk.t 14 ?_;refine Tk.t 15 ?_;refine Tk.t 16 ?_;refine Tk.o 18 (fun K hK=>?_);refine ss6 8 46 a1 HZ.out.1 ?_;obtain ⟨f1,f2⟩:=HX8_13.out.set HZ.out.1 HZ.out.2 a1;have HX9:=Hd f1;have HB:=Hd (An f2 HZ.out.2);clear f1 f2 HZ HX8_13;generalize World.setRow _ _ _ = W5 at HX9 HB ⊢;(refine hK.out _ _ (by exact HX9.out.bx) fun hH=>Tk.w ?_);clear hK;refine Tk.t 19 ?_;refine Tk.d ?_;exact HREST _ _ _ _ HL.out HX9.out HB.out.1 HB.out.2
end Go.Proofs.YtinallojhkaogaaGreatDoor.Mt
namespace Go.Proofs.YtinallojhkaogaaGreatDoor.Rx
open Tr
def firstF (l:List Nd):Nat -> Int -> Int
 | 0,_=>-1
 | f + 1,i =>
  if i < 0 then -1 else
  match l[i.toNat]? with
  | none=>-1
  | some n =>
   if n.k = 4 \/ n.k = 5 then
    if n.b ≠ i - 1 then -1 else
    if firstF l f (i - 1) < 1 \/ n.a ≠ firstF l f (i - 1) - 1 then -1 else firstF l f (firstF l f (i - 1) - 1)
   else if n.k = 6 \/ n.k = 7 then
    if n.a ≠ i - 1 then -1 else firstF l f (i - 1)
   else i
theorem first_le (l:List Nd):∀ (f:Nat) (i:Int),firstF l f i = -1 \/ (0 <= firstF l f i /\ firstF l f i <= i)
 | 0,i=>Or.inl rfl
 | f + 1,i=>by
  unfold firstF;by_cases h0:i < 0
  · rw [if_pos h0];exact Or.inl rfl
  rw [if_neg h0];split
  · exact Or.inl rfl
  ·
   rename_i n hn;split
   ·
    split
    · exact Or.inl rfl
    ·
     split
     · exact Or.inl rfl
     ·
      rename_i h;(have h1:¬ firstF l f (i - 1) < 1:=fun q=>h (Or.inl q));have a:=first_le l f (i - 1);rcases first_le l f (firstF l f (i - 1) - 1) with b | b
      · exact Or.inl b
      · exact Or.inr ⟨b.1,by omega⟩
   ·
    split
    ·
     split
     · exact Or.inl rfl
     ·
      rcases first_le l f (i - 1) with b | b
      · exact Or.inl b
      · exact Or.inr ⟨b.1,by omega⟩
    · exact Or.inr ⟨by omega,Int.le_refl _⟩
theorem at_join {l:List Nd} {t:Tr} {o:Nat} {a b:List Nd} {r:Nd} (e:t.nodes o = a ++ b ++ [r]) (ha:∀ j,j < a.length -> l[o + j]? = a[j]?) (hb:∀ j,j < b.length -> l[o + a.length + j]? = b[j]?) (hr:l[o + a.length + b.length]? = some r):At l t o:=by
 intro j hj;(have hs:t.size = a.length + b.length + 1:=by rw [<- nodes_len t o,e];simp;omega);rw [e];rcases Nat.lt_or_ge j a.length with h | h
 · rw [List.getElem?_append_left (by simp;omega),List.getElem?_append_left h];exact ha j h
 ·
  rcases Nat.lt_or_ge j (a.length + b.length) with h2 | h2
  · rw [List.getElem?_append_left (by simp;omega),List.getElem?_append_right h];have:=hb (j - a.length) (by omega);rw [show o + a.length + (j - a.length) = o + j by omega] at this;exact this
  · (obtain rfl:j = a.length + b.length:=by omega);rw [List.getElem?_append_right (by simp)];rw [show o + (a.length + b.length) = o + a.length + b.length by omega,hr];simp
theorem first_two {l:List Nd} {f:Nat} {i:Int} {n:Nd} (h0:0 <= i) (hl:l[i.toNat]? = some n) (hk:n.k = 4 \/ n.k = 5):firstF l (f + 1) i = if n.b ≠ i - 1 then -1 else
    if firstF l f (i - 1) < 1 \/ n.a ≠ firstF l f (i - 1) - 1 then -1 else firstF l f (firstF l f (i - 1) - 1):=by
 rw [firstF,if_neg (by omega),hl];dsimp only;rw [if_pos hk]
theorem first_one {l:List Nd} {f:Nat} {i:Int} {n:Nd} (h0:0 <= i) (hl:l[i.toNat]? = some n) (h4:¬ (n.k = 4 \/ n.k = 5)) (hk:n.k = 6 \/ n.k = 7):firstF l (f + 1) i = if n.a ≠ i - 1 then -1 else firstF l f (i - 1):=by
 rw [firstF,if_neg (by omega),hl];dsimp only;rw [if_neg h4,if_pos hk]
theorem first_leaf {l:List Nd} {f:Nat} {i:Int} {n:Nd} (h0:0 <= i) (hl:l[i.toNat]? = some n) (h4:¬ (n.k = 4 \/ n.k = 5)) (h6:¬ (n.k = 6 \/ n.k = 7)):firstF l (f + 1) i = i:=by
 rw [firstF,if_neg (by omega),hl];dsimp only;rw [if_neg h4,if_neg h6]
theorem first_tree {l:List Nd}:∀ (t:Tr) (o f:Nat),At l t o -> o + t.size - 1 < f -> firstF l f ((o + t.size - 1:Nat):Int) = o
 | t,o,0,_,h=>absurd h (by omega)
 | t,o,f + 1,ha,hf=>by
  have hr:l[(((o + t.size - 1:Nat):Int)).toNat]? = some (t.root o):=by
   rw [show (((o + t.size - 1:Nat):Int)).toNat = o + t.size - 1 from by omega];exact at_root ha
  match t with
  | .e=>rw [first_leaf (by omega) hr (by simp [root]) (by simp [root])];simp [size]
  | .set s=>rw [first_leaf (by omega) hr (by simp [root]) (by simp [root])];simp [size]
  | .beg=>rw [first_leaf (by omega) hr (by simp [root]) (by simp [root])];simp [size]
  | .fin=>rw [first_leaf (by omega) hr (by simp [root]) (by simp [root])];simp [size]
  | .ref n=>rw [first_leaf (by omega) hr (by simp [root]) (by simp [root])];simp [size]
  | .cat x y =>
   have hx:=size_pos x;have hy:=size_pos y;(have e1:((o + (Tr.cat x y).size - 1:Nat):Int) - 1 = ((o + x.size + y.size - 1:Nat):Int):=by simp only [size];omega);have i1:=first_tree y (o + x.size) f (at_right (t:=.cat x y) (r:=[(Tr.cat x y).root o]) ha (by simp [nodes])) (by simp only [size] at hf;omega);have i2:=first_tree x o f (at_left (t:=.cat x y) (r:=y.nodes (o + x.size) ++ [(Tr.cat x y).root o]) ha (by simp [nodes])) (by simp only [size] at hf;omega);rw [first_two (by omega) hr (Or.inl rfl),e1,i1];have ea:((Tr.cat x y).root o).a = ((o + x.size - 1:Nat):Int):=rfl;have eb:((Tr.cat x y).root o).b = ((o + x.size + y.size - 1:Nat):Int):=rfl;rw [if_neg (by rw [eb];omega),if_neg (by rw [ea];omega)];rw [show (((o + x.size:Nat):Int)) - 1 = ((o + x.size - 1:Nat):Int) by omega,i2]
  | .alt x y =>
   have hx:=size_pos x;have hy:=size_pos y;(have e1:((o + (Tr.alt x y).size - 1:Nat):Int) - 1 = ((o + x.size + y.size - 1:Nat):Int):=by simp only [size];omega);have i1:=first_tree y (o + x.size) f (at_right (t:=.alt x y) (r:=[(Tr.alt x y).root o]) ha (by simp [nodes])) (by simp only [size] at hf;omega);have i2:=first_tree x o f (at_left (t:=.alt x y) (r:=y.nodes (o + x.size) ++ [(Tr.alt x y).root o]) ha (by simp [nodes])) (by simp only [size] at hf;omega);rw [first_two (by omega) hr (Or.inr rfl),e1,i1];have ea:((Tr.alt x y).root o).a = ((o + x.size - 1:Nat):Int):=rfl;have eb:((Tr.alt x y).root o).b = ((o + x.size + y.size - 1:Nat):Int):=rfl;rw [if_neg (by rw [eb];omega),if_neg (by rw [ea];omega)];rw [show (((o + x.size:Nat):Int)) - 1 = ((o + x.size - 1:Nat):Int) by omega,i2]
  | .times mn mx x =>
   have hx:=size_pos x;(have e1:((o + (Tr.times mn mx x).size - 1:Nat):Int) - 1 = ((o + x.size - 1:Nat):Int):=by simp only [size];omega);have i2:=first_tree x o f (at_left (t:=.times mn mx x) (r:=[(Tr.times mn mx x).root o]) ha (by simp [nodes])) (by simp only [size] at hf;omega);have ea:((Tr.times mn mx x).root o).a = ((o + x.size - 1:Nat):Int):=rfl;rw [first_one (by omega) hr (by simp [root]) (Or.inl rfl),e1,if_neg (by rw [ea];omega),i2]
  | .grp n x =>
   have hx:=size_pos x;(have e1:((o + (Tr.grp n x).size - 1:Nat):Int) - 1 = ((o + x.size - 1:Nat):Int):=by simp only [size];omega);have i2:=first_tree x o f (at_left (t:=.grp n x) (r:=[(Tr.grp n x).root o]) ha (by simp [nodes])) (by simp only [size] at hf;omega);have ea:((Tr.grp n x).root o).a = ((o + x.size - 1:Nat):Int):=rfl;rw [first_one (by omega) hr (by simp [root]) (Or.inr rfl),e1,if_neg (by rw [ea];omega),i2]
theorem at_len {l:List Nd} {t:Tr} {o:Nat} (h:At l t o):∀ j,j < (t.nodes o).length -> l[o + j]? = (t.nodes o)[j]?:=fun j hj=>h j (by rw [nodes_len] at hj;exact hj)
theorem at_leaf {l:List Nd} {t:Tr} {o:Nat} (e:t.nodes o = [t.root o]) (h:l[o]? = some (t.root o)):At l t o:=by
 (have hs:t.size = 1:=by rw [<- nodes_len t o,e];rfl);intro j hj;(obtain rfl:j = 0:=by omega);rw [Nat.add_zero,h,e];rfl
theorem tree_first {l:List Nd} (hone:∀ n ∈ l,OneN n):∀ (f:Nat) (i:Int),0 <= firstF l f i -> ∃ t,At l t (firstF l f i).toNat /\ firstF l f i + t.size - 1 = i
 | 0,i,h=>absurd h (by show ¬ (0:Int) <= -1;decide)
 | f + 1,i,h=>by
  have IH:=tree_first hone f;revert h;unfold firstF;by_cases h0:i < 0
  · rw [if_pos h0];intro h;exact absurd h (by decide)
  rw [if_neg h0];cases hl:l[i.toNat]? with
  | none=>intro h;exact absurd h (by show ¬ (0:Int) <= -1;decide)
  | some n =>
   have hn:=hone n (List.mem_of_getElem? hl);dsimp only;by_cases h4:n.k = 4 \/ n.k = 5
   ·
    rw [if_pos h4];by_cases hb:n.b ≠ i - 1
    · rw [if_pos hb];intro h;exact absurd h (by decide)
    rw [if_neg hb];by_cases hc:firstF l f (i - 1) < 1 \/ n.a ≠ firstF l f (i - 1) - 1
    · rw [if_pos hc];intro h;exact absurd h (by decide)
    rw [if_neg hc];intro h;(have hc1:¬ firstF l f (i - 1) < 1:=fun q=>hc (Or.inl q));have hc2:n.a = firstF l f (i - 1) - 1:=by
     by_cases q:n.a = firstF l f (i - 1) - 1
     · exact q
     · exact absurd (Or.inr q) hc
    obtain ⟨y,hy,ey⟩:=IH (i - 1) (by omega);obtain ⟨x,hx,ex⟩:=IH (firstF l f (i - 1) - 1) h;generalize firstF l f (firstF l f (i - 1) - 1) = b at *;generalize firstF l f (i - 1) = b1 at *;have px:=size_pos x;have py:=size_pos y;(have hb1:b1.toNat = b.toNat + x.size:=by omega);rw [hb1] at hy;(have hroot:l[b.toNat + x.size + y.size]? = some n:=by rw [<- hl];congr 1;omega);obtain ⟨k,s,a,b2,mn,mx,m⟩:=n;dsimp only at h4 hb hc2;unfold OneN at hn;dsimp only at hn;have hz:s = z4 /\ mn = 0 /\ mx = 0 /\ m = 0:=by
     rcases hn with q | q | q | q | q | q
     · omega
     · omega
     · exact q.2
     · omega
     · omega
     · omega
    obtain ⟨rfl,rfl,rfl,rfl⟩:=hz;have hlx:=at_len hx;have hly:=at_len hy;(have ea:a = ((b.toNat + x.size - 1:Nat):Int):=by omega);(have eb:b2 = ((b.toNat + x.size + y.size - 1:Nat):Int):=by omega);rcases h4 with rfl | rfl
    · refine ⟨.cat x y,at_join (a:=x.nodes b.toNat) (b:=y.nodes (b.toNat + x.size)) (r:=(Tr.cat x y).root b.toNat) (by simp [nodes]) hlx (fun j hj=>by rw [nodes_len];exact hly j hj) ?_,by simp only [size];omega⟩;rw [nodes_len,nodes_len,hroot,ea,eb];rfl
    · refine ⟨.alt x y,at_join (a:=x.nodes b.toNat) (b:=y.nodes (b.toNat + x.size)) (r:=(Tr.alt x y).root b.toNat) (by simp [nodes]) hlx (fun j hj=>by rw [nodes_len];exact hly j hj) ?_,by simp only [size];omega⟩;rw [nodes_len,nodes_len,hroot,ea,eb];rfl
   rw [if_neg h4];by_cases h6:n.k = 6 \/ n.k = 7
   ·
    rw [if_pos h6];by_cases ha:n.a ≠ i - 1
    · rw [if_pos ha];intro h;exact absurd h (by decide)
    rw [if_neg ha];intro h;obtain ⟨x,hx,ex⟩:=IH (i - 1) h;generalize firstF l f (i - 1) = b at *;have px:=size_pos x;(have hroot:l[b.toNat + x.size + 0]? = some n:=by rw [<- hl];congr 1;omega);obtain ⟨k,s,a,b2,mn,mx,m⟩:=n;dsimp only at h6 ha h4;unfold OneN at hn;dsimp only at hn;(have ea:a = ((b.toNat + x.size - 1:Nat):Int):=by omega);have hlx:=at_len hx;rcases h6 with rfl | rfl
    ·
     have hz:s = z4 /\ b2 = 0 /\ m = 0:=by
      rcases hn with q | q | q | q | q | q
      · omega
      · omega
      · omega
      · exact ⟨q.2.1,q.2.2.1,q.2.2.2.1⟩
      · omega
      · omega
     obtain ⟨rfl,rfl,rfl⟩:=hz;refine ⟨.times mn mx x,at_join (a:=x.nodes b.toNat) (b:=[]) (r:=(Tr.times mn mx x).root b.toNat) (by simp [nodes]) hlx (fun j hj=>absurd hj (by simp)) ?_,by simp only [size];omega⟩;rw [nodes_len,List.length_nil,hroot,ea];rfl
    ·
     have hz:s = z4 /\ b2 = 0 /\ mn = 0 /\ mx = 0:=by
      rcases hn with q | q | q | q | q | q
      · omega
      · omega
      · omega
      · omega
      · exact ⟨q.2.1,q.2.2.1,q.2.2.2.1,q.2.2.2.2.1⟩
      · omega
     obtain ⟨rfl,rfl,rfl,rfl⟩:=hz;refine ⟨.grp m x,at_join (a:=x.nodes b.toNat) (b:=[]) (r:=(Tr.grp m x).root b.toNat) (by simp [nodes]) hlx (fun j hj=>absurd hj (by simp)) ?_,by simp only [size];omega⟩;rw [nodes_len,List.length_nil,hroot,ea];rfl
   ·
    rw [if_neg h6];intro h;obtain ⟨k,s,a,b2,mn,mx,m⟩:=n;dsimp only at h6 h4;unfold OneN at hn;dsimp only at hn;rcases hn with ⟨q,rfl,rfl,rfl,rfl,rfl,rfl⟩ | ⟨rfl,q,rfl,rfl,rfl,rfl,rfl⟩ | q | q | q | ⟨rfl,rfl,rfl,rfl,rfl,rfl,q⟩
    ·
     rcases q with rfl | rfl | rfl
     · exact ⟨.e,at_leaf rfl hl,by simp only [size];omega⟩
     · exact ⟨.beg,at_leaf rfl hl,by simp only [size];omega⟩
     · exact ⟨.fin,at_leaf rfl hl,by simp only [size];omega⟩
    · exact ⟨.set s,at_leaf rfl hl,by simp only [size];omega⟩
    · omega
    · omega
    · omega
    · exact ⟨.ref m,at_leaf rfl hl,by simp only [size];omega⟩
def consT (em:Bool):Tr -> Bool
 | .e=>em
 | .cat x y=>decide (x.rk ≠ 4 /\ x.rk ≠ 5 /\ y.rk ≠ 5) && consT em x && consT em y
 | .alt x y=>decide (x.rk ≠ 5) && consT em x && consT em y
 | .times _ _ x=>decide (x.rk = 1 \/ x.rk = 7 \/ x.rk = 8) && consT em x
 | .grp _ x=>consT em x
 | _=>true
def offN (b:Bool) (s:NSt):NSt:=⟨s.g,s.e,s.r,s.ok && b⟩
theorem off_off (a b:Bool) (s:NSt):offN b (offN a s) = offN (a && b) s:=by unfold offN;simp [Bool.and_assoc]
theorem off_true (s:NSt):offN true s = s:=by unfold offN;simp
theorem num_off:∀ (t:Tr) (b:Bool) (s:NSt),numT t (offN b s) = offN b (numT t s)
 | .e,b,s | .set _,b,s | .beg,b,s | .fin,b,s=>rfl
 | .cat x y,b,s=>by simp only [numT];rw [num_off x,num_off y]
 | .alt x y,b,s=>by simp only [numT];rw [num_off x,num_off y]
 | .times _ _ x,b,s=>by simp only [numT];rw [num_off x]
 | .grp n x,b,s=>by
  have h:=num_off x b ⟨s.g + 1,s.e,s.r,s.ok && decide (n = s.g + 1)⟩;have e:(⟨s.g + 1,s.e,s.r,(s.ok && b) && decide (n = s.g + 1)⟩:NSt) = offN b ⟨s.g + 1,s.e,s.r,s.ok && decide (n = s.g + 1)⟩:=by
   unfold offN
   congr 1
   cases s.ok <;> cases b <;> simp
  show (⟨(numT x ⟨s.g + 1,s.e,s.r,(s.ok && b) && decide (n = s.g + 1)⟩).g,(numT x ⟨s.g + 1,s.e,s.r,(s.ok && b) && decide (n = s.g + 1)⟩).e.set n.toNat true,(numT x ⟨s.g + 1,s.e,s.r,(s.ok && b) && decide (n = s.g + 1)⟩).r,(numT x ⟨s.g + 1,s.e,s.r,(s.ok && b) && decide (n = s.g + 1)⟩).ok⟩:NSt) = _;rw [e,h];rfl
 | .ref n,b,s=>by
  simp only [numT,offN]
  congr 1
  cases s.ok <;> cases b <;> simp
def thrT (em:Bool):Tr -> NSt -> NSt
 | .e,s=>offN em s
 | .cat x y,s=>thrT em y (thrT em x (offN (decide (x.rk ≠ 4 /\ x.rk ≠ 5 /\ y.rk ≠ 5)) s))
 | .alt x y,s=>thrT em y (thrT em x (offN (decide (x.rk ≠ 5)) s))
 | .times _ _ x,s=>thrT em x (offN (decide (x.rk = 1 \/ x.rk = 7 \/ x.rk = 8)) s)
 | .grp n x,s=>⟨(thrT em x ⟨s.g + 1,s.e,s.r,s.ok && decide (n = s.g + 1)⟩).g,(thrT em x ⟨s.g + 1,s.e,s.r,s.ok && decide (n = s.g + 1)⟩).e.set n.toNat true,(thrT em x ⟨s.g + 1,s.e,s.r,s.ok && decide (n = s.g + 1)⟩).r,(thrT em x ⟨s.g + 1,s.e,s.r,s.ok && decide (n = s.g + 1)⟩).ok⟩
 | t,s=>numT t s
theorem thr_num (em:Bool):∀ (t:Tr) (s:NSt),thrT em t s = offN (consT em t) (numT t s)
 | .e,s=>rfl
 | .set _,s | .beg,s | .fin,s | .ref _,s=>by simp only [thrT,consT,off_true]
 | .cat x y,s=>by
  simp only [thrT,consT,numT];rw [thr_num em x,thr_num em y,num_off,num_off,num_off,off_off,off_off,Bool.and_assoc]
 | .alt x y,s=>by
  simp only [thrT,consT,numT];rw [thr_num em x,thr_num em y,num_off,num_off,num_off,off_off,off_off,Bool.and_assoc]
 | .times _ _ x,s=>by
  simp only [thrT,consT,numT];rw [thr_num em x,num_off,off_off]
 | .grp n x,s=>by
  simp only [thrT,consT,numT];rw [thr_num em x];rfl
theorem one_set {s:List Nat} (h:OneN ⟨1,s,0,0,0,0,0⟩):s ≠ z4:=by
 unfold OneN at h;dsimp only at h;rcases h with q | q | q | q | q | q
 · omega
 · exact q.2.1
 · omega
 · omega
 · omega
 · omega
theorem one_times {a mn mx:Int} (h:OneN ⟨6,z4,a,0,mn,mx,0⟩):0 <= mn /\ mn <= 255 /\ (mx = -1 \/ (mn <= mx /\ 1 <= mx /\ mx <= 255)):=by
 unfold OneN at h;dsimp only at h;rcases h with q | q | q | q | q | q
 · omega
 · omega
 · omega
 · exact ⟨q.2.2.2.2.1,q.2.2.2.2.2.1,q.2.2.2.2.2.2⟩
 · omega
 · omega
theorem one_grp {a n:Int} (h:OneN ⟨7,z4,a,0,0,0,n⟩):1 <= n /\ n <= 9:=by
 unfold OneN at h;dsimp only at h;rcases h with q | q | q | q | q | q
 · omega
 · omega
 · omega
 · omega
 · exact ⟨q.2.2.2.2.2.1,q.2.2.2.2.2.2⟩
 · omega
theorem one_ref {n:Int} (h:OneN ⟨8,z4,0,0,0,0,n⟩):1 <= n /\ n <= 9:=by
 unfold OneN at h;dsimp only at h;rcases h with q | q | q | q | q | q
 · omega
 · omega
 · omega
 · omega
 · omega
 · exact ⟨q.2.2.2.2.2.2.1,q.2.2.2.2.2.2.2⟩
theorem fine_of (em:Bool):∀ (t:Tr) (o:Nat),(∀ n ∈ t.nodes o,OneN n) -> consT em t = true -> t.Fine (em = true)
 | .e,o,_,hc=>hc
 | .set s,o,h,_=>one_set (h _ (by simp [nodes,root]))
 | .beg,o,_,_=>trivial
 | .fin,o,_,_=>trivial
 | .cat x y,o,h,hc=>by
  simp only [consT,Bool.and_eq_true,decide_eq_true_eq] at hc;exact ⟨fine_of em x o (fun n hn=>h n (by simp [nodes,hn])) hc.1.2,fine_of em y (o + x.size) (fun n hn=>h n (by simp [nodes,hn])) hc.2,hc.1.1⟩
 | .alt x y,o,h,hc=>by
  simp only [consT,Bool.and_eq_true,decide_eq_true_eq] at hc;exact ⟨fine_of em x o (fun n hn=>h n (by simp [nodes,hn])) hc.1.2,fine_of em y (o + x.size) (fun n hn=>h n (by simp [nodes,hn])) hc.2,hc.1.1⟩
 | .times mn mx x,o,h,hc=>by
  simp only [consT,Bool.and_eq_true,decide_eq_true_eq] at hc;have h1:=one_times (h ((Tr.times mn mx x).root o) (by simp [nodes]));exact ⟨fine_of em x o (fun n hn=>h n (by simp [nodes,hn])) hc.2,h1.1,h1.2.1,h1.2.2,hc.1⟩
 | .grp m x,o,h,hc=>by
  simp only [consT] at hc;have h1:=one_grp (h ((Tr.grp m x).root o) (by simp [nodes]));exact ⟨fine_of em x o (fun n hn=>h n (by simp [nodes,hn])) hc,h1.1,h1.2⟩
 | .ref m,o,h,_=>one_ref (h _ (by simp [nodes,root]))
theorem cons_of (em:Bool):∀ t:Tr,t.Fine (em = true) -> consT em t = true
 | .e,h=>h
 | .set _,_ | .beg,_ | .fin,_ | .ref _,_=>rfl
 | .cat x y,h=>by
  simp only [consT,Bool.and_eq_true,decide_eq_true_eq];exact ⟨⟨h.2.2,cons_of em x h.1⟩,cons_of em y h.2.1⟩
 | .alt x y,h=>by
  simp only [consT,Bool.and_eq_true,decide_eq_true_eq];exact ⟨⟨h.2.2,cons_of em x h.1⟩,cons_of em y h.2.1⟩
 | .times _ _ x,h=>by
  simp only [consT,Bool.and_eq_true,decide_eq_true_eq];exact ⟨h.2.2.2.2,cons_of em x h.1⟩
 | .grp _ x,h=>cons_of em x h.1
theorem fine_nodes (em:Prop):∀ (t:Tr) (o:Nat),t.Fine em -> ∀ n ∈ t.nodes o,OneN n
 | t,o,h,n,hn=>by
  have hr:=fine_one h o
  match t with
  | .e | .set _ | .beg | .fin | .ref _=>obtain rfl:=List.mem_singleton.1 hn;exact hr
  | .cat x y | .alt x y =>
   simp only [nodes,List.mem_append,List.mem_singleton] at hn;rcases hn with (q | q) | rfl
   · exact fine_nodes em x o h.1 n q
   · exact fine_nodes em y _ h.2.1 n q
   · exact hr
  | .times _ _ x | .grp _ x =>
   simp only [nodes,List.mem_append,List.mem_singleton] at hn;rcases hn with q | rfl
   · exact fine_nodes em x o h.1 n q
   · exact hr
theorem may_one {l:List Nd} (h:¬ ∀ n ∈ l,OneN n):mayL l = false:=by
 unfold mayL;cases hp:patOf l with
 | none=>rfl
 | some t =>
  obtain ⟨h1,h2⟩:=patOf_some hp;exact absurd (fun n hn=>fine_nodes _ t 0 h2.1 n (by rw [<- h1];exact hn)) h
theorem may_first {l:List Nd} (hl:l.length <= 120) (h:firstF l 121 ((l.length:Int) - 1) ≠ 0):mayL l = false:=by
 unfold mayL;cases hp:patOf l with
 | none=>rfl
 | some t =>
  obtain ⟨h1,h2⟩:=patOf_some hp;exfalso;apply h;(have hs:l.length = t.size:=by rw [h1,nodes_len]);have hp:=size_pos t;have:=first_tree (l:=l) t 0 121 (by rw [h1];exact at_self t) (by omega);rw [show ((l.length:Int) - 1) = ((0 + t.size - 1:Nat):Int) by omega,this];rfl
theorem tree_of_first {l:List Nd} (hone:∀ n ∈ l,OneN n) (h:firstF l 121 ((l.length:Int) - 1) = 0):∃ t:Tr,l = t.nodes 0:=by
 obtain ⟨t,ht,hs⟩:=tree_first hone 121 ((l.length:Int) - 1) (by rw [h];exact Int.le_refl _);rw [h] at ht hs;refine ⟨t,List.ext_getElem? fun j=>?_⟩;(have hl:l.length = t.size:=by omega);rcases Nat.lt_or_ge j t.size with q | q
 · have:=ht j q;simpa using this
 · rw [List.getElem?_eq_none (by omega),List.getElem?_eq_none (by rw [nodes_len];exact q)]
theorem thr_may {t:Tr} (hone:∀ n ∈ t.nodes 0,OneN n) (hl:t.size <= 120) :
  (thrT (decide (t.size = 1)) t num0).ok = mayL (t.nodes 0) /\ (mayL (t.nodes 0) = true -> (thrT (decide (t.size = 1)) t num0).g = groupsL (t.nodes 0) /\ (thrT (decide (t.size = 1)) t num0).r = refsL (t.nodes 0)):=by
 have hp:=size_pos t;have he:((decide (t.size = 1)) = true) = (t.size <= 1):=by
  rw [decide_eq_true_eq];apply propext;omega
 rw [thr_num];(have hg0:(numT t num0).g = cnt t:=by rw [num_g];simp [num0]);(have hr0:(numT t num0).r = decide (0 < refsT t):=by rw [num_r];simp [num0]);have key:((numT t num0).ok && consT (decide (t.size = 1)) t) = mayL (t.nodes 0):=by
  unfold mayL;cases hpat:patOf (t.nodes 0) with
  | none =>
   have hn:=patOf_none hpat t rfl;cases hok:(numT t num0).ok with
   | false=>rfl
   | true =>
    cases hc:consT (decide (t.size = 1)) t with
    | false=>rfl
    | true =>
     exfalso;apply hn;have:=fine_of _ t 0 hone hc;rw [he] at this;exact ⟨this,hl,hok⟩
  | some u =>
   obtain ⟨h1,h2⟩:=patOf_some hpat;obtain rfl:=nodes_inj t u 0 h1;have hw:=h2.1;unfold Whole at hw;rw [<- he] at hw;rw [h2.2.2,cons_of _ t hw];rfl
 refine ⟨key,fun hm=>?_⟩;have hg:∃ u,patOf (t.nodes 0) = some u:=by
  unfold mayL at hm;exact Option.isSome_iff_exists.1 hm
 obtain ⟨u,hu⟩:=hg;obtain ⟨h1,_⟩:=patOf_some hu;obtain rfl:=nodes_inj t u 0 h1;unfold groupsL refsL;rw [hu];exact ⟨hg0,hr0⟩
end Go.Proofs.YtinallojhkaogaaGreatDoor.Rx
