/- The texts M6G M6H. -/
import Derived.Test.YtinallojhkaogaaGreatDoorHk21
import Derived.Test.YtinallojhkaogaaGreatDoorHk30
set_option linter.unusedVariables false
set_option linter.unusedSimpArgs false
set_option maxHeartbeats 6400000
set_option maxRecDepth 100000
namespace Go.Proofs.YtinallojhkaogaaGreatDoor.Mt
open Go.RowKit Go.Shelf
open Rx
open Rx.Tr
open Go.Proofs.YtinallojhkaogaaGreatDoor.Fn
open St (Wf word mem SV SV_eq)
def LongT (w:World) (tv:Value) (N:Nat) (F:Nat -> Option Caps):Prop:=∀ (W:World) (i:Nat),Below w.heap.size w W -> i <= N ->
 Calls Tryz.prog 50 #[tv,E (i:Nat)] W fun e w'=>e = .returned (ansC (F i)) /\ Below W.heap.size W w'
theorem LongT.below {w w1:World} {tv:Value} {N:Nat} {F:Nat -> Option Caps} (h:LongT w tv N F) (hb:Below w.heap.size w w1):LongT w1 tv N F:=fun W i hW hi=>h W i (hb.trans (hW.mono hb.size)) hi
def TForm (tv:Value):Prop:=∃ ao n c y go gn gc,tv = .agg #[.slice ao n c,S y,.slice go gn gc]
theorem rmake_any (l:List Nd) (hw:∀ n ∈ l,Wf n.s) (hTo:ToldOk) (T:List UInt8) (hT:T.length <= 100) (ao:Option Addr) (c:Nat) (w:World) (h:Ns w (.slice ao l.length c) l) :
  Calls Tryz.prog 42 #[.slice ao l.length c,S T] w fun e w'=>∃ tv,e = .returned tv /\ TForm tv /\ LongT w' tv T.length (FL l T) /\ Below w.heap.size w w':=by
 refine (rmakeW_any l hw hTo T hT ao c w h).mono ?_;rintro e w' ⟨a2,n2,c2,y,go,gn,gc,rfl,hy,hW,hb⟩;refine ⟨_,rfl,⟨_,_,_,_,_,_,_,rfl⟩,fun W i hb2 hi=>?_,hb⟩;rw [show FL l T i = longL l T (i:Nat) from ?_]
 · exact rlongT l T hT a2 n2 c2 y go gn gc hy W (hW.below hb2) (i:Nat)
 ·
  unfold FL;cases hp:patOf l with
  | none=>rw [longL_none hp]
  | some t =>
   obtain ⟨rfl,hg⟩:=patOf_some hp;rw [longL_some hg T hi]
theorem rfirst_from (ao:Option Addr) (n c:Nat) (y:List UInt8) (go:Option Addr) (gn gc:Nat) (T:List UInt8) (hT:T.length <= 100000) (F:Nat -> Option Caps) (w:World) (hlo:LongT w (.agg #[.slice ao n c,S y,.slice go gn gc]) T.length F) (at0:Int) (s:Nat) (hs:(s = 0 /\ at0 < 0) \/ at0 = (s:Nat)) (hs2:at0 <= 9223372036854775807) (R:Option Caps) (hR:R = firstF F T.length s) :
  Calls Tryz.prog 43 #[(.agg #[.slice ao n c,S y,.slice go gn gc]),S T,E at0] w fun e w'=>e = .returned (ansC R) /\ Below w.heap.size w w':=by
 have HT0:=Hd (tb_start w (.slice ao n c) (.slice go gn gc) y);have HLO:=Hd hlo;have HNA:=Hd (fun W=>rnone_any W);have HRR:=Hd hR;have HT:=Hd hT;(have hsz:(ByteArray.mk T.toArray).size = T.length:=by simp [ByteArray.size]);have hmx:(if (0:Int) <= at0 then at0 else 0) = (s:Int):=by
  rcases hs with ⟨h1,h2⟩ | h
  · rw [if_neg (by omega)];omega
  · rw [if_pos (by omega),h]
 (have hmx2:max at0 0 = (s:Int):=by omega);have HS:=Hd (show (s:Int) <= 9223372036854775807 from by omega);clear hlo hR hT hs hs2;go_enter Tryz.func43,Tryz.ntmps43;rw [show Code.region 1 = Fz 1 from rfl];go_wp2;refine at_world (p:=fun V=>TB w V (.slice ao n c) (.slice go gn gc) y) HT0.out (fun V hV=>?_);have HV:=Hd hV;clear hV HT0;rw [show Fz 1 = Code.region 1 from rfl];go_wp2;go_loopg [8] (T.length + 1 - s) (fun m kv wr=>∃ k:Nat,m = T.length + 1 - k /\ (k:Int) <= 9223372036854775807 /\ kv = .int .i64 (k:Nat) /\ Hid (R = firstF F T.length k) /\ Hid (TB w wr (.slice ao n c) (.slice go gn gc) y));(case atStart=>exact ⟨s,rfl,HS.out,rfl,HRR,HV⟩);case round =>
  clear HV HRR;obtain ⟨k,hm,hk,rfl,HR,HB⟩:=hrel;subst hm;by_cases hlt:k <= T.length
  ·
   (have hle:(k:Int) <= (T.length:Int):=by omega);(have hwk:IntKind.i64.wrap ((k:Int) + 1) = (k:Int) + 1:=by rw [IntKind.wrap_i64];have:=HT.out;omega);have HK:=Hd hlt;have hst:=first_step F hlt;(have hloq:=fun (W:World) (hb:Below w.heap.size w W)=>HLO.out W k hb hlt);obtain ⟨x0,x1,x2⟩:=tw_cells (show TW w (.slice ao n c) (.slice go gn gc) y wr from HB.out.bx);clear hlt hk;cases hF:F k with
   | none =>
    rw [hF] at hst hloq;have HST:=Hd hst;have HLQ:=Hd hloq;clear hst hloq;go_wp2_with (first
     | (go_at_call 50;refine (HLQ.out _ HB.out.bel).mono ?_;rintro e w3 ⟨he,hb⟩;rw [show ansC none = .tuple #[CV nones,.bool false] from rfl] at he;subst he;have HB3:=Hd (HB.out.below hb);clear hb HB)
     | (refine st6 9 23 nones (heap_alloc_new _ _) ?_;rw [box_laid6];have HB4:=Hd (HB3.out.box nones).1;clear HB3;generalize World.alloc _ _ = W4 at HB4 ⊢))
    go_roundg (T.length - k);(case measure=>have:=HK.out;omega);case rel=>exact ⟨k + 1,by omega,by have:=HK.out;have:=HT.out;omega,by go_num,Hd (by rw [HR.out,HST.out]),HB4⟩
   | some a1 =>
    rw [hF] at hst hloq;have HST:=Hd hst;have HLQ:=Hd hloq;have HR0:=HR;clear hst hloq HR;go_wp2_with (first
     | (go_at_call 50;refine (HLQ.out _ HB.out.bel).mono ?_;rintro e w3 ⟨he,hb⟩;rw [show ansC (some a1) = .tuple #[CV a1,.bool true] from rfl] at he;subst he;have HB3:=Hd (HB.out.below hb);clear hb HB)
     | (refine st6 9 23 a1 (heap_alloc_new _ _) ?_;rw [box_laid6];have HB4:=Hd (HB3.out.box a1).1;have HX4:=Hd (HB3.out.box a1).2;clear HB3;generalize World.alloc _ _ = W4 at HB4 HX4 ⊢)
     | (refine ld6 9 HX4.out ?_)
     | (refine st6 6 26 a1 HB4.out.rs ?_;obtain ⟨r1,r2⟩:=HB4.out.ret a1;have HR:=Hd (An r1 r2);clear r1 r2 HB4;generalize World.setRow _ _ _ = W9 at HR ⊢))
    refine bodyPost_ret (res_caps6 rfl rfl HR.out.1 rfl) rfl ?_;refine ⟨?_,HR.out.2⟩;rw [HR0.out,HST.out];rfl
  ·
   (have hle:¬ (k:Int) <= (T.length:Int):=by omega);have HEND:=Hd (first_end F (show T.length < k from by omega));have HR0:=HR;clear hlt hk HR;go_wp2_with (first
    | (go_at_call 27;refine (HNA.out _).mono ?_;rintro e w8 ⟨rfl,hb⟩;have HE:=Hd (HB.out.below hb);clear hb)
    | (refine st6 6 27 nones HE.out.rs ?_;obtain ⟨r1,r2⟩:=HE.out.ret nones;have HR:=Hd (An r1 r2);clear r1 r2 HE;generalize World.setRow _ _ _ = W9 at HR ⊢))
   refine bodyPost_ret (res_caps6 rfl rfl HR.out.1 rfl) rfl ?_;refine ⟨?_,HR.out.2⟩;rw [HR0.out,HEND.out];rfl
open Sp Fl in
theorem rfrom_cap {N:Nat} (hN:N <= 999999999) {i j:Nat} (h:CapOk N (some (i,j))) (w:World):Calls Tryz.prog 46 #[capV (some (i,j))] w fun e w'=>e = .returned (E (i:Nat)) /\ w = w':=by
 have:=Sp.rfrom_any (fi i) (fi j) w;rw [(fi_in (inB_of (by omega) (by have:=h.1;omega) (by have:=h.2;omega))).2.1] at this;exact this
open Sp Fl in
theorem rto_cap {N:Nat} (hN:N <= 999999999) {i j:Nat} (h:CapOk N (some (i,j))) (w:World):Calls Tryz.prog 44 #[capV (some (i,j))] w fun e w'=>e = .returned (E (j:Nat)) /\ w = w':=by
 have:=Sp.rto_any (fi i) (fi j) w;rw [(fi_in (inB_of (by omega) (by have:=h.1;omega) (by have:=h.2;omega))).2.2.1] at this;exact this
open Sp Fl in
theorem rlen_cap {N:Nat} (hN:N <= 999999999) {i j:Nat} (h:CapOk N (some (i,j))) (w:World):Calls Tryz.prog 45 #[capV (some (i,j))] w fun e w'=>e = .returned (E ((j - i:Nat):Int)) /\ w = w':=by
 have:=Sp.rlen_any (fi i) (fi j) w;obtain ⟨_,e1,e2,_⟩:=fi_in (inB_of (a:=(i:Int)) (b:=(j:Int)) (by omega) (by have:=h.1;omega) (by have:=h.2;omega));rw [e1,e2,show (j:Int) - (i:Int) = ((j - i:Nat):Int) from by have:=h.1;omega] at this;exact this
theorem cap_at {N:Nat} {c:Caps} (h:CapsOk N c) {a b:Nat} (hg:gr c 0 = some (a,b)):CapOk N (some (a,b)):=by rw [<- hg];exact h.at 0
theorem infoC6:(Tryz.prog.info? 33).map (fun i=>(i.zero,i.size,i.bytes)) = some (some (.agg CZ),10,160):=by kernel_rfl
theorem news_caps6 (W:World) (x:Caps) (B:Nat) (hB:B = W.heap.size):∀ j u,(CC x).toList[j]? = some u -> (W.alloc (.cells (CC x) 33)).cell? ((⟨B,0,none⟩:Addr).add j) = some u:=by
 subst hB;intro j u hj;rw [Addr.add_lit,Lib.cell_of_heap (heap_alloc_new _ _),Nat.zero_add];simpa using hj
theorem own_other {w w':World} {B e n z:Nat} {v:Value} {xs:List Value} (ho:w.ownsRow B e z v n xs) (hk:∀ g,v.ownBlock = some g -> w'.heap[g]? = w.heap[g]?):w'.ownsRow B e z v n xs:=by
 refine ⟨ho.1,?_⟩;rcases ho.2 with hv | ⟨g,cap,cur,hv,h1,h2,h3⟩
 · exact Or.inl hv
 · exact Or.inr ⟨g,cap,cur,hv,h1,(hk g (by rw [hv];rfl)).trans h2,h3⟩
structure AR (w1:World) (tv:Array Value) (b5 b7:Nat) (xs:List Caps) (v:Value) (k:Nat) (c:Caps) (wr:World):Prop where
 t5:wr.heap[b5]? = some (.cells tv 83 (0,0))
 t7:wr.heap[b7]? = some (.cells (CC c) 33 (0,0))
 own:wr.ownsRow w1.heap.size 33 10 v k (flC xs)
 ne:∀ g,v.ownBlock = some g -> g ≠ b5 /\ g ≠ b7
 bel:Below w1.heap.size w1 wr
 n5:w1.heap.size <= b5
 n7:w1.heap.size <= b7
 n57:b5 ≠ b7
section
variable {w1 wr w':World} {tv:Array Value} {b5 b7 k:Nat} {xs:List Caps} {v v':Value} {c:Caps}
theorem isSome_at {L:List Caps} {k:Nat} {R:Option Caps} (h:L[k + 1]? = R):R.isSome = decide (k + 1 < L.length):=by
 cases R with
 | none=>rw [decide_eq_false (by have:=List.getElem?_eq_none_iff.1 h;omega)];rfl
 | some c=>rw [decide_eq_true (List.getElem?_eq_some_iff.1 h).1];rfl
theorem some_at {L:List Caps} {k:Nat} {R:Option Caps} (h:L[k + 1]? = R):k + 1 < L.length -> L[k + 1]? = some (R.getD nones):=fun q=>by
 cases R with
 | none=>have:=List.getElem?_eq_none_iff.1 h;omega
 | some c=>exact h
theorem AR.below (h:AR w1 tv b5 b7 xs v k c wr) (hb:Below wr.heap.size wr w'):AR w1 tv b5 b7 xs v k c w' :=
 ⟨(hb.block _ (lt_heap' h.t5)).trans h.t5,(hb.block _ (lt_heap' h.t7)).trans h.t7,own_below h.own hb,h.ne,h.bel.trans (hb.mono h.bel.size),h.n5,h.n7,h.n57⟩
theorem AR.put (h:AR w1 tv b5 b7 xs v k c wr) (a:Caps):AR w1 tv b5 b7 xs v k a (wr.setRow b7 (CC a)) :=
 ⟨(setRow_other _ _ _ _ h.n57).trans h.t5,setRow_heap _ _ _ _ _ _ h.t7,own_other h.own (fun g hg=>setRow_other _ _ _ _ (h.ne g hg).2),h.ne,below_setRow h.bel h.n7 _,h.n5,h.n7,h.n57⟩
theorem AR.grow (h:AR w1 tv b5 b7 xs v k c wr) {tmp:Obj} {ys:List Caps} {n:Nat} (hown:w'.ownsRow w1.heap.size 33 10 v' n (flC ys)) (hgrow:(wr.alloc tmp).grownBy w' v.ownBlock) (hat:v'.ownBlock = v.ownBlock \/ v'.ownBlock = some (wr.alloc tmp).heap.size):AR w1 tv b5 b7 ys v' n c w':=by
 have l5:=lt_heap' h.t5;have l7:=lt_heap' h.t7;refine ⟨((hgrow.block b5 (by simp;omega) (fun e=>(h.ne b5 e.symm).1 rfl)).trans (Below.heap_alloc _ _ _ l5)).trans h.t5,((hgrow.block b7 (by simp;omega) (fun e=>(h.ne b7 e.symm).2 rfl)).trans (Below.heap_alloc _ _ _ l7)).trans h.t7,hown,fun g hg=>?_,(h.bel.alloc h.bel.size _).grown hgrow (by have:=h.bel.size;simp;omega) (fun j hj=>own_ge h.own j hj),h.n5,h.n7,h.n57⟩;rcases hat with q | q
 · exact h.ne g (by rw [<- q];exact hg)
 · rw [hg] at q;have e:=Option.some.inj q;rw [World.size_alloc] at e;exact ⟨by omega,by omega⟩
theorem AR.cap (h:AR w1 tv b5 b7 xs v k c wr) {a b:Nat} (hg:gr c 0 = some (a,b)):wr.cell? ⟨b7,0,none⟩ = some (capV (some (a,b))):=by
 rw [cap_cell6 h.t7 (by decide),hg]
theorem AR.tb {lv gv:Value} {y:List UInt8} (h:AR w1 #[lv,S y,gv] b5 b7 xs v k c wr):wr.cell? ⟨b5,0,none⟩ = some lv /\ wr.cell? ⟨b5,1,none⟩ = some (S y) /\ wr.cell? ⟨b5,2,none⟩ = some gv :=
 ⟨(Lib.cell_of_heap h.t5 0).trans rfl,(Lib.cell_of_heap h.t5 1).trans rfl,(Lib.cell_of_heap h.t5 2).trans rfl⟩
end
theorem rAll_any (l:List Nd) (hw:∀ n ∈ l,Wf n.s) (hTo:ToldOk) (T:List UInt8) (hT:T.length <= 100) (ao:Option Addr) (c:Nat) (w:World) (h:Ns w (.slice ao l.length c) l) (L:List Caps) (hL:L = allF (FL l T) T.length) :
  Calls Tryz.prog 11 #[.slice ao l.length c,S T] w fun e w'=>∃ v B,e = .returned v /\ w'.ownsRow B 33 10 v L.length (flC L) /\ Below w.heap.size w w':=by
 obtain ⟨i0,hi,hz0,hz1,hz2⟩:=info_parts infoC6;have HMK:=Hd (rmake_any l hw hTo T hT ao c w h);have HT:=Hd hT;obtain ⟨F,hF⟩:∃ F,F = FL l T:=⟨_,rfl⟩;(have hFO:FOk T.length F:=by rw [hF];exact fl_ok l T);rw [<- hF] at HMK hL;have HL0:=Hd (show L[0]? = firstF F T.length 0 from by rw [hL];exact all_head hFO);have HLN:=Hd (fun (k:Nat) (c:Caps) (hk:L[k]? = some c)=>show L[k + 1]? = headF F T.length (to0 c + 1) (to0 c) from by rw [hL] at hk ⊢;exact all_next hFO hk);have HAT:=Hd (fun (k:Nat) (c:Caps) (hk:L[k]? = some c)=>show CapsOk T.length c /\ gr c 0 = some (from0 c,to0 c) /\ from0 c <= to0 c /\ to0 c <= T.length from all_at hFO (by rw [<- hL];exact hk));have HFO:=Hd hFO;have HLL:=Hd (show L.length <= 2 * (T.length + 1) + 1 from by rw [hL];exact fin_len F T.length _ _ _);clear hw hTo hT h hF hFO hL;generalize l.length = n at *;go_enter Tryz.func11,Tryz.ntmps11;rw [show Code.region 3 = Fz 3 from rfl];go_wp2_with (go_at_call 42;refine HMK.out.mono ?_;rintro e w1 ⟨tv,rfl,⟨ao2,n2,c2,y,go,gn,gc,rfl⟩,hlo,hb⟩;have HLO:=Hd hlo;have HB:=Hd hb;clear hlo hb HMK);have HS0:=Hd (show ((w1.alloc (.cells #[.slice ao2 n2 c2,S y,.slice go gn gc] 83)).alloc (.cells #[] 33)).heap[w1.heap.size]? = some (.cells #[.slice ao2 n2 c2,S y,.slice go gn gc] 83 (0,0)) /\ ((w1.alloc (.cells #[.slice ao2 n2 c2,S y,.slice go gn gc] 83)).alloc (.cells #[] 33)).ownsRow w1.heap.size 33 10 (.slice (some ⟨w1.heap.size + 1,0,none⟩) 0 0) 0 [] /\ Below w1.heap.size w1 ((w1.alloc (.cells #[.slice ao2 n2 c2,S y,.slice go gn gc] 83)).alloc (.cells #[] 33)) /\ ((w1.alloc (.cells #[.slice ao2 n2 c2,S y,.slice go gn gc] 83)).alloc (.cells #[] 33)).heap.size = w1.heap.size + 2 from by
  refine ⟨heap_alloc2_old _ _ _,?_,((Below.refl _ _).alloc (Nat.le_refl _) _).alloc (by simp) _,by simp⟩;have:=World.ownsRow_made (base:=w1.heap.size) (e:=33) (size:=10) (w1.alloc (.cells #[.slice ao2 n2 c2,S y,.slice go gn gc] 83)) #[] 0 (by simp) (by decide) rfl;simpa using this)
 refine at_world (p:=fun V=>V.heap[w1.heap.size]? = some (.cells #[.slice ao2 n2 c2,S y,.slice go gn gc] 83 (0,0)) /\ V.ownsRow w1.heap.size 33 10 (.slice (some ⟨w1.heap.size + 1,0,none⟩) 0 0) 0 [] /\ Below w1.heap.size w1 V /\ V.heap.size = w1.heap.size + 2) HS0.out (fun V hV=>?_);have HV:=Hd hV;clear hV HS0;rw [show Fz 3 = Code.region 3 from rfl];obtain ⟨R0,hR0⟩:∃ R0,R0 = firstF F T.length 0:=⟨_,rfl⟩;have HR0:=Hd hR0;have x0:=(Lib.cell_of_heap HV.out.1 0).trans rfl;have x1:=(Lib.cell_of_heap HV.out.1 1).trans rfl;have x2:=(Lib.cell_of_heap HV.out.1 2).trans rfl;clear hR0;go_wp2_with (first
  | (go_at_call 43;refine (rfirst_from ao2 n2 c2 y go gn gc T (by have:=HT.out;omega) F _ (HLO.out.below HV.out.2.2.1) 0 0 (Or.inr rfl) (by decide) R0 HR0.out).mono ?_;rintro e w2 ⟨he,hb⟩;obtain rfl:e = .returned (.tuple #[CV (R0.getD nones),.bool R0.isSome]):=he;have HB2:=Hd hb;clear hb)
  | (refine st6 7 18 (R0.getD nones) (heap_alloc_new _ _) ?_;rw [box_laid6]))
 have HA0:=Hd (show AR w1 #[.slice ao2 n2 c2,S y,.slice go gn gc] w1.heap.size w2.heap.size [] (.slice (some ⟨w1.heap.size + 1,0,none⟩) 0 0) 0 (R0.getD nones) (w2.alloc (.cells (CC (R0.getD nones)) 33)) from by
  have h2:=HB2.out.alloc HB2.out.size (.cells (CC (R0.getD nones)) 33);have hs:=HB2.out.size;rw [HV.out.2.2.2] at hs;refine ⟨(h2.block _ (by rw [HV.out.2.2.2];omega)).trans HV.out.1,heap_alloc_new _ _,own_below HV.out.2.1 h2,fun g hg=>?_,HV.out.2.2.1.trans (h2.mono HV.out.2.2.1.size),Nat.le_refl _,by omega,by omega⟩;simp only [Value.ownBlock,Option.some.injEq] at hg;omega)
 have HS:=Hd (show R0.isSome = decide (0 < L.length) /\ (0 < L.length -> L[0]? = some (R0.getD nones)) from by
  have h1:=HL0.out;rw [<- HR0.out] at h1;cases R0 with
  | none=>rw [List.getElem?_eq_none_iff] at h1;exact ⟨by rw [decide_eq_false (by omega)];rfl,fun h=>by omega⟩
  | some c=>exact ⟨by rw [decide_eq_true (List.getElem?_eq_some_iff.1 h1).1];rfl,fun _=>h1⟩)
 clear HB2 HV HR0 x0 x1 x2;generalize hb7:w2.heap.size = b7 at HA0 ⊢;generalize hb5:w1.heap.size = b5 at HA0 ⊢;have HB5:=Hd hb5;clear hb7 hb5;generalize World.alloc _ _ = W3 at HA0 ⊢;rw [HS.out.1];go_loopg [6,8] (L.length) (fun m v is wr=>∃ (k:Nat) (c:Caps),m = L.length - k /\ is = .bool (decide (k < L.length)) /\ k <= L.length /\ Hid (k < L.length -> L[k]? = some c) /\ Hid (AR w1 #[.slice ao2 n2 c2,S y,.slice go gn gc] b5 b7 (L.take k) v k c wr));(case atStart=>exact ⟨0,R0.getD nones,rfl,rfl,Nat.zero_le _,Hd HS.out.2,by rw [List.take_zero];exact HA0⟩);case round =>
  clear HA0 HS;obtain ⟨k,c,hm,rfl,hk,HC,HA⟩:=hrel;subst hm;by_cases hlt:k < L.length
  ·
   have hd:decide (k < L.length) = true:=decide_eq_true hlt;rw [hd];obtain ⟨t1,t2,t3,t4⟩:=HAT.out k c (HC.out hlt);have HCT:=Hd (An t1 (An t2 (An t3 t4)));have HNX:=Hd (HLN.out k c (HC.out hlt));have HTO:=Hd (fun W=>rto_cap (by have:=HT.out;omega) (cap_at t1 t2) W);have HTK:=Hd (show flC (L.take (k + 1)) = flC (L.take k) ++ (CC c).toList from by
    obtain ⟨h1,h2⟩:=List.getElem?_eq_some_iff.1 (HC.out hlt);rw [List.take_succ_eq_append_getElem h1,flC_append,h2,flC_one])
   have HK:=Hd (show k < L.length /\ k <= 1000 from ⟨hlt,by have:=HLL.out;have:=HT.out;omega⟩);have HOA:=Hd (HA.out.own.alloc (.cells (CC c) 33));obtain ⟨R1,hR1⟩:∃ R1,R1 = firstF F T.length (to0 c):=⟨_,rfl⟩;have HR1:=Hd hR1;clear hd hlt hk t1 t2 t3 t4 HC hR1;cases hc1:R1 with
   | none =>
    rw [hc1] at HR1;have HEND:=Hd (show k + 1 = L.length from by
     have h1:=HNX.out;unfold headF at h1;rw [<- HR1.out] at h1;have:=List.getElem?_eq_none_iff.1 h1;have:=HK.out;omega)
    have x7:=HA.out.cap HCT.out.2.1;go_wp2_with (first
     | (refine ld6 7 HA.out.t7 ?_)
     | (at_builtin;go_loud (refine wpList_append_own_at _ rfl _ _ 27 rfl w1.heap.size 33 i0 _ 10 160 Tryz.underlying27 hi hz0 hz1 hz2 rfl (by decide) _ k _ rfl HOA.out ⟨_,0,none⟩ 1 1 (CC c).toList rfl rfl (news_caps6 wr c _ rfl) (ones_caps c) (by unfold maxLen;have:=HK.out;omega) (by have:=HK.out;omega) (by have:=HA.out.bel.size;simp;omega) ?_);intro v2 w4 hown hgrow _ hat;rw [<- HTK.out] at hown;have HA2:=Hd (HA.out.grow hown hgrow hat);clear hown hgrow hat HA HOA x7;have x7:=HA2.out.cap HCT.out.2.1;obtain ⟨x0,x1,x2⟩:=HA2.out.tb)
     | (go_at_call 44;refine (HTO.out _).mono ?_;rintro e w5 ⟨rfl,rfl⟩)
     | (go_at_call 43;refine (rfirst_from ao2 n2 c2 y go gn gc T (by have:=HT.out;omega) F _ (HLO.out.below HA2.out.bel) ((to0 c:Nat):Int) (to0 c) (Or.inr rfl) (by have:=HT.out;have:=HCT.out;omega) (none) HR1.out).mono ?_;rintro e w6 ⟨he,hb⟩;obtain rfl:e = .returned (.tuple #[CV nones,.bool false]):=he;have HA3:=Hd (HA2.out.below hb);clear hb HA2 x7 x0 x1 x2)
     | (refine st6 7 33 nones HA3.out.t7 ?_;have HA4:=Hd (HA3.out.put nones);clear HA3;generalize World.setRow _ _ _ = W6 at HA4 ⊢))
    go_roundg (L.length - (k + 1));(case measure=>have:=HK.out;omega);case rel=>exact ⟨k + 1,nones,rfl,by rw [decide_eq_false (by have:=HEND.out;omega)],by have:=HEND.out;omega,Hd (fun h=>by have:=HEND.out;omega),HA4⟩
   | some d =>
    rw [hc1] at HR1;obtain ⟨_,_,_,u1,u2,u3,u4⟩:=first_at HFO.out HR1.out.symm;have HFR:=Hd (fun W=>rfrom_cap (by have:=HT.out;omega) (cap_at u1 u2) W);have HLE:=Hd (fun W=>rlen_cap (by have:=HT.out;omega) (cap_at u1 u2) W);have HDT:=Hd (An u1 (An u2 (An u3 u4)));clear u1 u2 u3 u4;by_cases hs:to0 d = from0 d /\ from0 d + 1 = to0 c + 1
    ·
     (have hz:((to0 d - from0 d:Nat):Int) = 0:=by omega);(have hq:(((from0 d:Nat):Int) == ((to0 c:Nat):Int)) = true:=by rw [beq_iff_eq];omega);(have hwt:IntKind.i64.wrap (((to0 c:Nat):Int) + 1) = ((to0 c + 1:Nat):Int):=by rw [IntKind.wrap_i64];have:=HCT.out;have:=HT.out;omega);obtain ⟨R2,hR2⟩:∃ R2,R2 = firstF F T.length (to0 c + 1):=⟨_,rfl⟩;have HR2:=Hd hR2;have HN2:=Hd (show L[k + 1]? = R2 from by rw [HNX.out,hR2];unfold headF;rw [<- HR1.out];dsimp only;rw [if_pos hs]);clear hs hR2;rw [hz] at HLE;have x7:=HA.out.cap HCT.out.2.1;go_wp2_with (first
      | (refine ld6 7 HA.out.t7 ?_)
      | (at_builtin;go_loud (refine wpList_append_own_at _ rfl _ _ 27 rfl w1.heap.size 33 i0 _ 10 160 Tryz.underlying27 hi hz0 hz1 hz2 rfl (by decide) _ k _ rfl HOA.out ⟨_,0,none⟩ 1 1 (CC c).toList rfl rfl (news_caps6 wr c _ rfl) (ones_caps c) (by unfold maxLen;have:=HK.out;omega) (by have:=HK.out;omega) (by have:=HA.out.bel.size;simp;omega) ?_);intro v2 w4 hown hgrow _ hat;rw [<- HTK.out] at hown;have HA2:=Hd (HA.out.grow hown hgrow hat);clear hown hgrow hat HA HOA x7;have x7:=HA2.out.cap HCT.out.2.1;obtain ⟨x0,x1,x2⟩:=HA2.out.tb)
      | (go_at_call 44;refine (HTO.out _).mono ?_;rintro e w5 ⟨rfl,rfl⟩)
      | (go_at_call 43;refine (rfirst_from ao2 n2 c2 y go gn gc T (by have:=HT.out;omega) F _ (HLO.out.below HA2.out.bel) ((to0 c:Nat):Int) (to0 c) (Or.inr rfl) (by have:=HT.out;have:=HCT.out;omega) (some d) HR1.out).mono ?_;rintro e w6 ⟨he,hb⟩;obtain rfl:e = .returned (.tuple #[CV d,.bool true]):=he;have HA3:=Hd (HA2.out.below hb);clear hb HA2 x7 x0 x1 x2)
      | (refine st6 7 33 d HA3.out.t7 ?_;have HA4:=Hd (HA3.out.put d);clear HA3;generalize World.setRow _ _ _ = W6 at HA4 ⊢;have x7:=HA4.out.cap HDT.out.2.1;obtain ⟨x0,x1,x2⟩:=HA4.out.tb))
     go_wp2_with (first
      | (go_at_call 45;refine (HLE.out _).mono ?_;rintro e w8 ⟨rfl,rfl⟩)
      | (go_at_call 46;refine (HFR.out _).mono ?_;rintro e w8 ⟨rfl,rfl⟩)
      | (go_at_call 43;refine (rfirst_from ao2 n2 c2 y go gn gc T (by have:=HT.out;omega) F _ (HLO.out.below HA4.out.bel) ((to0 c + 1:Nat):Int) (to0 c + 1) (Or.inr rfl) (by have:=HT.out;have:=HCT.out;omega) R2 HR2.out).mono ?_;rintro e w7 ⟨he,hb⟩;obtain rfl:e = .returned (.tuple #[CV (R2.getD nones),.bool R2.isSome]):=he;have HA5:=Hd (HA4.out.below hb);clear hb HA4 x7 x0 x1 x2)
      | (refine st6 7 55 (R2.getD nones) HA5.out.t7 ?_;have HA6:=Hd (HA5.out.put (R2.getD nones));clear HA5;generalize World.setRow _ _ _ = W7 at HA6 ⊢))
     go_roundg (L.length - (k + 1));(case measure=>have:=HK.out;omega);case rel=>exact ⟨k + 1,R2.getD nones,rfl,by congr 1;exact isSome_at HN2.out,by have:=HK.out;omega,Hd (some_at HN2.out),HA6⟩
    ·
     have HN2:=Hd (show L[k + 1]? = some d from by rw [HNX.out];unfold headF;rw [<- HR1.out];dsimp only;rw [if_neg hs]);by_cases hz:to0 d = from0 d
     ·
      (have hd0:((to0 d - from0 d:Nat):Int) = 0:=by omega);(have hq:(((from0 d:Nat):Int) == ((to0 c:Nat):Int)) = false:=by rw [beq_eq_false_iff_ne];omega);clear hs hz;rw [hd0] at HLE;have x7:=HA.out.cap HCT.out.2.1;go_wp2_with (first
       | (refine ld6 7 HA.out.t7 ?_)
       | (at_builtin;go_loud (refine wpList_append_own_at _ rfl _ _ 27 rfl w1.heap.size 33 i0 _ 10 160 Tryz.underlying27 hi hz0 hz1 hz2 rfl (by decide) _ k _ rfl HOA.out ⟨_,0,none⟩ 1 1 (CC c).toList rfl rfl (news_caps6 wr c _ rfl) (ones_caps c) (by unfold maxLen;have:=HK.out;omega) (by have:=HK.out;omega) (by have:=HA.out.bel.size;simp;omega) ?_);intro v2 w4 hown hgrow _ hat;rw [<- HTK.out] at hown;have HA2:=Hd (HA.out.grow hown hgrow hat);clear hown hgrow hat HA HOA x7;have x7:=HA2.out.cap HCT.out.2.1;obtain ⟨x0,x1,x2⟩:=HA2.out.tb)
       | (go_at_call 44;refine (HTO.out _).mono ?_;rintro e w5 ⟨rfl,rfl⟩)
       | (go_at_call 43;refine (rfirst_from ao2 n2 c2 y go gn gc T (by have:=HT.out;omega) F _ (HLO.out.below HA2.out.bel) ((to0 c:Nat):Int) (to0 c) (Or.inr rfl) (by have:=HT.out;have:=HCT.out;omega) (some d) HR1.out).mono ?_;rintro e w6 ⟨he,hb⟩;obtain rfl:e = .returned (.tuple #[CV d,.bool true]):=he;have HA3:=Hd (HA2.out.below hb);clear hb HA2 x7 x0 x1 x2)
       | (refine st6 7 33 d HA3.out.t7 ?_;have HA4:=Hd (HA3.out.put d);clear HA3;generalize World.setRow _ _ _ = W6 at HA4 ⊢;have x7:=HA4.out.cap HDT.out.2.1;obtain ⟨x0,x1,x2⟩:=HA4.out.tb))
      go_wp2_with (first
       | (go_at_call 45;refine (HLE.out _).mono ?_;rintro e w8 ⟨rfl,rfl⟩)
       | (go_at_call 46;refine (HFR.out _).mono ?_;rintro e w8 ⟨rfl,rfl⟩))
      go_roundg (L.length - (k + 1));(case measure=>have:=HK.out;omega);case rel=>exact ⟨k + 1,d,rfl,by congr 1;exact isSome_at (R:=some d) HN2.out,by have:=HK.out;omega,Hd (fun _=>HN2.out),HA4⟩
     ·
      (have hd0:(((to0 d - from0 d:Nat):Int) == 0) = false:=by rw [beq_eq_false_iff_ne];have:=HDT.out;omega);clear hs hz;have x7:=HA.out.cap HCT.out.2.1;go_wp2_with (first
       | (refine ld6 7 HA.out.t7 ?_)
       | (at_builtin;go_loud (refine wpList_append_own_at _ rfl _ _ 27 rfl w1.heap.size 33 i0 _ 10 160 Tryz.underlying27 hi hz0 hz1 hz2 rfl (by decide) _ k _ rfl HOA.out ⟨_,0,none⟩ 1 1 (CC c).toList rfl rfl (news_caps6 wr c _ rfl) (ones_caps c) (by unfold maxLen;have:=HK.out;omega) (by have:=HK.out;omega) (by have:=HA.out.bel.size;simp;omega) ?_);intro v2 w4 hown hgrow _ hat;rw [<- HTK.out] at hown;have HA2:=Hd (HA.out.grow hown hgrow hat);clear hown hgrow hat HA HOA x7;have x7:=HA2.out.cap HCT.out.2.1;obtain ⟨x0,x1,x2⟩:=HA2.out.tb)
       | (go_at_call 44;refine (HTO.out _).mono ?_;rintro e w5 ⟨rfl,rfl⟩)
       | (go_at_call 43;refine (rfirst_from ao2 n2 c2 y go gn gc T (by have:=HT.out;omega) F _ (HLO.out.below HA2.out.bel) ((to0 c:Nat):Int) (to0 c) (Or.inr rfl) (by have:=HT.out;have:=HCT.out;omega) (some d) HR1.out).mono ?_;rintro e w6 ⟨he,hb⟩;obtain rfl:e = .returned (.tuple #[CV d,.bool true]):=he;have HA3:=Hd (HA2.out.below hb);clear hb HA2 x7 x0 x1 x2)
       | (refine st6 7 33 d HA3.out.t7 ?_;have HA4:=Hd (HA3.out.put d);clear HA3;generalize World.setRow _ _ _ = W6 at HA4 ⊢;have x7:=HA4.out.cap HDT.out.2.1;obtain ⟨x0,x1,x2⟩:=HA4.out.tb))
      go_wp2_with (go_at_call 45;refine (HLE.out _).mono ?_;rintro e w8 ⟨rfl,rfl⟩);go_roundg (L.length - (k + 1));(case measure=>have:=HK.out;omega);case rel=>exact ⟨k + 1,d,rfl,by congr 1;exact isSome_at (R:=some d) HN2.out,by have:=HK.out;omega,Hd (fun _=>HN2.out),HA4⟩
  · (obtain rfl:k = L.length:=by omega);have hd:decide (L.length < L.length) = false:=decide_eq_false (by omega);rw [hd];have hfl:=HA.out.own;rw [List.take_length] at hfl;have HO:=Hd hfl;clear hfl hd hlt hk;go_wp2;go_ret;exact ⟨_,_,rfl,HO.out,HB.out.trans (HA.out.bel.mono HB.out.size)⟩
end Go.Proofs.YtinallojhkaogaaGreatDoor.Mt
