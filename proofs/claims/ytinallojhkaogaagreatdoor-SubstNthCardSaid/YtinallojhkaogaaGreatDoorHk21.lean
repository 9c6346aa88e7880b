/- The texts SnT7 SnP7 FnS FnB FnG FnN. -/
import Derived.Test.YtinallojhkaogaaGreatDoorHk19
import Derived.Test.YtinallojhkaogaaGreatDoorHk20
set_option linter.unusedVariables false
set_option linter.unusedSimpArgs false
set_option maxHeartbeats 12800000
set_option maxRecDepth 100000
namespace Go.Proofs.YtinallojhkaogaaGreatDoor.Rx
open Go.RowKit Go.Shelf
open St (Wf word zeroW Tab SV SV_eq bytesL bytes_any)
open Ad (dec_len)
open Tr
theorem text_good7 (ao:Option Addr) (c:Nat) (t:Tr) (hg:Good t) (w:World) (h:Ns w (.slice ao (t.nodes 0).length c) (t.nodes 0)) (hw:∀ n ∈ t.nodes 0,Wf n.s) (hL:Lay w) (hkd:∀ (k:Nat) (h:k < (t.nodes 0).length),((t.nodes 0)[k].k = 1 /\ k = 0) \/ (t.nodes 0)[k].k = 6) :
  Calls Tryz.prog 66 #[.slice ao (t.nodes 0).length c] w fun e w'=>e = .returned (S (textT t)) /\ Below w.heap.size w w':=by
 obtain ⟨i0,hi,hz0,hz1,hz2⟩:=info_parts infoStr;have HNS:=Hd h;have HL:=Hd hL;have HM0:=Hd (may_any ao c _ w h hw);(have hmay:mayL (t.nodes 0) = true:=by unfold mayL;rw [patOf_good hg];rfl);rw [hmay] at HM0;have hsz:=hg.2.1;have hps:=size_pos t;obtain ⟨st0,hst⟩:=(ordered_iff (t.nodes 0)).2 ⟨t,hg.1,rfl⟩;have HEND:=Hd (show tx (t.nodes 0) (t.nodes 0).length = [textT t] from by rw [nodes_len];exact tx_end hg);have HOR:=Hd hst;have hlen:=nodes_len t 0;have HKD:=Hd hkd;clear h hL hmay hst hkd;generalize ht:textT t = tt at *;(have hl:(t.nodes 0).length <= 120:=by omega);(have hl0:0 < (t.nodes 0).length:=by omega);clear hlen hsz hps hg ht;generalize t.nodes 0 = l at *;go_enter Tryz.func66,Tryz.ntmps66;go_wp2_with (go_at_call 47;refine HM0.out.mono ?_;rintro e w0 ⟨rfl,hb⟩;have HB0:=Hd hb;clear hb);go_loopw [3,16] (fun v i wr=>∃ (k:Nat),k <= l.length /\ i = .int .i64 (k:Nat) /\ Hid (k = 0 -> v = .slice none 0 0) /\ Hid (wr.ownsRow w.heap.size 9 1 v (tx l k).length ((tx l k).map S)) /\ Hid (Below w.heap.size w wr)) (fun _ i _=>l.length - (intOf i).toNat);(case atStart=>exact ⟨0,Nat.zero_le _,rfl,Hd (fun _=>rfl),Hd (World.ownsRow_nil _ _ _ _),HB0⟩);case round =>
  clear HB0;obtain ⟨k,hk,rfl,HV,HO,HB⟩:=hrel;by_cases hlt:k < l.length
  ·
   obtain ⟨B0,o0,rfl,q0,q1,q2,q3,q4,q5,q6,q7,q8,q9⟩:=(HNS.out.below HB.out).at hlt;obtain ⟨ho,hpa,htx,hfl,hXk⟩:=tx_step HOR.out hlt;have hwn:Wf l[k].s:=hw _ (List.getElem_mem _);have HX1:=Hd htx;clear htx;generalize tx l k = X at *;have hkk:=HKD.out k hlt;generalize hn:l[k] = n at *;(have hlt':((k:Nat):Int) < ((l.length:Nat):Int):=by omega);(have CPa:=fun W=>parts_any n W);clear hn hw;(have hp2:parts n <= 2:=by unfold parts;split;omega;split <;> omega);obtain ⟨bo,cap,rfl⟩:∃ bo cap,u3 = .slice bo X.length cap:=by
    rcases own_forms HO.out with ⟨rfl,h0⟩ | ⟨g,cap,rfl,_⟩
    · exact ⟨none,0,by rw [h0]⟩
    · exact ⟨_,_,rfl⟩
   have HBN:=((Below.refl wr.heap.size wr).alloc (Nat.le_refl _) (Obj.cells (NC n) 72));have HNB:NB (wr.alloc (Obj.cells (NC n) 72)) wr.heap.size n:=heap_alloc_new _ _;have HH0:=Hd (NB.held (w0:=wr) HNB HBN);clear HNB HBN;obtain ⟨P,hP⟩:∃ P,P = parts n:=⟨_,rfl⟩;obtain ⟨m,hm⟩:∃ m,X.length = m + P:=⟨X.length - P,by omega⟩;rw [<- hP,show X.length - P = m by omega] at HX1;rw [<- hP] at CPa hp2 hpa;(have hsub:IntKind.i64.wrap (((X.length:Nat):Int) - (P:Int)) = ((m:Nat):Int):=by rw [IntKind.wrap_i64];omega);have HM:=Hd hm;(have hm0:(0:Int) <= ((m:Nat):Int):=by omega);(have hm1:((m:Nat):Int) <= ((X.length:Nat):Int):=by omega);(have hm2:m <= X.length:=by omega);(have HLW:=fun (W:World) (hb:Below wr.heap.size wr W)=>HL.out.below (HB.out.trans (hb.mono HB.out.size)));have HLW:=Hd HLW;have hbl:=flat_drop X m;have HFL:=Hd hfl;obtain ⟨b,hb⟩:∃ b,b = (X.drop m).flatten:=⟨_,rfl⟩;rw [<- hb] at HX1;(have hbl:b.length <= 100000:=by rw [hb];omega);have HBE:=Hd hb;have HP:=Hd hP;clear hb hP hfl;(have hml:m <= 120:=by omega);have hcase:(n.k = 1 /\ k = 0) \/ (n.k = 6 /\ 0 <= n.mn /\ n.mn <= 255 /\ -1 <= n.mx /\ n.mx <= 255):=by
    unfold OneN at ho;omega
   clear ho hkk;rcases hcase with ⟨hq,hq2⟩ | ⟨hq,hq1,hq2,hq3,hq4⟩
   ·
    skip
    (have hkj:n.k = 1:=by omega);(have t0:(n.k == 0) = false:=by rw [beq_eq_false_iff_ne];omega);(have t1:(n.k == 1) = true:=by rw [beq_iff_eq];omega);rw [show nodeS n b = (91 :: ((bytesL n.s).flatMap hexB ++ [93])) from by unfold nodeS;rw [if_neg (by omega)];rw [if_pos hkj]] at HX1;(have hP0:P = 0:=by rw [HP.out];unfold parts;rw [if_neg (by omega),if_neg (by omega)]);subst hP0;clear HP hkj hq;have CJ:=Hd (fun (W:World) (_:Below wr.heap.size wr W) (a:Option Addr) (c:Nat)=>Tryz.strings_Join_none a c ⟨#[]⟩ W);have hv:=HV.out hq2;clear hq2 HV;(have h0:X.length = 0:=by simp only [Value.slice.injEq] at hv;exact hv.2.1);(obtain ⟨rfl,h00,rfl⟩:bo = none /\ X.length = 0 /\ cap = 0:=by simpa using hv);(obtain rfl:m = 0:=by omega);obtain rfl:X = []:=List.length_eq_zero_iff.1 h0;clear hv h0 h00 hm HM;have CB:=Hd (fun (W:World) (hb:Below wr.heap.size wr W)=>by
     have h1:=bytes_any n.s W hwn (HLW.out W hb).tl (HLW.out W hb).tab;rw [SV_eq hwn] at h1;exact h1)
    (have hbs:(bytesL n.s).length <= 256:=by rw [St.bytesL_len];exact St.bytesN_len n.s);generalize bytesL n.s = bs at *;(have hszb:(ByteArray.mk bs.toArray).size = bs.length:=by simp [ByteArray.size]);go_wp2_with (first
     | (go_at_call 90;refine (CPa _).mono ?_;rintro e w1 ⟨rfl,hb1⟩;have HH1:=Hd (HH0.out.below hb1);clear hb1;obtain ⟨r0,r1,r2,r3,r4,r5,r6,r7,r8,r9,_⟩:=HH1.out)
     | (go_at_call 91;refine (CJ.out _ HH1.out.bel _ _).mono ?_;rintro e w2 ⟨rfl,rfl⟩;have HH2:=Hd HH1.out;obtain ⟨s0,s1,s2,s3,s4,s5,s6,s7,s8,s9,_⟩:=HH2.out;clear HH1;have HOm:=Hd (own_below (HO.out) (HH2.out.bel)))
     | (go_at_call 92;refine (CB.out _ HH2.out.bel).mono ?_;rintro e w3 ⟨rfl,hb3⟩;have HH3:=Hd (HH2.out.below hb3);have HOm:=Hd (own_below HOm.out hb3);clear hb3))
    have hcv:=run_bytes_of_string (P:=Tryz.prog) w3 9 96 5 ⟨bs.toArray⟩ Tryz.underlying9 Tryz.underlying96 Tryz.underlying5;rw [hszb] at hcv;generalize grownCap w3 bs.length 0 5 = gc at hcv;have HC:=Hd (bytes_cell w3 bs gc ((bytesRow ⟨bs.toArray⟩ gc).size,(bytesRow ⟨bs.toArray⟩ gc).size + 1));have HBa:=Hd ((Below.refl w3.heap.size w3).alloc (Nat.le_refl _) (.cells (bytesRow ⟨bs.toArray⟩ gc) 5 ((bytesRow ⟨bs.toArray⟩ gc).size,(bytesRow ⟨bs.toArray⟩ gc).size + 1))).drew;(have hszw:w3.heap.size < (w3.alloc (.cells (bytesRow ⟨bs.toArray⟩ gc) 5 ((bytesRow ⟨bs.toArray⟩ gc).size,(bytesRow ⟨bs.toArray⟩ gc).size + 1))).drew.heap.size:=by simp);generalize Obj.cells (bytesRow ⟨bs.toArray⟩ gc) 5 ((bytesRow ⟨bs.toArray⟩ gc).size,(bytesRow ⟨bs.toArray⟩ gc).size + 1) = ob at *;have HSW:=Hd hszw;clear hszw;rw [hcv];clear hcv;go_wp2;have HCd:Hid (∀ i (h:i < bs.length),((w3.alloc ob).drew).cell? ⟨w3.heap.size,i,none⟩ = some (.int .u8 (bs[i].toNat:Int))):=Hd HC.out;clear HC;generalize hw4:(w3.alloc ob).drew = w4 at *;have HH4:=Hd (HH3.out.below HBa.out);have HOm4:=Hd (own_below HOm.out HBa.out);go_loopw [8,40] (fun s i wr2=>∃ (j:Nat),j <= bs.length /\ i = .int .i64 (j:Nat) /\ s = S (91 :: (bs.take j).flatMap hexB) /\ Hid (Below w4.heap.size w4 wr2)) (fun _ i _=>bs.length - (intOf i).toNat);(case atStart=>exact ⟨0,Nat.zero_le _,rfl,rfl,Hd (Below.refl _ _)⟩);case round =>
     obtain ⟨j,hj,rfl,rfl,HB2⟩:=hrel;by_cases hjl:j < bs.length
     ·
      (have hjl':((j:Nat):Int) < ((bs.length:Nat):Int):=by omega);have hcl:=(HB2.out.cell (p:=⟨w3.heap.size,j,none⟩) HSW.out).trans (HCd.out j hjl);have hst:(91 :: (bs.take j).flatMap hexB).length <= 513:=by
       have hx:∀ l:List UInt8,(l.flatMap hexB).length = 2 * l.length:=by
        intro l
        induction l with
        | nil=>rfl
        | cons b r ih=>rw [List.flatMap_cons,List.length_append,ih];simp [hexB];omega
       rw [List.length_cons,hx,List.length_take];omega
      have HNX:=Hd (show 91 :: (bs.take (j + 1)).flatMap hexB = (91 :: (bs.take j).flatMap hexB) ++ [hexd (bs[j].toNat / 16),hexd (bs[j].toNat % 16)] from by
       rw [List.take_succ_eq_append_getElem hjl,List.flatMap_append];simp [hexB])
      have hdl:=UInt8.toNat_lt bs[j];have HLZ:=Hd (fun (W:World) (hb:Below wr.heap.size wr W)=>HLW.out W (HH4.out.bel.trans ((HB2.out.trans (hb.mono HB2.out.size)).mono HH4.out.bel.size)));generalize bs[j] = d at *;generalize 91 :: (bs.take j).flatMap hexB = z at *;have CF1:=Hd (fun (W:World) (hb:Below wr.heap.size wr W)=>fmt16 (d.toNat / 16) (by omega) W (HLZ.out W hb).tab (HLZ.out W hb).tl);have CF2:=Hd (fun (W:World) (hb:Below wr.heap.size wr W)=>fmt16 (d.toNat % 16) (by omega) W (HLZ.out W hb).tab (HLZ.out W hb).tl);generalize hexd (d.toNat / 16) = x1 at *;generalize hexd (d.toNat % 16) = x2 at *;(have c1:=fun w=>run_string_add_lists (P:=Tryz.prog) w [x1] [x2] (by simp) (by simp));(have c2:=fun w=>run_string_add_lists (P:=Tryz.prog) w z [x1,x2] (by omega) (by simp));go_wp2_with (first
       | (go_at_call 93;have hb0:=CF1.out _ (Below.refl _ _);clear CF1;refine hb0.mono ?_;rintro e w5 ⟨rfl,hb5⟩;have HB5:=Hd hb5;clear hb0 hb5)
       | (go_at_call 93;refine (CF2.out _ HB5.out).mono ?_;rintro e w6 ⟨rfl,hb6⟩;have HB6:=Hd (HB5.out.trans (hb6.mono HB5.out.size));clear hb6))
      go_roundw;(case rel=>exact ⟨j + 1,by omega,by go_num,by rw [HNX.out],Hd (HB2.out.trans (HB6.out.mono HB2.out.size))⟩);case measure=>simp [intOf];omega
     ·
      (obtain rfl:j = bs.length:=by omega);have HH5:=Hd (HH4.out.below HB2.out);have HOm:=Hd (own_below HOm4.out HB2.out);have hst:(91 :: bs.flatMap hexB).length <= 513:=by
       have hx:∀ l:List UInt8,(l.flatMap hexB).length = 2 * l.length:=by
        intro l
        induction l with
        | nil=>rfl
        | cons b r ih=>rw [List.flatMap_cons,List.length_append,ih];simp [hexB];omega
       rw [List.length_cons,hx];omega
      rw [List.take_length];rw [show 91 :: (bs.flatMap hexB ++ [93]) = (91 :: bs.flatMap hexB) ++ [93] from by simp] at HX1;generalize 91 :: bs.flatMap hexB = z at *;(have c1:=fun w=>run_string_add_lists (P:=Tryz.prog) w z [93] (by omega) (by decide));go_wp2_with (have hzz:=HH5;clear hzz;at_builtin;refine wpList_append_own _ rfl _ _ 133 rfl w.heap.size 9 i0 _ 1 16 Tryz.underlying133 hi hz0 hz1 hz2 rfl (by decide) _ _ _ rfl (HOm.out.alloc _) ⟨_,0,none⟩ 1 1 [S (z ++ [93])] rfl rfl (one_cell (heap_alloc_new _ _)) (one_str _) (by unfold maxLen;omega) (by omega) (by have h1:=HB.out.size;have h2:=HH5.out.bel.size;simp;omega) ?_);rintro v' w4 hown hgrow -;have HB4:=Hd (((HB.out.trans (HH5.out.bel.mono HB.out.size)).alloc (by have h1:=HB.out.size;have h2:=HH5.out.bel.size;omega) _).grown hgrow (by have h1:=HB.out.size;have h2:=HH5.out.bel.size;simp;omega) (own_ge HOm.out));have HO4:Hid (w4.ownsRow w.heap.size 9 1 v' (tx l (k + 1)).length ((tx l (k + 1)).map S)):=Hd (by rw [HX1.out];simpa using hown);obtain ⟨bo',n',cap',rfl⟩:∃ bo' n' cap',v' = .slice bo' n' cap':=by
       rcases own_forms hown with ⟨rfl,_⟩ | ⟨g,cap,rfl,_⟩
       · exact ⟨_,_,_,rfl⟩
       · exact ⟨_,_,_,rfl⟩
      clear hown hgrow;go_wp2;go_roundw;(case rel=>exact ⟨k + 1,by omega,by go_num,Hd (fun q=>absurd q (Nat.succ_ne_zero _)),HO4,HB4⟩);case measure=>simp [intOf];omega
   ·
    skip
    (have hkj:n.k = 6:=by omega);(have t0:(n.k == 0) = false:=by rw [beq_eq_false_iff_ne];omega);(have t1:(n.k == 1) = false:=by rw [beq_eq_false_iff_ne];omega);(have t2:(n.k == 2) = false:=by rw [beq_eq_false_iff_ne];omega);(have t3:(n.k == 3) = false:=by rw [beq_eq_false_iff_ne];omega);(have t4:(n.k == 4) = false:=by rw [beq_eq_false_iff_ne];omega);(have t5:(n.k == 5) = false:=by rw [beq_eq_false_iff_ne];omega);(have t6:(n.k == 6) = true:=by rw [beq_iff_eq];omega);rw [show nodeS n b = (42 :: (Lib.itoa n.mn ++ 44 :: (Lib.itoa n.mx ++ 59 :: b))) from by unfold nodeS;rw [if_neg (by omega)];rw [if_neg (by omega)];rw [if_neg (by omega)];rw [if_neg (by omega)];rw [if_neg (by omega)];rw [if_neg (by omega)];rw [if_pos hkj]] at HX1;(have hP0:P = 1:=by rw [HP.out];unfold parts;rw [if_neg (by omega),if_pos (by omega)]);subst hP0;clear HP hkj hq;obtain ⟨g,cap',rfl,rfl,hcap⟩:∃ g cap',bo = some ⟨g,0,none⟩ /\ cap = cap' /\ X.length <= cap':=by
     rcases own_forms HO.out with ⟨hv,h0⟩ | ⟨g,cap',hv,hcap⟩
     · exfalso;omega
     · simp only [Value.slice.injEq,true_and] at hv;exact ⟨g,cap',hv.1,hv.2,hcap⟩
    (have hcap':((X.length:Nat):Int) <= (cap:Int):=by omega);have CJ:=Hd (fun (W:World) (hb:Below wr.heap.size wr W)=>by
     have h1:=join_own X w.heap.size g cap m 1 (cap - m) W (own_below HO.out hb) hm (by omega) (by omega) (by have:=HFL.out;omega);rw [<- HBE.out] at h1;exact h1)
    have hi10:=itoa_len (n:=n.mn) (by omega) (by omega);have hi11:=itoa_len (n:=n.mx) (by omega) (by omega);generalize hx:Lib.itoa n.mn = x at *;generalize hy:Lib.itoa n.mx = y at *;have HIX:=Hd hx;have HIY:=Hd hy;clear hx hy;(have c1:=fun w=>run_string_add_lists (P:=Tryz.prog) w [42] x (by decide) (by omega));(have c2:=fun w=>run_string_add_lists (P:=Tryz.prog) w (42 :: x) [44] (by simp;omega) (by decide));(have c3:=fun w=>run_string_add_lists (P:=Tryz.prog) w (42 :: (x ++ [44])) y (by simp;omega) (by omega));(have c4:=fun w=>run_string_add_lists (P:=Tryz.prog) w (42 :: (x ++ 44 :: y)) [59] (by simp;omega) (by decide));(have c5:=fun w=>run_string_add_lists (P:=Tryz.prog) w (42 :: (x ++ 44 :: (y ++ [59]))) b (by simp;omega) (by omega));go_wp2_with (first
     | (go_at_call 90;refine (CPa _).mono ?_;rintro e w1 ⟨rfl,hb1⟩;have HH1:=Hd (HH0.out.below hb1);clear hb1;obtain ⟨r0,r1,r2,r3,r4,r5,r6,r7,r8,r9,_⟩:=HH1.out)
     | (go_at_call 91;refine (CJ.out _ HH1.out.bel).mono ?_;rintro e w2 ⟨rfl,hb2⟩;have HH2:=Hd (HH1.out.below hb2);clear hb2;obtain ⟨s0,s1,s2,s3,s4,s5,s6,s7,s8,s9,_⟩:=HH2.out;clear HH1;have HOm:=Hd (own_below (own_take HO.out hm2) (HH2.out.bel))))
    have HOm:=Hd (own_below HOm.out (Below.refl w2.heap.size w2).drew);(refine Tk.g (fun w'=>NH wr w' wr.heap.size n) (by exact NH.drew HH2.out) fun hH=>?_);clear HH2;generalize w2.drew = w3 at *;refine Tk.t 0 ?_;refine Tk.t 1 ?_;refine Tk.t 5 ?_;refine Tk.t 6 ?_;refine Tk.t 10 ?_;refine Tk.o 2 (fun K hK=>?_);go_simp
    (go_at_call 64;refine (itoa_any n.mn (by omega) (by omega) _ (HLW.out _ hH.bel)).mono ?_;rintro e w5 ⟨rfl,hbl⟩;have HOm:=Hd (own_below HOm.out hbl);rw [HIX.out])
    refine hK.out _ _ ?_ (fun hH=>Tk.w ?_)
    · (exact NH.below hH hbl)
    clear hK K;refine Tk.t 3 ?_;refine Tk.t 4 ?_;refine Tk.o 7 (fun K hK=>?_);go_simp
    (go_at_call 64;refine (itoa_any n.mx (by omega) (by omega) _ (HLW.out _ hH.bel)).mono ?_;rintro e w6 ⟨rfl,hbl⟩;have HOm:=Hd (own_below HOm.out hbl);rw [HIY.out])
    refine hK.out _ _ ?_ (fun hH=>Tk.w ?_)
    · (exact NH.below hH hbl)
    clear hK K;refine Tk.t 8 ?_;refine Tk.t 9 ?_;refine Tk.t 11 ?_;refine Tk.t 12 ?_;refine Tk.d ?_;have HH3:=Hd hH;clear hH;go_wp2_with (have hzz:=HH3;clear hzz;at_builtin;refine wpList_append_own _ rfl _ _ 133 rfl w.heap.size 9 i0 _ 1 16 Tryz.underlying133 hi hz0 hz1 hz2 rfl (by decide) _ _ _ rfl (HOm.out.alloc _) ⟨_,0,none⟩ 1 1 [S (42 :: (x ++ 44 :: (y ++ 59 :: b)))] rfl rfl (one_cell (heap_alloc_new _ _)) (one_str _) (by unfold maxLen;omega) (by omega) (by have h1:=HB.out.size;have h2:=HH3.out.bel.size;simp;omega) ?_);rintro v' w4 hown hgrow -;have HB4:=Hd (((HB.out.trans (HH3.out.bel.mono HB.out.size)).alloc (by have h1:=HB.out.size;have h2:=HH3.out.bel.size;omega) _).grown hgrow (by have h1:=HB.out.size;have h2:=HH3.out.bel.size;simp;omega) (own_ge HOm.out));have HO4:Hid (w4.ownsRow w.heap.size 9 1 v' (tx l (k + 1)).length ((tx l (k + 1)).map S)):=Hd (by rw [HX1.out];simpa [HM.out,List.map_take] using hown);obtain ⟨bo',n',cap',rfl⟩:∃ bo' n' cap',v' = .slice bo' n' cap':=by
     rcases own_forms hown with ⟨rfl,_⟩ | ⟨g,cap,rfl,_⟩
     · exact ⟨_,_,_,rfl⟩
     · exact ⟨_,_,_,rfl⟩
    clear hown hgrow;go_wp2;go_roundw;(case rel=>exact ⟨k + 1,by omega,by go_num,Hd (fun q=>absurd q (Nat.succ_ne_zero _)),HO4,HB4⟩);case measure=>simp [intOf];omega
  ·
   (obtain rfl:k = l.length:=by omega);rw [HEND.out] at HO;obtain ⟨g,cap,rfl,hcap⟩:∃ g cap,u3 = .slice (some ⟨g,0,none⟩) 1 cap /\ 1 <= cap:=by
    rcases own_forms HO.out with ⟨rfl,h0⟩ | ⟨g,cap,rfl,hc⟩
    · simp at h0
    · exact ⟨g,cap,rfl,by simpa using hc⟩
   have hc0:=own_cell' (m:=0) HO.out (by simp);go_wp2;go_ret;exact ⟨by rfl,HB.out⟩
open St (Wf word zeroW Tab wf_two wf_orL wf_ofL wf_zero orL ofL)
theorem parse_any7 (s:List UInt8) (w:World) (hL:Lay w) (hs:s.length <= 100000) (t:Tr) (hg:Good t) (ht0:textT t = s) (hp:parseL s = some (t.nodes 0)) (hA:nodeA false 120 ⟨s,[],0,false⟩ = true) (hkd:∀ (k:Nat) (h:k < (t.nodes 0).length),((t.nodes 0)[k].k = 1 /\ k = 0) \/ (t.nodes 0)[k].k = 6) :
  Calls Tryz.prog 37 #[S s] w (ParseR w s):=by
 have hq0:RW w w.heap.size ⟨s,[],0,false⟩ (.slice none 0 0) (w.alloc (.cells #[S s,.slice none 0 0,E 0,.bool false] 114)) :=
  ⟨heap_alloc_new _ _,World.ownsRow_nil _ _ _ _,(by intro q;cases q),Nat.le_refl _,(Below.refl _ _).alloc (Nat.le_refl _) _⟩
 have hn9:=(node_any7 w w.heap.size hL 120 (by decide) ⟨s,[],0,false⟩ _ _ hq0 ⟨by simpa using hs,Int.le_refl _,by show (0:Int) + ((s.length:Nat):Int) <= 100000;omega⟩ hA);unfold NodeAns at hn9;have HN:=Hd hn9;clear hn9 hA;have hwf:=wf_node 120 ⟨s,[],0,false⟩ (by intro n hn;cases hn);have hP:=hp;unfold parseL at hP;dsimp only at hP;split at hP;(case isFalse=>cases hP);case isTrue hc =>
  obtain ⟨hc1,hc2,hc3⟩:=hc;have hPl:=Option.some.inj hP;clear hP hc2 hc3;generalize nodeP 120 ⟨s,[],0,false⟩ = p at *;obtain ⟨⟨rest,l,g,bad⟩,at0⟩:=p;dsimp only at hwf hPl hc1 HN;subst hPl;subst hc1;(have hm:mayL (t.nodes 0) = true:=by unfold mayL;rw [patOf_good hg];rfl);have HM:=Hd (fun ao c W h=>may_any ao c (t.nodes 0) W h hwf);rw [hm] at HM;have HT:=Hd (fun ao c W h hl=>text_good7 ao c t hg W h hwf hl hkd);rw [ht0] at HT;have HO:=Hd hp;have HL:=Hd hL;(have hq:(s == s) = true:=by rw [beq_iff_eq]);clear hq0 hL hm hkd hp ht0 hg;generalize t.nodes 0 = l at *;go_enter Tryz.func37,Tryz.ntmps37;go_wp2_with (first
   | (go_at_call 65;refine HN.out.mono ?_;rintro e w1 ⟨v,rfl,hr,hk⟩;obtain ⟨ao,cap,rfl⟩:=own_slice hr.own;have HR:=Hd hr;have HNS:=Hd (own_ns hr.own);clear hr hk;obtain ⟨⟨c0,c1,c2,c3⟩,f0,f1,f2,f3⟩:=HR.out.cells;dsimp only at c0 c1 c2 c3)
   | (go_at_call 47;refine (HM.out _ _ _ HNS.out).mono ?_;rintro e w2 ⟨rfl,hb⟩;have HR2:=Hd (HR.out.below hb);have HNS2:=Hd (HNS.out.below hb);clear hb;obtain ⟨⟨d0,d1,d2,d3⟩,_,_,_,_⟩:=HR2.out.cells;dsimp only at d0 d1 d2 d3)
   | (go_at_call 66;refine (HT.out _ _ _ HNS2.out (HR2.out.lay HL.out)).mono ?_;rintro e w3 ⟨rfl,hb⟩;have HR3:=Hd (HR2.out.below hb);clear hb;obtain ⟨⟨g0,g1,g2,g3⟩,_,_,_,_⟩:=HR3.out.cells;dsimp only at g0 g1 g2 g3))
  go_ret2
  exact ⟨HR3.out.bel,Or.inr ⟨l,_,HO.out,rfl,HR3.out.own⟩⟩
end Go.Proofs.YtinallojhkaogaaGreatDoor.Rx
namespace Go.Proofs.YtinallojhkaogaaGreatDoor.Mt
open Go.RowKit Go.Shelf
open Rx
open Rx.Tr
open Go.Proofs.YtinallojhkaogaaGreatDoor.Fn
open St (Wf word mem SV SV_eq ofL wf_ofL bytesL)
theorem fok_long (T:List UInt8) (t:Tr):FOk T.length (longP T t):=by
 have key:∀ i c,longP T t i = some c -> CapsOk T.length c /\ ∃ j,i <= j /\ j <= T.length /\ gr c 0 = some (i,j):=fun i c h=>by
  obtain ⟨q,h1,h2,_⟩:=dn_some h;have hok:=whole_ok (by omega) (by omega) h2;refine ⟨hok,i + q,by omega,by omega,?_⟩;unfold wholeP at h2;cases hf:fitP T t i (i + q) nones with
  | none=>rw [hf] at h2;cases h2
  | some a =>
   rw [hf] at h2;have e:=Option.some.inj h2;rw [<- e,gr_set (fit_ok t i (i + q) nones a (by omega) (by omega) (caps_none _) hf).1 (by decide)];simp
 refine ⟨fun i c h=>(key i c h).1,fun i c h=>?_,fun i c h=>?_,fun i c h=>?_⟩
 · obtain ⟨_,j,_,_,e⟩:=key i c h;unfold from0;rw [e]
 · obtain ⟨_,j,_,_,e⟩:=key i c h;unfold from0 to0;rw [e]
 · obtain ⟨_,j,h1,h2,e⟩:=key i c h;unfold from0 to0;rw [e];exact ⟨h1,h2⟩
def l7:List Caps:=[[some (0,0),none,none,none,none,none,none,none,none,none],[some (1,4),none,none,none,none,none,none,none,none,none],[some (5,5),none,none,none,none,none,none,none,none,none]]
theorem none_ok:NoneOk:=fun W=>none_any W
def FL (l:List Nd) (T:List UInt8):Nat -> Option Caps:=match patOf l with
 | none=>fun _=>none
 | some t=>longP T t
theorem fl_ok (l:List Nd) (T:List UInt8):FOk T.length (FL l T):=by
 unfold FL;cases patOf l with
 | none=>exact ⟨fun i c h=>absurd h (by simp),fun i c h=>absurd h (by simp),fun i c h=>absurd h (by simp),fun i c h=>absurd h (by simp)⟩
 | some t=>exact fok_long T t
theorem fl_long {l:List Nd} {ao:Option Addr} {c:Nat} {w:World} (h:Ns w (.slice ao l.length c) l) (hw:∀ n ∈ l,Wf n.s) {T:List UInt8} (hT:T.length <= 100000):LongOk w (.slice ao l.length c) T (FL l T):=fun W i hW hi=>by
 cases hp:patOf l with
 | none =>
  (have e:FL l T i = none:=by unfold FL;rw [hp]);rw [e];refine (Longest_no l ao c W (h.below hW) hw T i (Or.inl (by unfold mayL;rw [hp];rfl))).mono ?_;rintro e w' ⟨rfl,hb⟩;exact ⟨rfl,hb⟩
 | some t =>
  (have e:FL l T i = longP T t i:=by unfold FL;rw [hp]);rw [e];obtain ⟨rfl,hg⟩:=patOf_some hp;exact Longest_yes t hg (sets_nodes t 0 hw) ao c W (h.below hW) T hT i hi _ rfl
def headF (F:Nat -> Option Caps) (N la i:Nat):Option Caps:=match firstF F N i with
 | none=>none
 | some c=>if to0 c = from0 c /\ from0 c + 1 = la then firstF F N la else some c
theorem head_fin {F:Nat -> Option Caps} {N:Nat} (hF:FOk N F):∀ (f la i:Nat),muF N la i <= f -> (finF F N f la i)[0]? = headF F N la i
 | 0,la,i,hm=>by
  unfold finF headF;rw [first_end F (show N < i from by unfold muF at hm;omega)];rfl
 | f + 1,la,i,hm=>by
  unfold finF headF;cases h:firstF F N i with
  | none=>rfl
  | some c =>
   dsimp only;split
   ·
    rename_i hs;have h1:=mu_skip hF h hm hs;cases f with
    | zero =>
     rw [first_end F (show N < la from by unfold muF at h1;omega)];rfl
    | succ f =>
     unfold finF;cases h2:firstF F N la with
     | none=>rfl
     | some d =>
      have h3:=(first_at hF h2).1;dsimp only;rw [if_neg (by omega)];rfl
   · rfl
theorem next_fin {F:Nat -> Option Caps} {N:Nat} (hF:FOk N F):∀ (f la i:Nat),muF N la i <= f -> ∀ (k:Nat) (c:Caps),(finF F N f la i)[k]? = some c -> (finF F N f la i)[k + 1]? = headF F N (to0 c + 1) (to0 c)
 | 0,la,i,hm,k,c,hk=>by unfold finF at hk;cases hk
 | f + 1,la,i,hm,k,c,hk=>by
  unfold finF at hk ⊢;cases h:firstF F N i with
  | none=>rw [h] at hk;cases hk
  | some d =>
   rw [h] at hk;dsimp only at hk ⊢;split at hk
   · rename_i hs;rw [if_pos hs];exact next_fin hF f la la (mu_skip hF h hm hs) k c hk
   ·
    rename_i hs;rw [if_neg hs,List.getElem?_cons_succ];cases k with
    | zero =>
     rw [List.getElem?_cons_zero] at hk;obtain rfl:=Option.some.inj hk;exact head_fin hF f _ _ (mu_next hF h hm hs)
    | succ k =>
     rw [List.getElem?_cons_succ] at hk;exact next_fin hF f _ _ (mu_next hF h hm hs) k c hk
theorem all_mu (N:Nat):muF N 0 0 <= 2 * (N + 1) + 1:=by unfold muF;split <;> omega
theorem all_head {F:Nat -> Option Caps} {N:Nat} (hF:FOk N F):(allF F N)[0]? = firstF F N 0:=by
 unfold allF;rw [head_fin hF _ _ _ (all_mu N)];unfold headF;cases firstF F N 0 with
 | none=>rfl
 | some c=>dsimp only;rw [if_neg (by omega)]
theorem all_next {F:Nat -> Option Caps} {N:Nat} (hF:FOk N F) {k:Nat} {c:Caps} (h:(allF F N)[k]? = some c):(allF F N)[k + 1]? = headF F N (to0 c + 1) (to0 c):=next_fin hF _ _ _ (all_mu N) k c h
theorem all_at {F:Nat -> Option Caps} {N:Nat} (hF:FOk N F) {k:Nat} {c:Caps} (h:(allF F N)[k]? = some c):CapsOk N c /\ gr c 0 = some (from0 c,to0 c) /\ from0 c <= to0 c /\ to0 c <= N:=by
 have hq:∃ i,firstF F N i = some c:=by
  cases k with
  | zero=>rw [all_head hF] at h;exact ⟨0,h⟩
  | succ k =>
   (have hk:k < (allF F N).length:=by have:=(List.getElem?_eq_some_iff.1 h).1;omega);have:=all_next hF (List.getElem?_eq_getElem hk);rw [this] at h;unfold headF at h;split at h
   · cases h
   ·
    rename_i d hd;split at h
    · exact ⟨_,h⟩
    · obtain rfl:=Option.some.inj h;exact ⟨_,hd⟩
 obtain ⟨i,hi⟩:=hq;have:=first_at hF hi;exact ⟨this.2.2.2.1,this.2.2.2.2.1,this.2.2.2.2.2.1,this.2.2.2.2.2.2⟩
end Go.Proofs.YtinallojhkaogaaGreatDoor.Mt
