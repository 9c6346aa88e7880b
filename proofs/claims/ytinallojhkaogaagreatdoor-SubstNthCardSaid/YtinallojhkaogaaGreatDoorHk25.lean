/- The texts M6A M6B M6C M6D. -/
import Derived.Test.YtinallojhkaogaaGreatDoorHk24
set_option linter.unusedVariables false
set_option linter.unusedSimpArgs false
set_option maxHeartbeats 6400000
set_option maxRecDepth 100000
namespace Go.Proofs.YtinallojhkaogaaGreatDoor.Mt
open Go.RowKit Go.Shelf
open Rx
open Rx.Tr
open St (Wf word mem SV SV_eq)
theorem dfit_4 (t:Tr) (T:List UInt8) (hT:T.length <= 100) (gv:Value) (ia i j:Nat) (c:Caps) (w:World) (hij:i <= j) (hj:j <= T.length) (hc:CapsOk T.length c) (nb no cap:Nat) (hM:DM t T (.slice (some ⟨nb,no,none⟩) (t.nodes 0).length cap) gv w) (hil:ia < (t.nodes 0).length) (z:List Nat) (a b:Nat) (mn mx:Int) (m:Nat) (hN:NCell w nb (no + ia * 10) ⟨4,z,(a:Nat),(b:Nat),mn,mx,(m:Nat)⟩) (hgd:refsT t = 0 -> FT T t ia i j = true) (hb:b < t.size) (x y:Tr) (HFx:DFit t T (.slice (some ⟨nb,no,none⟩) (t.nodes 0).length cap) gv x a) (HFy:DFit t T (.slice (some ⟨nb,no,none⟩) (t.nodes 0).length cap) gv y b) (hcy:refsT t = 0 -> ∀ q a,q <= j -> FT T t b q j = false -> fitP T y q j a = none) (R:Option Caps) (hR:R = down (fun k=>(fitP T x i k c).bind fun q=>fitP T y k j q) i (j - i)) :
    Calls Tryz.prog 78 #[(.slice (some ⟨nb,no,none⟩) (t.nodes 0).length cap),gv,E (ia:Nat),S T,E (i:Nat),E (j:Nat),CV c] w (DAns w T.length R):=by
  obtain ⟨q0,q1,q2,q3,q4,q5,q6,q7,q8,q9⟩:=hN;have hnb:nb < w.heap.size:=lt_cell q0;(have hnb2:nb < w.heap.size + 1:=by omega);(have ha0:(0:Int) <= (ia:Int):=by omega);(have ha1:(ia:Int) < ((t.nodes 0).length:Int):=by omega);have hsl:=nodes_len t 0;(have ha2:(ia:Int) < (t.size:Int):=by omega);(have hs0:(0:Int) < (t.size:Int):=by omega);(have hi0:(0:Int) <= (i:Int):=by omega);(have hi1:(i:Int) < (T.length:Int) + 1:=by omega);(have hj0:(0:Int) <= (j:Int):=by omega);(have hj1:(j:Int) < (T.length:Int) + 1:=by omega);have HT:=Hd (ds_start hM c ⟨4,z,(a:Nat),(b:Nat),mn,mx,(m:Nat)⟩);have HC:=Hd hc;have HRR:=Hd hR;have HIJ:=Hd (An hij (An hj (An hT hsl)));clear hR hc;have HFa:=Hd HFx;have HFb:=Hd HFy;have HCY:=Hd hcy;have HBS:=Hd hb;(have hb0:(0:Int) <= (b:Int):=by omega);(have hb1:(b:Int) < (t.size:Int):=by omega);obtain ⟨G,hG⟩:∃ G,G = (fun k=>(fitP T x i k c).bind fun q=>fitP T y k j q):=⟨_,rfl⟩;have HGG:=Hd hG;have HR2:=Hd (show R = down G i (j - i) from by rw [HRR.out,hG]);clear hG HRR HFx HFy hcy hb;rcases hM.g with ⟨hr,gao,gc,rfl⟩ | ⟨hr,hg⟩;(case' inl=>have HRA:=Hd hr);case' inr =>
    have HRF0:=Hd hr;obtain ⟨gb,gc,rfl,_⟩:=id hg;obtain ⟨ra,ca,q,y1,y2,y3⟩:=hg.at (x:=ia) (i:=i) (j:=j) (by omega) (by omega) (by omega);rw [hgd hr] at y3;have y4:=lt_cell y1;have y5:=lt_cell y2;have y6:=lt_cell y3;(try dsimp only at y4 y5 y6);(have y7:gb < w.heap.size + 1:=by omega);(have y8:ra < w.heap.size + 1:=by omega);(have y9:q < w.heap.size + 1:=by omega);clear hg
  (all_goals clear hM hr hgd hij hj hsl);all_goals
    go_enter Tryz.func78,Tryz.ntmps78;rw [show Code.region 4 = Fz 4 from rfl];go_wp2;refine at_world (p:=fun W=>DS t T (.slice (some ⟨nb,no,none⟩) (t.nodes 0).length cap) _ w c ⟨4,z,(a:Nat),(b:Nat),mn,mx,(m:Nat)⟩ W) HT.out (fun W hW=>?_);have HS:=Hd hW;clear hW HT q0 q1 q2 q3 q4 q5 q6 q7 q8 q9 hnb hnb2 ha0 ha1 ha2;(try clear y1 y2 y3 y4 y5 y6 y7 y8 y9);rw [show Fz 4 = Code.region 4 from rfl];obtain ⟨x0,x1,x2,x3,x4,x5,x6,x7,x8,x9⟩:=HS.out.cells;(try dsimp only at x0 x1 x2 x3 x4 x5 x6 x7 x8 x9);go_wp2;clear x0 x1 x2 x3 x4 x5 x6 x7 x8 x9;go_loopg [17] (j - i + 1) (fun n kv wr=>n <= j - i + 1 /\ ∃ k:Int,k = (i:Int) + (n:Int) - 1 /\ kv = .int .i64 k /\ Hid (dn G i n = down G i (j - i)) /\ Hid (DS t T (.slice (some ⟨nb,no,none⟩) (t.nodes 0).length cap) _ w c ⟨4,z,(a:Nat),(b:Nat),mn,mx,(m:Nat)⟩ wr));(case atStart=>exact ⟨Nat.le_refl _,(j:Int),by have:=HIJ.out;omega,rfl,Hd (down_dn G i (j - i)).symm,HS⟩);case round =>
      clear HS;obtain ⟨hn,k,hk,rfl,HG,HV⟩:=hrel;cases gk with
      | zero =>
        (have hlt:¬ ((i:Int) <= k):=by omega);clear hk;go_wp2_with (first
          | (refine ld6 13 HV.out.bx ?_)
          | (refine st6 14 147 c HV.out.rs ?_;obtain ⟨r1,r2⟩:=HV.out.ret c;have HR:=Hd (An r1 r2);clear r1 r2 HV;generalize World.setRow _ _ _ = W9 at HR ⊢))
        refine bodyPost_ret (res_caps6 rfl rfl HR.out.1 rfl) rfl ?_;refine ⟨c,false,rfl,?_,HR.out.2⟩;rw [HR2.out,<- HG.out];exact ⟨HC.out,rfl⟩
      | succ n =>
        obtain ⟨q,hq⟩:∃ q,q = i + n:=⟨_,rfl⟩;(obtain rfl:k = (q:Int):=by omega);(have hle:(i:Int) <= (q:Int):=by omega);(have hlt:¬ ((q:Int) < (i:Int)):=by omega);(have hq0:(0:Int) <= (q:Int):=by omega);(have hq1:(q:Int) < (T.length:Int) + 1:=by have:=HIJ.out;omega);(have hwq:IntKind.i64.wrap ((q:Int) - 1) = (q:Int) - 1:=by rw [IntKind.wrap_i64];have:=HIJ.out;omega);have HQ:=Hd (show i <= q /\ q <= j /\ q <= T.length /\ q = i + n /\ n <= j - i + 1 from ⟨by omega,by have:=HIJ.out;omega,by have:=HIJ.out;omega,hq,by omega⟩);have HDN:=Hd (show (match G q with | some a=>some a | none=>dn G i n) = down G i (j - i) from by rw [<- HG.out,hq,dn_succ];cases G (i + n) <;> rfl);clear hk hq hn HG;obtain ⟨x0,x1,x2,x3,x4,x5,x6,x7,x8,x9⟩:=HV.out.cells;(try dsimp only at x0 x1 x2 x3 x4 x5 x6 x7 x8 x9);by_cases hcut:refsT t = 0 /\ FT T t b q j = false
        · have HCU:=Hd hcut;clear hcut
          first
            | (exfalso;have:=HRA.out;have:=HCU.out.1;omega)
            | (obtain ⟨ra,ca,p,y1,y2,y3⟩:=(HV.out.dm.r3 HRF0.out).at (x:=b) (i:=q) (j:=j) HBS.out (by have:=HQ.out;omega) (by have:=HIJ.out;omega)
               rw [HCU.out.2] at y3;have HGQ:=Hd (show G q = none from by rw [HGG.out];dsimp only;cases fitP T x i q c with | none=>rfl | some a=>exact HCY.out HCU.out.1 q a HQ.out.2.1 HCU.out.2);rw [HGQ.out] at HDN;go_wp2;clear x0 x1 x2 x3 x4 x5 x6 x7 x8 x9 y1 y2 y3;go_roundg n;(case measure=>omega);case rel=>exact ⟨by have:=HQ.out;omega,_,by have:=HQ.out;omega,rfl,HDN,HV⟩)
        · have HPS:=Hd (show refsT t = 0 -> FT T t b q j = true from fun h=>by
            cases hf:FT T t b q j with
            | true=>rfl
            | false=>exact absurd ⟨h,hf⟩ hcut)
          clear hcut;(try obtain ⟨ra,ca,p,y1,y2,y3⟩:=(HV.out.dm.r3 HRF0.out).at (x:=b) (i:=q) (j:=j) HBS.out (by have:=HQ.out;omega) (by have:=HIJ.out;omega));(try rw [HPS.out HRF0.out] at y3);cases hf1:fitP T x i q c with
          | none =>
            have HGQ:=Hd (show G q = none from by rw [HGG.out];dsimp only;rw [hf1];rfl);go_wp2_with (first
              | (refine ld6 13 HV.out.bx ?_)
              | (go_at_call 78;have hq:=HFa.out i q c _ HQ.out.1 HQ.out.2.2.1 HC.out HV.out.dm;refine hq.mono ?_;clear hq;rintro e w2 ⟨a1,b1,rfl,hl,hb⟩;have HS2:=Hd (HV.out.below hb);have HLE:=Hd hl;clear hl hb HV HFa x0 x1 x2 x3 x4 x5 x6 x7 x8 x9;rw [hf1] at HLE;obtain ⟨hca,hb1⟩:=HLE.out;subst hb1;have HCA1:=Hd hca;clear hca HLE;(try clear y1 y2 y3))
              | (refine st6 18 129 a1 (heap_alloc_new _ _) ?_;rw [box_laid6];obtain ⟨r1,r2⟩:=HS2.out.box a1;have HS3:=Hd r1;have HB:=Hd r2;clear r1 r2 HS2;generalize World.alloc _ _ = W3 at HS3 HB ⊢;obtain ⟨x0,x1,x2,x3,x4,x5,x6,x7,x8,x9⟩:=HS3.out.cells;(try dsimp only at x0 x1 x2 x3 x4 x5 x6 x7 x8 x9)))
            clear x0 x1 x2 x3 x4 x5 x6 x7 x8 x9;rw [HGQ.out] at HDN;go_roundg n;(case measure=>omega);case rel=>exact ⟨by have:=HQ.out;omega,_,by have:=HQ.out;omega,rfl,HDN,HS3⟩
          | some a0 =>
            have HGQ:=Hd (show G q = fitP T y q j a0 from by rw [HGG.out];dsimp only;rw [hf1];rfl);cases hf2:fitP T y q j a0 with
            | none =>
              go_wp2_with (first
                | (refine ld6 13 HV.out.bx ?_)
                | (go_at_call 78;have hq:=HFa.out i q c _ HQ.out.1 HQ.out.2.2.1 HC.out HV.out.dm;refine hq.mono ?_;clear hq;rintro e w2 ⟨a1,b1,rfl,hl,hb⟩;have HS2:=Hd (HV.out.below hb);have HLE:=Hd hl;clear hl hb HV HFa x0 x1 x2 x3 x4 x5 x6 x7 x8 x9;rw [hf1] at HLE;obtain ⟨hca,hb1,ha1⟩:=HLE.out;subst hb1;subst ha1;have HCA1:=Hd hca;clear hca HLE;(try clear y1 y2 y3))
                | (refine st6 18 129 a1 (heap_alloc_new _ _) ?_;rw [box_laid6];obtain ⟨r1,r2⟩:=HS2.out.box a1;have HS3:=Hd r1;have HB:=Hd r2;clear r1 r2 HS2;generalize World.alloc _ _ = W3 at HS3 HB ⊢;obtain ⟨x0,x1,x2,x3,x4,x5,x6,x7,x8,x9⟩:=HS3.out.cells;(try dsimp only at x0 x1 x2 x3 x4 x5 x6 x7 x8 x9))
                | (refine ld6 18 HB.out ?_)
                | (go_at_call 78;have hq:=HFb.out q j a1 _ HQ.out.2.1 HIJ.out.2.1 HCA1.out HS3.out.dm;refine hq.mono ?_;clear hq;rintro e w4 ⟨a2,b2,rfl,hl,hb⟩;have HS4:=Hd (HS3.out.below hb);have HLE:=Hd hl;clear hl hb HS3 x0 x1 x2 x3 x4 x5 x6 x7 x8 x9;rw [hf2] at HLE;obtain ⟨hca,hb1⟩:=HLE.out;subst hb1;have HCA2:=Hd hca;clear hca HLE)
                | (refine st6 20 143 a2 (heap_alloc_new _ _) ?_;rw [box_laid6];obtain ⟨r1,r2⟩:=HS4.out.box a2;have HS5:=Hd r1;have HB2:=Hd r2;clear r1 r2 HS4;generalize World.alloc _ _ = W5 at HS5 HB2 ⊢))
              rw [HGQ.out,hf2] at HDN;go_roundg n;(case measure=>omega);case rel=>exact ⟨by have:=HQ.out;omega,_,by have:=HQ.out;omega,rfl,HDN,HS5⟩
            | some a9 =>
              go_wp2_with (first
                | (refine ld6 13 HV.out.bx ?_)
                | (go_at_call 78;have hq:=HFa.out i q c _ HQ.out.1 HQ.out.2.2.1 HC.out HV.out.dm;refine hq.mono ?_;clear hq;rintro e w2 ⟨a1,b1,rfl,hl,hb⟩;have HS2:=Hd (HV.out.below hb);have HLE:=Hd hl;clear hl hb HV HFa x0 x1 x2 x3 x4 x5 x6 x7 x8 x9;rw [hf1] at HLE;obtain ⟨hca,hb1,ha1⟩:=HLE.out;subst hb1;subst ha1;have HCA1:=Hd hca;clear hca HLE;(try clear y1 y2 y3))
                | (refine st6 18 129 a1 (heap_alloc_new _ _) ?_;rw [box_laid6];obtain ⟨r1,r2⟩:=HS2.out.box a1;have HS3:=Hd r1;have HB:=Hd r2;clear r1 r2 HS2;generalize World.alloc _ _ = W3 at HS3 HB ⊢;obtain ⟨x0,x1,x2,x3,x4,x5,x6,x7,x8,x9⟩:=HS3.out.cells;(try dsimp only at x0 x1 x2 x3 x4 x5 x6 x7 x8 x9))
                | (refine ld6 18 HB.out ?_)
                | (go_at_call 78;have hq:=HFb.out q j a1 _ HQ.out.2.1 HIJ.out.2.1 HCA1.out HS3.out.dm;refine hq.mono ?_;clear hq;rintro e w4 ⟨a2,b2,rfl,hl,hb⟩;have HS4:=Hd (HS3.out.below hb);have HLE:=Hd hl;clear hl hb HS3 x0 x1 x2 x3 x4 x5 x6 x7 x8 x9;rw [hf2] at HLE;obtain ⟨hca,hb1,ha1⟩:=HLE.out;subst hb1;subst ha1;have HCA2:=Hd hca;clear hca HLE)
                | (refine st6 20 143 a2 (heap_alloc_new _ _) ?_;rw [box_laid6];obtain ⟨r1,r2⟩:=HS4.out.box a2;have HS5:=Hd r1;have HB2:=Hd r2;clear r1 r2 HS4;generalize World.alloc _ _ = W5 at HS5 HB2 ⊢)
                | (refine ld6 20 HB2.out ?_)
                | (refine st6 14 146 a2 HS5.out.rs ?_;obtain ⟨r1,r2⟩:=HS5.out.ret a2;have HR:=Hd (An r1 r2);clear r1 r2 HS5;generalize World.setRow _ _ _ = W9 at HR ⊢))
              refine bodyPost_ret (res_caps6 rfl rfl HR.out.1 rfl) rfl ?_;refine ⟨a2,true,rfl,?_,HR.out.2⟩;rw [HR2.out,<- HDN.out,HGQ.out,hf2];exact ⟨HCA2.out,rfl,rfl⟩
def DMay (t:Tr) (T:List UInt8) (a:Nat) (mn mx:Int) (j:Nat) (mv:Value) (w:World):Prop :=
  (0 < refsT t /\ ∃ ao c,mv = .slice ao 0 c) \/ (refsT t = 0 /\ R2 w mv (j + 3) (j + 1) (stF (FT T t a) mn mx j))
theorem DMay.below {t:Tr} {T:List UInt8} {a:Nat} {mn mx:Int} {j:Nat} {mv:Value} {w w':World} (h:DMay t T a mn mx j mv w) (hb:Below w.heap.size w w'):DMay t T a mn mx j mv w':=h.imp id fun h=>⟨h.1,h.2.below hb⟩
theorem DMay.r2 {t:Tr} {T:List UInt8} {a:Nat} {mn mx:Int} {j:Nat} {mv:Value} {w:World} (h:DMay t T a mn mx j mv w) (hr:refsT t = 0):R2 w mv (j + 3) (j + 1) (stF (FT T t a) mn mx j):=by
  rcases h with ⟨q,_⟩ | ⟨_,q⟩
  · omega
  · exact q
theorem dn_congr {α:Type} {f g:Nat -> Option α} {i:Nat}:∀ {n:Nat},(∀ k,i <= k -> k < i + n -> f k = g k) -> dn f i n = dn g i n
  | 0,_=>rfl
  | n + 1,h=>by
    rw [dn_succ,dn_succ,h (i + n) (by omega) (by omega),dn_congr (n:=n) fun k h1 h2=>h k h1 (by omega)]
theorem times_on {f:Nat -> Nat -> Caps -> Option Caps} {mn mx:Int} {j p k:Nat} {c:Caps} (h:p < j) (hm:¬ (mx ≠ -1 /\ mx <= (k:Int))) :
    timesP f mn mx j (j - p) p k c = dn (fun q=>(f p q c).bind fun a=>timesP f mn mx j (j - q) q (k + 1) a) (p + 1) (j - p):=by
  obtain ⟨u,hu⟩:∃ u,j - p = u + 1:=⟨j - p - 1,by omega⟩;rw [hu,timesP,if_neg (by omega),if_neg hm];(try dsimp only);rw [down_dn,show j - p - 1 + 1 = u + 1 by omega];(refine dn_congr fun q h1 h2=>?_);cases f p q c with
  | none=>rfl
  | some x=>exact times_fuel (j:=j) u (j - q) q (k + 1) x (by omega) (by omega) (by omega)
theorem times_off {f:Nat -> Nat -> Caps -> Option Caps} {mn mx:Int} {j p k:Nat} {c:Caps} (h:p < j) (hm:mx ≠ -1 /\ mx <= (k:Int)):timesP f mn mx j (j - p) p k c = none:=by
  unfold timesP;rw [if_neg (by omega),if_pos hm]
theorem times_at {f:Nat -> Nat -> Caps -> Option Caps} {mn mx:Int} {j k:Nat} {c:Caps}:timesP f mn mx j (j - j) j k c = if mn <= (k:Int) then some c else f j j c:=by
  unfold timesP;rw [if_pos rfl]
def DTim (t:Tr) (T:List UInt8) (lv gv mv:Value) (y:Tr) (ia a:Nat) (mn mx:Int) (j p:Nat):Prop:=∀ (k:Nat) (c:Caps) (w:World),k <= p -> CapsOk T.length c -> DM t T lv gv w -> DMay t T a mn mx j mv w ->
  Calls Tryz.prog 105 #[lv,gv,mv,E (ia:Nat),S T,E (p:Nat),E (j:Nat),E (k:Nat),CV c] w (DAns w T.length (timesP (fitP T y) mn mx j (j - p) p k c))
theorem dtimes_step (t:Tr) (T:List UInt8) (hT:T.length <= 100) (gv mv:Value) (ia p j k:Nat) (c:Caps) (w:World) (hpj:p <= j) (hkp:k <= p) (hj:j <= T.length) (hc:CapsOk T.length c) (nb no cap:Nat) (hM:DM t T (.slice (some ⟨nb,no,none⟩) (t.nodes 0).length cap) gv w) (hil:ia < (t.nodes 0).length) (z:List Nat) (a b:Nat) (mn mx:Int) (m:Nat) (hN:NCell w nb (no + ia * 10) ⟨6,z,(a:Nat),(b:Nat),mn,mx,(m:Nat)⟩)
    (hMy:DMay t T a mn mx j mv w) (y:Tr) (HFy:DFit t T (.slice (some ⟨nb,no,none⟩) (t.nodes 0).length cap) gv y a) (hct:refsT t = 0 -> ∀ q k a',q <= j -> k <= q -> stF (FT T t a) mn mx j k q = false -> timesP (fitP T y) mn mx j (j - q) q k a' = none)
    (IH:∀ q,p < q -> q <= j -> DTim t T (.slice (some ⟨nb,no,none⟩) (t.nodes 0).length cap) gv mv y ia a mn mx j q) (R:Option Caps) (hR:R = timesP (fitP T y) mn mx j (j - p) p k c) :
    Calls Tryz.prog 105 #[(.slice (some ⟨nb,no,none⟩) (t.nodes 0).length cap),gv,mv,E (ia:Nat),S T,E (p:Nat),E (j:Nat),E (k:Nat),CV c] w (DAns w T.length R):=by
  obtain ⟨q0,q1,q2,q3,q4,q5,q6,q7,q8,q9⟩:=hN;have hnb:nb < w.heap.size:=lt_cell q0;(have hnb2:nb < w.heap.size + 1:=by omega);(have ha0:(0:Int) <= (ia:Int):=by omega);(have ha1:(ia:Int) < ((t.nodes 0).length:Int):=by omega);(have hj3:(0:Int) < (j:Int) + 3:=by omega);(have hk0:(0:Int) <= (k:Int) + 1:=by omega);(have hk1:(k:Int) + 1 < (j:Int) + 3:=by omega);(have hwk:IntKind.i64.wrap ((k:Int) + 1) = (k:Int) + 1:=by rw [IntKind.wrap_i64];omega);have HT:=Hd (ds_start hM c ⟨6,z,(a:Nat),(b:Nat),mn,mx,(m:Nat)⟩);have HC:=Hd hc;have HRR:=Hd hR;have HPJ:=Hd (An hpj (An hkp (An hj hT)));have HFa:=Hd HFy;have HIH:=Hd IH;have HCT:=Hd hct;have HMY0:=Hd hMy;clear hR hc HFy IH hct hM hil;rcases hMy with ⟨hr,mao,mc,rfl⟩ | ⟨hr,rm,mc,rfl,_⟩;(case' inl=>have HRA:=Hd hr);(case' inr=>have HRF0:=Hd hr);(all_goals clear hr hpj hkp hj);all_goals
    go_enter Tryz.func105,Tryz.ntmps105;rw [show Code.region 2 = Fz 2 from rfl];go_wp2;refine at_world (p:=fun W=>DS t T (.slice (some ⟨nb,no,none⟩) (t.nodes 0).length cap) _ w c ⟨6,z,(a:Nat),(b:Nat),mn,mx,(m:Nat)⟩ W) HT.out (fun W hW=>?_);have HS:=Hd hW;have HMY:=Hd (HMY0.out.below (hW.bel));clear hW HT HMY0 q0 q1 q2 q3 q4 q5 q6 q7 q8 q9 hnb hnb2 ha0 ha1;rw [show Fz 2 = Code.region 2 from rfl];obtain ⟨x0,x1,x2,x3,x4,x5,x6,x7,x8,x9⟩:=HS.out.cells;(try dsimp only at x0 x1 x2 x3 x4 x5 x6 x7 x8 x9);by_cases hpe:p = j
    · (have hq1:((p:Int) == (j:Int)) = true:=by rw [hpe];simp);have HPE:=Hd hpe;have HR1:=Hd (show R = if mn <= (k:Int) then some c else fitP T y j j c from by rw [HRR.out,hpe,times_at]);clear hpe HRR;by_cases hmn:mn <= (k:Int)
      · have hmd:=decide_eq_true hmn;go_wp2_with (first
          | (refine ld6 17 HS.out.bx ?_)
          | (refine st6 18 39 c HS.out.rs ?_;obtain ⟨r1,r2⟩:=HS.out.ret c;have HR:=Hd (An r1 r2);clear r1 r2 HS;generalize World.setRow _ _ _ = W9 at HR ⊢))
        refine bodyPost_ret (res_caps6 rfl rfl HR.out.1 rfl) rfl ?_;refine ⟨c,true,rfl,?_,HR.out.2⟩;rw [HR1.out,if_pos (show mn <= (k:Int) from by omega)];exact ⟨HC.out,rfl,rfl⟩
      · have hmd:=decide_eq_false hmn;go_wp2_with (first
          | (refine ld6 17 HS.out.bx ?_)
          | (go_at_call 78;have hq:=HFa.out j j c _ (Nat.le_refl _) HPJ.out.2.2.1 HC.out HS.out.dm;refine hq.mono ?_;clear hq;rintro e w2 ⟨a1,b1,rfl,hl,hb⟩;have HS2:=Hd (HS.out.below hb);have HLE:=Hd hl;clear hl hb HS)
          | (refine st6 18 52 a1 HS2.out.rs ?_;obtain ⟨r1,r2⟩:=HS2.out.ret a1;have HR:=Hd (An r1 r2);clear r1 r2 HS2;generalize World.setRow _ _ _ = W9 at HR ⊢))
        refine bodyPost_ret (res_caps6 rfl rfl HR.out.1 rfl) rfl ?_;refine ⟨a1,b1,rfl,?_,HR.out.2⟩;rw [HR1.out,if_neg (show ¬ mn <= (k:Int) from by omega)];exact HLE.out
    · (have hq1:((p:Int) == (j:Int)) = false:=by rw [beq_eq_false_iff_ne];omega);have HLT:=Hd (show p < j from by have:=HPJ.out.1;omega);clear hpe;by_cases hoff:mx ≠ -1 /\ mx <= (k:Int)
      · (have hb1:(mx != -1) = true:=by rw [bne_iff_ne];exact hoff.1);have hb2:=decide_eq_true hoff.2;have hb3:=hoff.2;have HOF:=Hd hoff;clear hoff;go_wp2_with (first
          | (refine ld6 17 HS.out.bx ?_)
          | (refine st6 18 63 c HS.out.rs ?_;obtain ⟨r1,r2⟩:=HS.out.ret c;have HR:=Hd (An r1 r2);clear r1 r2 HS;generalize World.setRow _ _ _ = W9 at HR ⊢))
        refine bodyPost_ret (res_caps6 rfl rfl HR.out.1 rfl) rfl ?_;refine ⟨c,false,rfl,?_,HR.out.2⟩;rw [HRR.out,times_off HLT.out HOF.out];exact ⟨HC.out,rfl⟩
      · have HON:=Hd hoff;obtain ⟨G,hG⟩:∃ G,G = (fun q=>(fitP T y p q c).bind fun a=>timesP (fitP T y) mn mx j (j - q) q (k + 1) a):=⟨_,rfl⟩;have HGG:=Hd hG;have HR2:=Hd (show R = dn G (p + 1) (j - p) from by rw [HRR.out,times_on HLT.out hoff,hG]);have hor:((mx != -1) = false) \/ ((mx != -1) = true /\ ¬ mx <= (k:Int)):=by
          by_cases e:mx = -1
          · left;rw [e];rfl
          · right;exact ⟨by rw [bne_iff_ne];exact e,fun q=>hoff ⟨e,q⟩⟩
        clear hG HRR hoff;rcases hor with hb1 | ⟨hb1,hb3⟩;(case' inr=>have hb2:=decide_eq_false hb3);all_goals
          go_wp2;clear x0 x1 x2 x3 x4 x5 x6 x7 x8 x9;go_loopg [21] (j - p) (fun n kv wr=>n <= j - p /\ ∃ kk:Int,kk = (p:Int) + (n:Int) /\ kv = .int .i64 kk /\ Hid (dn G (p + 1) n = dn G (p + 1) (j - p)) /\ Hid (DS t T (.slice (some ⟨nb,no,none⟩) (t.nodes 0).length cap) _ w c ⟨6,z,(a:Nat),(b:Nat),mn,mx,(m:Nat)⟩ wr) /\ Hid (DMay t T a mn mx j _ wr));(case atStart=>exact ⟨Nat.le_refl _,(j:Int),by have:=HLT.out;omega,rfl,Hd rfl,HS,HMY⟩);case round =>
            clear HS HMY;obtain ⟨hn,kk,hkk,rfl,HG,HV,HMY⟩:=hrel;cases gk with
            | zero =>
              (have hgt:¬ ((p:Int) < kk):=by omega);clear hkk;go_wp2_with (first
                | (refine ld6 17 HV.out.bx ?_)
                | (refine st6 18 114 c HV.out.rs ?_;obtain ⟨r1,r2⟩:=HV.out.ret c;have HR:=Hd (An r1 r2);clear r1 r2 HV;generalize World.setRow _ _ _ = W9 at HR ⊢))
              refine bodyPost_ret (res_caps6 rfl rfl HR.out.1 rfl) rfl ?_;refine ⟨c,false,rfl,?_,HR.out.2⟩;rw [HR2.out,<- HG.out];exact ⟨HC.out,rfl⟩
            | succ n =>
              obtain ⟨q,hq⟩:∃ q,q = p + 1 + n:=⟨_,rfl⟩;(obtain rfl:kk = (q:Int):=by omega);(have hgt:(p:Int) < (q:Int):=by omega);(have hqq0:(0:Int) <= (q:Int):=by omega);(have hqq1:(q:Int) < (j:Int) + 1:=by have:=HLT.out;omega);(have hwq:IntKind.i64.wrap ((q:Int) - 1) = (q:Int) - 1:=by rw [IntKind.wrap_i64];have:=HPJ.out;have:=HLT.out;omega);have HQ:=Hd (show p < q /\ q <= j /\ k + 1 <= q /\ q = p + 1 + n /\ n + 1 <= j - p from ⟨by omega,by have:=HLT.out;omega,by have:=HPJ.out;omega,hq,by omega⟩);have HDN:=Hd (show (match G q with | some a=>some a | none=>dn G (p + 1) n) = dn G (p + 1) (j - p) from by rw [<- HG.out,HQ.out.2.2.2.1,dn_succ];cases G (p + 1 + n) <;> rfl);clear hq hkk hn HG;obtain ⟨x0,x1,x2,x3,x4,x5,x6,x7,x8,x9⟩:=HV.out.cells;(try dsimp only at x0 x1 x2 x3 x4 x5 x6 x7 x8 x9);by_cases hcut:refsT t = 0 /\ stF (FT T t a) mn mx j (k + 1) q = false
              · have HCU:=Hd hcut;clear hcut
                first
                  | (exfalso;have:=HRA.out;have:=HCU.out.1;omega)
                  | (obtain ⟨qm,y1,y2⟩:=(HMY.out.r2 HRF0.out).row (i:=k + 1) (by have:=HPJ.out;omega)
                     have y3:=y2.cell (i:=q) (by have:=HQ.out;omega);rw [HCU.out.2] at y3;have HGQ:=Hd (show G q = none from by rw [HGG.out];dsimp only;cases fitP T y p q c with | none=>rfl | some a'=>exact HCT.out HCU.out.1 q (k + 1) a' HQ.out.2.1 HQ.out.2.2.1 HCU.out.2);rw [HGQ.out] at HDN;clear y2;go_wp2;clear x0 x1 x2 x3 x4 x5 x6 x7 x8 x9 y1 y3;go_roundg n;(case measure=>omega);case rel=>exact ⟨by have:=HQ.out;omega,_,by have:=HQ.out;omega,rfl,HDN,HV,HMY⟩)
              · have HPS:=Hd (show refsT t = 0 -> stF (FT T t a) mn mx j (k + 1) q = true from fun h=>by
                  cases hf:stF (FT T t a) mn mx j (k + 1) q with
                  | true=>rfl
                  | false=>exact absurd ⟨h,hf⟩ hcut)
                clear hcut;(try obtain ⟨qm,y1,y2⟩:=(HMY.out.r2 HRF0.out).row (i:=k + 1) (by have:=HPJ.out;omega));(try have y3:=y2.cell (i:=q) (by have:=HQ.out;omega));(try rw [HPS.out HRF0.out] at y3);(try clear y2);cases hf1:fitP T y p q c with
                | none =>
                  have HGQ:=Hd (show G q = none from by rw [HGG.out];dsimp only;rw [hf1];rfl);go_wp2_with (first
                    | (refine ld6 17 HV.out.bx ?_)
                    | (go_at_call 78;have hq:=HFa.out p q c _ (Nat.le_of_lt HQ.out.1) (by have:=HQ.out;have:=HPJ.out;omega) HC.out HV.out.dm;refine hq.mono ?_;clear hq;rintro e w2 ⟨a1,b1,rfl,hl,hb⟩;have HS2:=Hd (HV.out.below hb);have HLE:=Hd hl;have HMY2:=Hd (HMY.out.below hb);clear hl hb HV HFa x0 x1 x2 x3 x4 x5 x6 x7 x8 x9;rw [hf1] at HLE;obtain ⟨hca,hb1⟩:=HLE.out;subst hb1;have HCA1:=Hd hca;clear hca HLE;(try clear y1 y3))
                    | (refine st6 22 94 a1 (heap_alloc_new _ _) ?_;rw [box_laid6];obtain ⟨r1,r2⟩:=HS2.out.box a1;have HS3:=Hd r1;have HB:=Hd r2;have HMY3:=Hd (HMY2.out.below ((Below.refl _ _).alloc (Nat.le_refl _) (.cells (CC a1) 33)));clear r1 r2 HS2;generalize World.alloc _ _ = W3 at HS3 HB HMY3 ⊢;obtain ⟨x0,x1,x2,x3,x4,x5,x6,x7,x8,x9⟩:=HS3.out.cells;(try dsimp only at x0 x1 x2 x3 x4 x5 x6 x7 x8 x9)))
                  clear x0 x1 x2 x3 x4 x5 x6 x7 x8 x9;rw [HGQ.out] at HDN;go_roundg n;(case measure=>omega);case rel=>exact ⟨by have:=HQ.out;omega,_,by have:=HQ.out;omega,rfl,HDN,HS3,HMY3⟩
                | some a0 =>
                  have HGQ:=Hd (show G q = timesP (fitP T y) mn mx j (j - q) q (k + 1) a0 from by rw [HGG.out];dsimp only;rw [hf1];rfl);cases hf2:timesP (fitP T y) mn mx j (j - q) q (k + 1) a0 with
                  | none =>
                    go_wp2_with (first
                      | (refine ld6 17 HV.out.bx ?_)
                      | (go_at_call 78;have hq:=HFa.out p q c _ (Nat.le_of_lt HQ.out.1) (by have:=HQ.out;have:=HPJ.out;omega) HC.out HV.out.dm;refine hq.mono ?_;clear hq;rintro e w2 ⟨a1,b1,rfl,hl,hb⟩;have HS2:=Hd (HV.out.below hb);have HLE:=Hd hl;have HMY2:=Hd (HMY.out.below hb);clear hl hb HV HFa x0 x1 x2 x3 x4 x5 x6 x7 x8 x9;rw [hf1] at HLE;obtain ⟨hca,hb1,ha1⟩:=HLE.out;subst hb1;subst ha1;have HCA1:=Hd hca;clear hca HLE;(try clear y1 y3))
                      | (refine st6 22 94 a1 (heap_alloc_new _ _) ?_;rw [box_laid6];obtain ⟨r1,r2⟩:=HS2.out.box a1;have HS3:=Hd r1;have HB:=Hd r2;have HMY3:=Hd (HMY2.out.below ((Below.refl _ _).alloc (Nat.le_refl _) (.cells (CC a1) 33)));clear r1 r2 HS2;generalize World.alloc _ _ = W3 at HS3 HB HMY3 ⊢;obtain ⟨x0,x1,x2,x3,x4,x5,x6,x7,x8,x9⟩:=HS3.out.cells;(try dsimp only at x0 x1 x2 x3 x4 x5 x6 x7 x8 x9))
                      | (refine ld6 22 HB.out ?_)
                      | (go_at_call 105;have hq:=HIH.out q HQ.out.1 HQ.out.2.1 (k + 1) a1 _ HQ.out.2.2.1 HCA1.out HS3.out.dm HMY3.out;refine hq.mono ?_;clear hq;rintro e w4 ⟨a2,b2,rfl,hl,hb⟩;have HS4:=Hd (HS3.out.below hb);have HLE:=Hd hl;have HMY4:=Hd (HMY3.out.below hb);clear hl hb HS3 x0 x1 x2 x3 x4 x5 x6 x7 x8 x9;rw [hf2] at HLE;obtain ⟨hca,hb1⟩:=HLE.out;subst hb1;have HCA2:=Hd hca;clear hca HLE)
                      | (refine st6 24 110 a2 (heap_alloc_new _ _) ?_;rw [box_laid6];obtain ⟨r1,r2⟩:=HS4.out.box a2;have HS5:=Hd r1;have HB2:=Hd r2;have HMY5:=Hd (HMY4.out.below ((Below.refl _ _).alloc (Nat.le_refl _) (.cells (CC a2) 33)));clear r1 r2 HS4;generalize World.alloc _ _ = W5 at HS5 HB2 HMY5 ⊢))
                    rw [HGQ.out,hf2] at HDN;go_roundg n;(case measure=>omega);case rel=>exact ⟨by have:=HQ.out;omega,_,by have:=HQ.out;omega,rfl,HDN,HS5,HMY5⟩
                  | some a9 =>
                    go_wp2_with (first
                      | (refine ld6 17 HV.out.bx ?_)
                      | (go_at_call 78;have hq:=HFa.out p q c _ (Nat.le_of_lt HQ.out.1) (by have:=HQ.out;have:=HPJ.out;omega) HC.out HV.out.dm;refine hq.mono ?_;clear hq;rintro e w2 ⟨a1,b1,rfl,hl,hb⟩;have HS2:=Hd (HV.out.below hb);have HLE:=Hd hl;have HMY2:=Hd (HMY.out.below hb);clear hl hb HV HFa x0 x1 x2 x3 x4 x5 x6 x7 x8 x9;rw [hf1] at HLE;obtain ⟨hca,hb1,ha1⟩:=HLE.out;subst hb1;subst ha1;have HCA1:=Hd hca;clear hca HLE;(try clear y1 y3))
                      | (refine st6 22 94 a1 (heap_alloc_new _ _) ?_;rw [box_laid6];obtain ⟨r1,r2⟩:=HS2.out.box a1;have HS3:=Hd r1;have HB:=Hd r2;have HMY3:=Hd (HMY2.out.below ((Below.refl _ _).alloc (Nat.le_refl _) (.cells (CC a1) 33)));clear r1 r2 HS2;generalize World.alloc _ _ = W3 at HS3 HB HMY3 ⊢;obtain ⟨x0,x1,x2,x3,x4,x5,x6,x7,x8,x9⟩:=HS3.out.cells;(try dsimp only at x0 x1 x2 x3 x4 x5 x6 x7 x8 x9))
                      | (refine ld6 22 HB.out ?_)
                      | (go_at_call 105;have hq:=HIH.out q HQ.out.1 HQ.out.2.1 (k + 1) a1 _ HQ.out.2.2.1 HCA1.out HS3.out.dm HMY3.out;refine hq.mono ?_;clear hq;rintro e w4 ⟨a2,b2,rfl,hl,hb⟩;have HS4:=Hd (HS3.out.below hb);have HLE:=Hd hl;have HMY4:=Hd (HMY3.out.below hb);clear hl hb HS3 x0 x1 x2 x3 x4 x5 x6 x7 x8 x9;rw [hf2] at HLE;obtain ⟨hca,hb1,ha1⟩:=HLE.out;subst hb1;subst ha1;have HCA2:=Hd hca;clear hca HLE)
                      | (refine st6 24 110 a2 (heap_alloc_new _ _) ?_;rw [box_laid6];obtain ⟨r1,r2⟩:=HS4.out.box a2;have HS5:=Hd r1;have HB2:=Hd r2;have HMY5:=Hd (HMY4.out.below ((Below.refl _ _).alloc (Nat.le_refl _) (.cells (CC a2) 33)));clear r1 r2 HS4;generalize World.alloc _ _ = W5 at HS5 HB2 HMY5 ⊢)
                      | (refine ld6 24 HB2.out ?_)
                      | (refine st6 18 113 a2 HS5.out.rs ?_;obtain ⟨r1,r2⟩:=HS5.out.ret a2;have HR:=Hd (An r1 r2);clear r1 r2 HS5;generalize World.setRow _ _ _ = W9 at HR ⊢))
                    refine bodyPost_ret (res_caps6 rfl rfl HR.out.1 rfl) rfl ?_;refine ⟨a2,true,rfl,?_,HR.out.2⟩;rw [HR2.out,<- HDN.out,HGQ.out,hf2];exact ⟨HCA2.out,rfl,rfl⟩
theorem dtimes_any (t:Tr) (T:List UInt8) (hT:T.length <= 100) (gv mv:Value) (ia j:Nat) (hj:j <= T.length) (nb no cap:Nat) (hil:ia < (t.nodes 0).length) (z:List Nat) (a b:Nat) (mn mx:Int) (m:Nat) (hN:∀ w,DM t T (.slice (some ⟨nb,no,none⟩) (t.nodes 0).length cap) gv w -> NCell w nb (no + ia * 10) ⟨6,z,(a:Nat),(b:Nat),mn,mx,(m:Nat)⟩)
    (y:Tr) (HFy:DFit t T (.slice (some ⟨nb,no,none⟩) (t.nodes 0).length cap) gv y a) (hct:refsT t = 0 -> ∀ q k a',q <= j -> k <= q -> stF (FT T t a) mn mx j k q = false -> timesP (fitP T y) mn mx j (j - q) q k a' = none) :
    ∀ n p,p + n = j -> DTim t T (.slice (some ⟨nb,no,none⟩) (t.nodes 0).length cap) gv mv y ia a mn mx j p:=by
  intro n
  induction n using Nat.strongRecOn with
  | _ n ih =>
    intro p hp k c w hk hc hM hMy;exact dtimes_step t T hT gv mv ia p j k c w (by omega) hk hj hc nb no cap hM hil z a b mn mx m (hN w hM) hMy y HFy hct (fun q h1 h2=>ih (j - q) (by omega) q (by omega)) _ rfl
theorem dfit_6r (t:Tr) (T:List UInt8) (hT:T.length <= 100) (gv:Value) (ia i j:Nat) (c:Caps) (w:World) (hij:i <= j) (hj:j <= T.length) (hc:CapsOk T.length c) (nb no cap:Nat) (hM:DM t T (.slice (some ⟨nb,no,none⟩) (t.nodes 0).length cap) gv w) (hil:ia < (t.nodes 0).length) (z:List Nat) (a b:Nat) (mn mx:Int) (m:Nat) (hN:NCell w nb (no + ia * 10) ⟨6,z,(a:Nat),(b:Nat),mn,mx,(m:Nat)⟩) (hgd:refsT t = 0 -> FT T t ia i j = true) (hrf:0 < refsT t) (ha:a < t.size) (y:Tr) (HTm:∀ mv,DTim t T (.slice (some ⟨nb,no,none⟩) (t.nodes 0).length cap) gv mv y ia a mn mx j i) (R:Option Caps) (hR:R = timesP (fitP T y) mn mx j (j - i) i 0 c) :
  Calls Tryz.prog 78 #[(.slice (some ⟨nb,no,none⟩) (t.nodes 0).length cap),gv,E (ia:Nat),S T,E (i:Nat),E (j:Nat),CV c] w (DAns w T.length R):=by
 obtain ⟨q0,q1,q2,q3,q4,q5,q6,q7,q8,q9⟩:=hN;have hnb:nb < w.heap.size:=lt_cell q0;(have hnb2:nb < w.heap.size + 1:=by omega);(have ha0:(0:Int) <= (ia:Int):=by omega);(have ha1:(ia:Int) < ((t.nodes 0).length:Int):=by omega);have hsl:=nodes_len t 0;(have ha2:(ia:Int) < (t.size:Int):=by omega);(have hs0:(0:Int) < (t.size:Int):=by omega);(have hi0:(0:Int) <= (i:Int):=by omega);(have hi1:(i:Int) < (T.length:Int) + 1:=by omega);(have hj0:(0:Int) <= (j:Int):=by omega);(have hj1:(j:Int) < (T.length:Int) + 1:=by omega);have HT:=Hd (ds_start hM c ⟨6,z,(a:Nat),(b:Nat),mn,mx,(m:Nat)⟩);have HC:=Hd hc;have HRR:=Hd hR;have HIJ:=Hd (An hij (An hj (An hT hsl)));clear hR hc;have HTM:=Hd HTm;have HA:=Hd ha;(have hca0:(0:Int) <= (a:Int):=by omega);(have hca1:(a:Int) < (t.size:Int):=by omega);clear HTm ha;rcases hM.g with ⟨hr,gao,gc,rfl⟩ | ⟨hr,hg⟩;(case inr=>omega);clear hM hr hgd hij hj hsl;go_enter Tryz.func78,Tryz.ntmps78;rw [show Code.region 4 = Fz 4 from rfl];rw [show Code.region 33 = Fz 33 from rfl];go_wp2;refine at_world (p:=fun W=>DS t T (.slice (some ⟨nb,no,none⟩) (t.nodes 0).length cap) _ w c ⟨6,z,(a:Nat),(b:Nat),mn,mx,(m:Nat)⟩ W) HT.out (fun W hW=>?_);have HS:=Hd hW;clear hW HT q0 q1 q2 q3 q4 q5 q6 q7 q8 q9 hnb hnb2 ha0 ha1 ha2;(try clear y1 y2 y3 y4 y5 y6 y7 y8 y9);rw [show Fz 4 = Code.region 4 from rfl];obtain ⟨x0,x1,x2,x3,x4,x5,x6,x7,x8,x9⟩:=HS.out.cells;(try dsimp only at x0 x1 x2 x3 x4 x5 x6 x7 x8 x9);go_wp2;have HS1:=Hd (HS.out.below ((Below.refl _ _).alloc (Nat.le_refl _) (.cells #[] 165)));clear HS x0 x1 x2 x3 x4 x5 x6 x7 x8 x9;generalize World.alloc _ _ = W3 at HS1 ⊢;obtain ⟨x0,x1,x2,x3,x4,x5,x6,x7,x8,x9⟩:=HS1.out.cells;(try dsimp only at x0 x1 x2 x3 x4 x5 x6 x7 x8 x9);rw [show Fz 33 = Code.region 33 from rfl];go_wp2_with (first
  | (refine ld6 13 HS1.out.bx ?_)
  | (go_at_call 105;have hq:=HTM.out (.slice (some ⟨W.heap.size,0,none⟩) 0 0) 0 c _ (Nat.zero_le _) HC.out HS1.out.dm (Or.inl ⟨hrf,_,_,rfl⟩);refine hq.mono ?_;clear hq;rintro e w2 ⟨a1,b1,rfl,hl,hb⟩;have HS2:=Hd (HS1.out.below hb);have HLE:=Hd hl;clear hl hb HS1)
  | (refine st6 14 198 a1 HS2.out.rs ?_;obtain ⟨r1,r2⟩:=HS2.out.ret a1;have HR:=Hd (An r1 r2);clear r1 r2 HS2;generalize World.setRow _ _ _ = W9 at HR ⊢))
 refine bodyPost_ret (res_caps6 rfl rfl HR.out.1 rfl) rfl ?_;refine ⟨a1,b1,rfl,?_,HR.out.2⟩;rw [HRR.out];exact HLE.out
theorem dfit_6n (t:Tr) (T:List UInt8) (hT:T.length <= 100) (gv:Value) (ia i j:Nat) (c:Caps) (w:World) (hij:i <= j) (hj:j <= T.length) (hc:CapsOk T.length c) (nb no cap:Nat) (hM:DM t T (.slice (some ⟨nb,no,none⟩) (t.nodes 0).length cap) gv w) (hil:ia < (t.nodes 0).length) (z:List Nat) (a b:Nat) (mn mx:Int) (m:Nat) (hN:NCell w nb (no + ia * 10) ⟨6,z,(a:Nat),(b:Nat),mn,mx,(m:Nat)⟩) (hgd:refsT t = 0 -> FT T t ia i j = true) (hrf:refsT t = 0) (ha:a < t.size) (y:Tr) (HTm:∀ mv,DTim t T (.slice (some ⟨nb,no,none⟩) (t.nodes 0).length cap) gv mv y ia a mn mx j i) (R:Option Caps) (hR:R = timesP (fitP T y) mn mx j (j - i) i 0 c) :
  Calls Tryz.prog 78 #[(.slice (some ⟨nb,no,none⟩) (t.nodes 0).length cap),gv,E (ia:Nat),S T,E (i:Nat),E (j:Nat),CV c] w (DAns w T.length R):=by
 obtain ⟨q0,q1,q2,q3,q4,q5,q6,q7,q8,q9⟩:=hN;have hnb:nb < w.heap.size:=lt_cell q0;(have hnb2:nb < w.heap.size + 1:=by omega);(have ha0:(0:Int) <= (ia:Int):=by omega);(have ha1:(ia:Int) < ((t.nodes 0).length:Int):=by omega);have hsl:=nodes_len t 0;(have ha2:(ia:Int) < (t.size:Int):=by omega);(have hs0:(0:Int) < (t.size:Int):=by omega);(have hi0:(0:Int) <= (i:Int):=by omega);(have hi1:(i:Int) < (T.length:Int) + 1:=by omega);(have hj0:(0:Int) <= (j:Int):=by omega);(have hj1:(j:Int) < (T.length:Int) + 1:=by omega);have HT:=Hd (ds_start hM c ⟨6,z,(a:Nat),(b:Nat),mn,mx,(m:Nat)⟩);have HC:=Hd hc;have HRR:=Hd hR;have HIJ:=Hd (An hij (An hj (An hT hsl)));clear hR hc;have HTM:=Hd HTm;have HA:=Hd ha;(have hca0:(0:Int) <= (a:Int):=by omega);(have hca1:(a:Int) < (t.size:Int):=by omega);clear HTm ha;rcases hM.g with ⟨hr,gao,gc,rfl⟩ | ⟨hr,hg⟩;(case inl=>omega);have HRF0:=Hd hr;obtain ⟨gb,gc,rfl,_⟩:=id hg;obtain ⟨ra,ca,q,y1,y2,y3⟩:=hg.at (x:=ia) (i:=i) (j:=j) (by omega) (by omega) (by omega);rw [hgd hr] at y3;have y4:=lt_cell y1;have y5:=lt_cell y2;have y6:=lt_cell y3;(try dsimp only at y4 y5 y6);(have y7:gb < w.heap.size + 1:=by omega);(have y8:ra < w.heap.size + 1:=by omega);(have y9:q < w.heap.size + 1:=by omega);clear hg hM hr hgd hij hj hsl hrf;go_enter Tryz.func78,Tryz.ntmps78;rw [show Code.region 4 = Fz 4 from rfl];rw [show Code.region 33 = Fz 33 from rfl];go_wp2;refine at_world (p:=fun W=>DS t T (.slice (some ⟨nb,no,none⟩) (t.nodes 0).length cap) _ w c ⟨6,z,(a:Nat),(b:Nat),mn,mx,(m:Nat)⟩ W) HT.out (fun W hW=>?_);have HS:=Hd hW;clear hW HT q0 q1 q2 q3 q4 q5 q6 q7 q8 q9 hnb hnb2 ha0 ha1 ha2;(try clear y1 y2 y3 y4 y5 y6 y7 y8 y9);rw [show Fz 4 = Code.region 4 from rfl];obtain ⟨x0,x1,x2,x3,x4,x5,x6,x7,x8,x9⟩:=HS.out.cells;(try dsimp only at x0 x1 x2 x3 x4 x5 x6 x7 x8 x9);go_wp2;have HS1:=Hd (HS.out.below ((Below.refl _ _).alloc (Nat.le_refl _) (.cells #[] 165)));clear HS x0 x1 x2 x3 x4 x5 x6 x7 x8 x9;have HD:=Hd (HS1.out.below (Below.refl _ _).drew);clear HS1;obtain ⟨rv,hy1,hy2⟩:=(HD.out.dm.r3 HRF0.out).row (x:=a) HA.out;have HY:=Hd hy2;clear hy2;(refine Tk.g (fun w'=>DW w c ⟨6,z,(a:Nat),(b:Nat),mn,mx,(m:Nat)⟩ w' /\ w'.cell? ⟨gb,a,none⟩ = some rv) (by exact ⟨HD.out.dw,hy1⟩) fun hH=>?_);clear hy1;generalize World.drew _ = W4 at HD HY hH ⊢;refine Tk.t 0 (hy:=by (intro wv hSw;(try dsimp only at hSw);obtain ⟨⟨sb,k0,k1,k2,k3,k4,k5,k6,k7,k8,k9⟩,y1⟩:=hSw;(try dsimp only at k0 k1 k2 k3 k4 k5 k6 k7 k8 k9);simp only [Nat.zero_add] at k0 k1 k2 k3 k4 k5 k6 k7 k8 k9;go_simp) <;> with_reducible rfl) ?_;refine Tk.t 1 ?_;refine Tk.t 2 ?_;refine Tk.t 3 (hy:=by (intro wv hSw;(try dsimp only at hSw);obtain ⟨⟨sb,k0,k1,k2,k3,k4,k5,k6,k7,k8,k9⟩,y1⟩:=hSw;(try dsimp only at k0 k1 k2 k3 k4 k5 k6 k7 k8 k9);simp only [Nat.zero_add] at k0 k1 k2 k3 k4 k5 k6 k7 k8 k9;go_simp) <;> with_reducible rfl) ?_;refine Tk.t 4 ?_;refine Tk.t 5 (hy:=by (intro wv hSw;(try dsimp only at hSw);obtain ⟨⟨sb,k0,k1,k2,k3,k4,k5,k6,k7,k8,k9⟩,y1⟩:=hSw;(try dsimp only at k0 k1 k2 k3 k4 k5 k6 k7 k8 k9);simp only [Nat.zero_add] at k0 k1 k2 k3 k4 k5 k6 k7 k8 k9;go_simp) <;> with_reducible rfl) ?_;refine Tk.t 6 ?_;refine Tk.o 7 (fun K hK=>?_);have hsp:=steps_any ⟨6,z,(a:Nat),(b:Nat),mn,mx,(m:Nat)⟩ (FT T t a) rv (T.length + 1) j (by have:=HIJ.out;omega) W4 HY.out (by have:=HIJ.out;omega);(try dsimp only at hsp);go_simp
 (go_at_call 97;refine hsp.mono ?_;clear hsp;rintro e w7 ⟨rm,rfl,hrm,hbl⟩;have HD2:=Hd (HD.out.below hbl);have HRM:=Hd hrm.read;have HBL:=Hd hbl;clear HD hbl hrm HY)
 (refine hK.out _ _ (by exact ⟨HD2.out.dw,(HBL.out.cell (lt_cell hH.2)).trans hH.2⟩) fun hH=>Tk.w ?_);clear hK K HBL;refine Tk.t 8 ?_;refine Tk.d ?_;clear hH;obtain ⟨x0,x1,x2,x3,x4,x5,x6,x7,x8,x9⟩:=HD2.out.cells;(try dsimp only at x0 x1 x2 x3 x4 x5 x6 x7 x8 x9);go_wp2;rw [show Fz 33 = Code.region 33 from rfl];go_wp2_with (first
  | (refine ld6 13 HD2.out.bx ?_)
  | (go_at_call 105;have hq:=HTM.out _ 0 c _ (Nat.zero_le _) HC.out HD2.out.dm (Or.inr ⟨HRF0.out,HRM.out⟩);refine hq.mono ?_;clear hq;rintro e w2 ⟨a1,b1,rfl,hl,hb⟩;have HS2:=Hd (HD2.out.below hb);have HLE:=Hd hl;clear hl hb HD2)
  | (refine st6 14 198 a1 HS2.out.rs ?_;obtain ⟨r1,r2⟩:=HS2.out.ret a1;have HR:=Hd (An r1 r2);clear r1 r2 HS2;generalize World.setRow _ _ _ = W9 at HR ⊢))
 refine bodyPost_ret (res_caps6 rfl rfl HR.out.1 rfl) rfl ?_;refine ⟨a1,b1,rfl,?_,HR.out.2⟩;rw [HRR.out];exact HLE.out
theorem ft_sound {t:Tr} {T:List UInt8} {x:Tr} {o:Nat} (hin:InT t x o) (hr:refsT x = 0) {i j:Nat} (hij:i <= j) (hj:j <= T.length) {c a:Caps} (h:fitP T x i j c = some a):FT T t (o + x.size - 1) i j = true:=by
 rw [FT_root hin hij];exact g_sound x hr i j c a hij hj h
theorem ft_none {t:Tr} {T:List UInt8} {x:Tr} {o:Nat} (hin:InT t x o) (hr:refsT x = 0) {i j:Nat} (hij:i <= j) (hj:j <= T.length) (c:Caps) (h:FT T t (o + x.size - 1) i j = false):fitP T x i j c = none:=by
 cases hf:fitP T x i j c with
 | none=>rfl
 | some a =>
  rw [ft_sound hin hr hij hj hf] at h;cases h
theorem dfit_gate {t:Tr} {T:List UInt8} {gv:Value} (hT:T.length <= 100) {x:Tr} {o:Nat} (hin:InT t x o) (hr:refsT t = 0 -> refsT x = 0) {i j:Nat} {c:Caps} {w:World} (hij:i <= j) (hj:j <= T.length) (hc:CapsOk T.length c) {nb no cap:Nat} (hM:DM t T (.slice (some ⟨nb,no,none⟩) (t.nodes 0).length cap) gv w) (hlt:o + x.size - 1 < (t.nodes 0).length)
  (H:(refsT t = 0 -> FT T t (o + x.size - 1) i j = true) -> Calls Tryz.prog 78 #[.slice (some ⟨nb,no,none⟩) (t.nodes 0).length cap,gv,E ((o + x.size - 1:Nat):Int),S T,E (i:Nat),E (j:Nat),CV c] w (DAns w T.length (fitP T x i j c))) :
  Calls Tryz.prog 78 #[.slice (some ⟨nb,no,none⟩) (t.nodes 0).length cap,gv,E ((o + x.size - 1:Nat):Int),S T,E (i:Nat),E (j:Nat),CV c] w (DAns w T.length (fitP T x i j c)):=by
 by_cases h:refsT t = 0 /\ FT T t (o + x.size - 1) i j = false
 · exact dfit_cut t T hT gv _ i j c w hij hj hc nb no cap hM hlt h _ (ft_none hin (hr h.1) hij hj c h.2)
 ·
  (refine H fun q=>?_);cases hf:FT T t (o + x.size - 1) i j with
  | true=>rfl
  | false=>exact absurd ⟨q,hf⟩ h
theorem dfit_all {t:Tr} {T:List UInt8} {lv gv:Value} (hT:T.length <= 100) (hTo:ToldOk) (em:Prop):∀ (x:Tr) (o:Nat),At (t.nodes 0) x o -> InT t x o -> x.Fine em -> SetsOk x -> (refsT t = 0 -> refsT x = 0) -> DFit t T lv gv x (o + x.size - 1):=by
 intro x
 induction x with
 | e =>
  intro o ha hin hf hs hr i j c w hij hj hc hM;obtain ⟨nb,no,cap,rfl,hlt,hN⟩:=hM.node ha;exact dfit_gate hT hin hr hij hj hc hM hlt fun hgd=>dfit_0 t T hT gv _ i j c w hij hj hc nb no cap hM hlt z4 0 0 0 0 0 hN hgd _ rfl
 | set s =>
  intro o ha hin hf hs hr i j c w hij hj hc hM;obtain ⟨nb,no,cap,rfl,hlt,hN⟩:=hM.node ha;exact dfit_gate hT hin hr hij hj hc hM hlt fun hgd=>dfit_1 t T hT gv _ i j c w hij hj hc nb no cap hM hlt s 0 0 0 0 0 hN hgd hTo hs _ rfl
 | beg =>
  intro o ha hin hf hs hr i j c w hij hj hc hM;obtain ⟨nb,no,cap,rfl,hlt,hN⟩:=hM.node ha;exact dfit_gate hT hin hr hij hj hc hM hlt fun hgd=>dfit_2 t T hT gv _ i j c w hij hj hc nb no cap hM hlt z4 0 0 0 0 0 hN hgd _ rfl
 | fin =>
  intro o ha hin hf hs hr i j c w hij hj hc hM;obtain ⟨nb,no,cap,rfl,hlt,hN⟩:=hM.node ha;exact dfit_gate hT hin hr hij hj hc hM hlt fun hgd=>dfit_3 t T hT gv _ i j c w hij hj hc nb no cap hM hlt z4 0 0 0 0 0 hN hgd _ rfl
 | cat x y ihx ihy =>
  intro o ha hin hf hs hr i j c w hij hj hc hM;obtain ⟨nb,no,cap,rfl,hlt,hN⟩:=hM.node ha;have hx:=at_left ha (r:=_ ++ _) (by rw [<- List.append_assoc];rfl);have hy:=at_right ha (by rw [<- List.append_assoc];rfl);(have hrx:refsT t = 0 -> refsT x = 0:=fun q=>by have:=hr q;simp only [refsT] at this;omega);(have hry:refsT t = 0 -> refsT y = 0:=fun q=>by have:=hr q;simp only [refsT] at this;omega);have h3:=ihx o hx (in_cat1 hin) hf.1 hs.1 hrx;have h4:=ihy _ hy (in_cat2 hin) hf.2.1 hs.2 hry;have hb:o + x.size + y.size - 1 < t.size:=by
   have h1:=hlt;rw [nodes_len] at h1;have h2:(Tr.cat x y).size = x.size + y.size + 1:=rfl;have:=size_pos y;omega
  exact dfit_gate hT hin hr hij hj hc hM hlt fun hgd=>dfit_4 t T hT gv _ i j c w hij hj hc nb no cap hM hlt z4 _ _ 0 0 0 hN hgd hb x y h3 h4 (fun q k a h5 h6=>ft_none (in_cat2 hin) (hry q) h5 hj a h6) _ rfl
 | alt x y ihx ihy =>
  intro o ha hin hf hs hr i j c w hij hj hc hM;obtain ⟨nb,no,cap,rfl,hlt,hN⟩:=hM.node ha;have hx:=at_left ha (r:=_ ++ _) (by rw [<- List.append_assoc];rfl);have hy:=at_right ha (by rw [<- List.append_assoc];rfl);(have hrx:refsT t = 0 -> refsT x = 0:=fun q=>by have:=hr q;simp only [refsT] at this;omega);(have hry:refsT t = 0 -> refsT y = 0:=fun q=>by have:=hr q;simp only [refsT] at this;omega);have h3:=ihx o hx (in_alt1 hin) hf.1 hs.1 hrx;have h4:=ihy _ hy (in_alt2 hin) hf.2.1 hs.2 hry;(refine dfit_gate hT hin hr hij hj hc hM hlt fun hgd=>dfit_5 t T hT gv _ i j c w hij hj hc nb no cap hM hlt z4 _ _ 0 0 0 hN hgd x y h3 h4 _ ?_);rw [fitP];cases fitP T x i j c <;> rfl
 | times mn mx x ihx =>
  intro o ha hin hf hs hr i j c w hij hj hc hM;obtain ⟨nb,no,cap,rfl,hlt,hN⟩:=hM.node ha;have hx:=at_left ha rfl;(have hrx:refsT t = 0 -> refsT x = 0:=fun q=>by have:=hr q;simp only [refsT] at this;omega);have h3:=ihx o hx (in_times hin) hf.1 hs hrx;have hNN:∀ w,DM t T (.slice (some ⟨nb,no,none⟩) (t.nodes 0).length cap) gv w -> NCell w nb (no + (o + (Tr.times mn mx x).size - 1) * 10) ⟨6,z4,((o + x.size - 1:Nat):Int),((0:Nat):Int),mn,mx,((0:Nat):Int)⟩:=fun w hM=>by
   obtain ⟨nb',no',cap',e,_,h⟩:=hM.node ha;simp only [Value.slice.injEq,Option.some.injEq,Addr.mk.injEq,and_true,true_and] at e;obtain ⟨⟨rfl,rfl⟩,rfl⟩:=e;exact h
  have hct:refsT t = 0 -> ∀ q k a',q <= j -> k <= q -> stF (FT T t (o + x.size - 1)) mn mx j k q = false -> timesP (fitP T x) mn mx j (j - q) q k a' = none:=fun q p k a' h5 h6 h7=>by
   cases h8:timesP (fitP T x) mn mx j (j - p) p k a' with
   | none=>rfl
   | some b =>
    have:=st_sound (A:=FT T t (o + x.size - 1)) (N:=T.length) (fun p q' c a h1 h2 h=>ft_sound (in_times hin) (hrx q) h1 h2 h) hj (j - p) p k a' b h5 h6 h8;unfold stF at h7;rw [this] at h7;cases h7
  have hTm:∀ mv,DTim t T (.slice (some ⟨nb,no,none⟩) (t.nodes 0).length cap) gv mv x (o + (Tr.times mn mx x).size - 1) (o + x.size - 1) mn mx j i:=fun mv =>
   dtimes_any t T hT gv mv _ j hj nb no cap hlt z4 _ 0 mn mx 0 hNN x h3 hct (j - i) i (by omega)
  have ha':o + x.size - 1 < t.size:=by
   have h1:=hlt;rw [nodes_len] at h1;have h2:(Tr.times mn mx x).size = x.size + 1:=rfl;have:=size_pos x;omega
  (refine dfit_gate hT hin hr hij hj hc hM hlt fun hgd=>?_);by_cases hrf:refsT t = 0
  · exact dfit_6n t T hT gv _ i j c w hij hj hc nb no cap hM hlt z4 _ 0 mn mx 0 hN hgd hrf ha' x hTm _ rfl
  · exact dfit_6r t T hT gv _ i j c w hij hj hc nb no cap hM hlt z4 _ 0 mn mx 0 hN hgd (by omega) ha' x hTm _ rfl
 | grp n x ihx =>
  intro o ha hin hf hs hr i j c w hij hj hc hM;obtain ⟨nb,no,cap,rfl,hlt,hN⟩:=hM.node ha;have hx:=at_left ha rfl;(have hrx:refsT t = 0 -> refsT x = 0:=fun q=>by have:=hr q;simp only [refsT] at this;omega);have h3:=ihx o hx (in_grp hin) hf.1 hs hrx;obtain ⟨_,f1,f2⟩:=hf;obtain ⟨m,rfl⟩:∃ m:Nat,n = (m:Int):=⟨n.toNat,by omega⟩;exact dfit_gate hT hin hr hij hj hc hM hlt fun hgd=>dfit_7 t T hT gv _ i j c w hij hj hc nb no cap hM hlt z4 _ 0 0 0 m hN hgd (by omega) (by omega) x h3 _ rfl
 | ref n =>
  intro o ha hin hf hs hr i j c w hij hj hc hM;obtain ⟨nb,no,cap,rfl,hlt,hN⟩:=hM.node ha;obtain ⟨f1,f2⟩:=hf;obtain ⟨m,rfl⟩:∃ m:Nat,n = (m:Int):=⟨n.toNat,by omega⟩;exact dfit_gate hT hin hr hij hj hc hM hlt fun hgd=>dfit_8 t T hT gv _ i j c w hij hj hc nb no cap hM hlt z4 0 0 0 0 m hN hgd (by omega) (by omega) _ rfl
theorem sT_ok:∀ (t:Tr) (k:Nat),SetsOk t -> refsT t = 0 -> SetsOk (sT t k) /\ refsT (sT t k) = 0
 | .cat x y,k,hs,hr=>by
  have hr':=noref_cat hr;unfold sT;split
  · exact sT_ok x k hs.1 hr'.1
  ·
   split
   · exact sT_ok y _ hs.2 hr'.2
   · exact ⟨hs,hr⟩
 | .alt x y,k,hs,hr=>by
  have hr':=noref_cat hr;unfold sT;split
  · exact sT_ok x k hs.1 hr'.1
  ·
   split
   · exact sT_ok y _ hs.2 hr'.2
   · exact ⟨hs,hr⟩
 | .times a b x,k,hs,hr=>by
  unfold sT;split
  · exact sT_ok x k hs hr
  · exact ⟨hs,hr⟩
 | .grp n x,k,hs,hr=>by
  unfold sT;split
  · exact sT_ok x k hs hr
  · exact ⟨hs,hr⟩
 | .e,k,hs,hr | .set _,k,hs,hr | .beg,k,hs,hr | .fin,k,hs,hr | .ref _,k,hs,hr=>⟨hs,hr⟩
theorem any_range {f g:Nat -> Bool}:∀ n:Nat,(∀ k,k < n -> f k = g k) -> (List.range n).any f = (List.range n).any g
 | 0,_=>rfl
 | n + 1,h=>by
  rw [List.range_succ,List.any_append,List.any_append,any_range n fun k hk=>h k (by omega),List.any_cons,List.any_cons,h n (by omega)];rfl
theorem node_ok {t:Tr} {T:List UInt8} {lv:Value} (hT:T.length <= 100) (hTo:ToldOk) (hs:SetsOk t) (hr:refsT t = 0) (k:Nat) (hk:k < (t.nodes 0).length):NodeOk lv (t.nodes 0) T (FT T t) k (t.nodes 0)[k]:=by
 (have hkt:k < t.size:=by rw [nodes_len] at hk;exact hk);obtain ⟨p,e1,hin,hat⟩:=in_at t k hkt;have ha:=hat (t.nodes 0) 0 (at_self t);rw [Nat.zero_add] at ha;obtain ⟨hsx,hrx⟩:=sT_ok t k hs hr;have hrt:=at_root ha;rw [show p + (sT t k).size - 1 = k by omega,List.getElem?_eq_getElem hk] at hrt;have hnd:=Option.some.inj hrt;have hft:∀ i j,i <= j -> FT T t k i j = gP T (sT t k) i j:=fun i j h=>FT_on h
 -- what part is handed
 have key:∀ (W:World) (gb gc:Nat),Ns W lv (t.nodes 0) -> R3 W (.slice (some ⟨gb,0,none⟩) (k + 1) gc) (k + 1) k (T.length + 1) (FT T t) -> ∃ nb no lc,lv = .slice (some ⟨nb,no,none⟩) (t.nodes 0).length lc /\ PW W nb no k ((sT t k).root p) gb (k + 1) gc (T.length + 1) (FT T t):=fun W gb gc hN hg=>by
  obtain ⟨ao,lc,hv,_⟩:=id hN;rw [hv] at hN;obtain ⟨b,o,e,hc⟩:=hN.at hk;subst e;rw [hnd] at hc;exact ⟨b,o,lc,hv,hc,hg⟩
 rw [hnd];generalize sT t k = x at *;cases x with
 | e =>
  refine Or.inl ⟨(show (0:Int) ≠ 6 from by decide),fun W gb gc i j hij hj hN hg=>?_⟩;obtain ⟨nb,no,lc,rfl,hP⟩:=key W gb gc hN hg;rw [hft i j hij];exact part_0 W nb no _ lc k hk z4 0 0 0 0 0 gb (k + 1) gc _ _ hP (by omega) T rfl i j hij hj (by omega)
 | set s =>
  refine Or.inl ⟨(show (1:Int) ≠ 6 from by decide),fun W gb gc i j hij hj hN hg=>?_⟩;obtain ⟨nb,no,lc,rfl,hP⟩:=key W gb gc hN hg;rw [hft i j hij];exact part_1 W nb no _ lc k hk s 0 0 0 0 0 gb (k + 1) gc _ _ hP (by omega) T rfl i j hij hj (by omega) hTo hsx
 | beg =>
  refine Or.inl ⟨(show (2:Int) ≠ 6 from by decide),fun W gb gc i j hij hj hN hg=>?_⟩;obtain ⟨nb,no,lc,rfl,hP⟩:=key W gb gc hN hg;rw [hft i j hij];exact part_2 W nb no _ lc k hk z4 0 0 0 0 0 gb (k + 1) gc _ _ hP (by omega) T rfl i j hij hj (by omega)
 | fin =>
  refine Or.inl ⟨(show (3:Int) ≠ 6 from by decide),fun W gb gc i j hij hj hN hg=>?_⟩;obtain ⟨nb,no,lc,rfl,hP⟩:=key W gb gc hN hg;rw [hft i j hij];exact part_3 W nb no _ lc k hk z4 0 0 0 0 0 gb (k + 1) gc _ _ hP (by omega) T rfl i j hij hj (by omega)
 | cat x y =>
  have e2:(Tr.cat x y).size = x.size + y.size + 1:=rfl;have h1:=size_pos x;have h2:=size_pos y;refine Or.inl ⟨(show (4:Int) ≠ 6 from by decide),fun W gb gc i j hij hj hN hg=>?_⟩;obtain ⟨nb,no,lc,rfl,hP⟩:=key W gb gc hN hg;rw [hft i j hij];refine part_4 W nb no _ lc k hk z4 (p + x.size - 1) (p + x.size + y.size - 1) 0 0 0 gb (k + 1) gc _ _ hP (by omega) T rfl i j hij hj (by omega) (by omega) (by omega) _ ?_;rw [gP];(refine any_range _ fun q hq=>?_);by_cases e3:i <= q
  · rw [FT_root (in_cat1 hin) e3,FT_root (in_cat2 hin) (show q <= j by omega)]
  · rw [decide_eq_false e3];simp
 | alt x y =>
  have e2:(Tr.alt x y).size = x.size + y.size + 1:=rfl;have h1:=size_pos x;have h2:=size_pos y;refine Or.inl ⟨(show (5:Int) ≠ 6 from by decide),fun W gb gc i j hij hj hN hg=>?_⟩;obtain ⟨nb,no,lc,rfl,hP⟩:=key W gb gc hN hg;rw [hft i j hij,gP,<- FT_root (in_alt1 hin) hij,<- FT_root (in_alt2 hin) hij];exact part_5 W nb no _ lc k hk z4 (p + x.size - 1) (p + x.size + y.size - 1) 0 0 0 gb (k + 1) gc _ _ hP (by omega) T rfl i j hij hj (by omega) (by omega) (by omega)
 | times mn mx x =>
  have e2:(Tr.times mn mx x).size = x.size + 1:=rfl;have h1:=size_pos x;refine Or.inr ⟨rfl,p + x.size - 1,by omega,rfl,fun i j hij hj=>?_⟩;rw [hft i j hij,gP];exact (stC_congr (fun q r h5 h6=>FT_root (in_times hin) h5) _ _ hij).symm
 | grp n x =>
  have e2:(Tr.grp n x).size = x.size + 1:=rfl;have h1:=size_pos x;refine Or.inl ⟨(show (7:Int) ≠ 6 from by decide),fun W gb gc i j hij hj hN hg=>?_⟩;obtain ⟨nb,no,lc,rfl,hP⟩:=key W gb gc hN hg;rw [hft i j hij,gP,<- FT_root (in_grp hin) hij];exact part_7 W nb no _ lc k hk z4 (p + x.size - 1) 0 0 0 n gb (k + 1) gc _ _ hP (by omega) T rfl i j hij hj (by omega) (by omega)
 | ref n=>cases hrx
end Go.Proofs.YtinallojhkaogaaGreatDoor.Mt
