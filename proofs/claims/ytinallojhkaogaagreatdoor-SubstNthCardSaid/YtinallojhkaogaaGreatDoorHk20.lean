/- The texts FnP FnW FnV FnI FnA FnF SnN7. -/
import Derived.Deep.LoopGhost
import Derived.Maps.OwnIn
import Derived.Test.YtinallojhkaogaaGreatDoorHk15
set_option linter.unusedVariables false
set_option linter.unusedSimpArgs false
set_option maxHeartbeats 6400000
set_option maxRecDepth 100000
namespace Go.Proofs.YtinallojhkaogaaGreatDoor.Fn
open Mt
def from0 (c:Caps):Nat:=match gr c 0 with
 | some (a,_)=>a
 | none=>0
def to0 (c:Caps):Nat:=match gr c 0 with
 | some (_,b)=>b
 | none=>0
structure FOk (N:Nat) (F:Nat -> Option Caps):Prop where
 caps:∀ i c,F i = some c -> CapsOk N c
 at0:∀ i c,F i = some c -> from0 c = i
 gr0:∀ i c,F i = some c -> gr c 0 = some (from0 c,to0 c)
 to:∀ i c,F i = some c -> from0 c <= to0 c /\ to0 c <= N
def upF (F:Nat -> Option Caps):Nat -> Nat -> Option Caps
 | _,0=>none
 | i,n + 1=>match F i with
  | some c=>some c
  | none=>upF F (i + 1) n
def firstF (F:Nat -> Option Caps) (N i:Nat):Option Caps:=upF F i (N + 1 - i)
theorem first_step (F:Nat -> Option Caps) {N i:Nat} (h:i <= N):firstF F N i = match F i with
  | some c=>some c
  | none=>firstF F N (i + 1):=by
 unfold firstF;rw [show N + 1 - i = (N + 1 - (i + 1)) + 1 by omega];rfl
theorem first_end (F:Nat -> Option Caps) {N i:Nat} (h:N < i):firstF F N i = none:=by
 unfold firstF;rw [show N + 1 - i = 0 by omega];rfl
theorem up_some {F:Nat -> Option Caps} {c:Caps}:∀ {n i:Nat},upF F i n = some c -> ∃ k,i <= k /\ k < i + n /\ F k = some c /\ ∀ r,i <= r -> r < k -> F r = none
 | 0,i,h=>by cases h
 | n + 1,i,h=>by
  unfold upF at h;cases hF:F i with
  | some d=>rw [hF] at h;cases h;exact ⟨i,Nat.le_refl _,by omega,hF,fun r h1 h2=>by omega⟩
  | none =>
   rw [hF] at h;obtain ⟨k,h1,h2,h3,h4⟩:=up_some h;refine ⟨k,by omega,by omega,h3,fun r h5 h6=>?_⟩;rcases Nat.lt_or_ge r (i + 1) with q | q
   · (obtain rfl:r = i:=by omega);exact hF
   · exact h4 r q h6
theorem first_some {F:Nat -> Option Caps} {N i:Nat} {c:Caps} (h:firstF F N i = some c):∃ k,i <= k /\ k <= N /\ F k = some c /\ ∀ r,i <= r -> r < k -> F r = none:=by
 obtain ⟨k,h1,h2,h3,h4⟩:=up_some h;exact ⟨k,h1,by omega,h3,h4⟩
theorem first_at {F:Nat -> Option Caps} {N i:Nat} {c:Caps} (hF:FOk N F) (h:firstF F N i = some c):i <= from0 c /\ F (from0 c) = some c /\ (∀ r,i <= r -> r < from0 c -> F r = none) /\ CapsOk N c /\ gr c 0 = some (from0 c,to0 c) /\ from0 c <= to0 c /\ to0 c <= N:=by
 obtain ⟨k,h1,h2,h3,h4⟩:=first_some h;have e:=hF.at0 k c h3;rw [e];exact ⟨h1,h3,h4,hF.caps k c h3,by rw [<- e];exact hF.gr0 k c h3,by rw [<- e];exact (hF.to k c h3).1,(hF.to k c h3).2⟩
def finF (F:Nat -> Option Caps) (N:Nat):Nat -> Nat -> Nat -> List Caps
 | 0,_,_=>[]
 | f + 1,la,i=>match firstF F N i with
  | none=>[]
  | some c=>if to0 c = from0 c /\ from0 c + 1 = la then finF F N f la la else c :: finF F N f (to0 c + 1) (to0 c)
def muF (N la i:Nat):Nat:=2 * (N + 1 - i) + (if la = i + 1 then 0 else 1)
def allF (F:Nat -> Option Caps) (N:Nat):List Caps:=finF F N (2 * (N + 1) + 1) 0 0
theorem mu_skip {F:Nat -> Option Caps} {N la i f:Nat} {c:Caps} (hF:FOk N F) (h:firstF F N i = some c) (hm:muF N la i <= f + 1) (hs:to0 c = from0 c /\ from0 c + 1 = la):muF N la la <= f:=by
 obtain ⟨h1,_,_,_,_,h2,h3⟩:=first_at hF h;unfold muF at hm ⊢;split at hm <;> split <;> omega
theorem mu_next {F:Nat -> Option Caps} {N la i f:Nat} {c:Caps} (hF:FOk N F) (h:firstF F N i = some c) (hm:muF N la i <= f + 1) (hs:¬ (to0 c = from0 c /\ from0 c + 1 = la)):muF N (to0 c + 1) (to0 c) <= f:=by
 obtain ⟨h1,_,_,_,_,h2,h3⟩:=first_at hF h;unfold muF at hm ⊢;rw [if_pos rfl];split at hm <;> omega
theorem fin_len (F:Nat -> Option Caps) (N:Nat):∀ f la i,(finF F N f la i).length <= f
 | 0,_,_=>Nat.le_refl _
 | f + 1,la,i=>by
  unfold finF;split
  · simp
  ·
   split
   · have:=fin_len F N f la la;omega
   · have:=fin_len F N f (to0 (by assumption) + 1) (to0 (by assumption));simp;omega
end Go.Proofs.YtinallojhkaogaaGreatDoor.Fn
namespace Go.Proofs.YtinallojhkaogaaGreatDoor.Mt
open Go.RowKit Go.Shelf
open Rx
open Go.Proofs.YtinallojhkaogaaGreatDoor.Fn
open St (Wf word mem)
def LongOk (w:World) (v:Value) (T:List UInt8) (F:Nat -> Option Caps):Prop:=∀ (W:World) (i:Nat),Below w.heap.size w W -> i <= T.length ->
 Calls Tryz.prog 16 #[v,S T,E (i:Nat)] W fun e w'=>e = .returned (ansC (F i)) /\ Below W.heap.size W w'
theorem LongOk.below {w w1:World} {v:Value} {T:List UInt8} {F:Nat -> Option Caps} (h:LongOk w v T F) (hb:Below w.heap.size w w1):LongOk w1 v T F:=fun W i hW hi=>h W i (hb.trans (hW.mono hb.size)) hi
def NoneOk:Prop:=∀ W:World,Calls Tryz.prog 26 #[] W fun e w'=>e = .returned (CV nones) /\ Below W.heap.size W w'
theorem first_from (hna:NoneOk) (v:Value) (T:List UInt8) (hT:T.length <= 100000) (F:Nat -> Option Caps) (w:World) (hlo:LongOk w v T F) (at0:Int) (s:Nat) (hs:(s = 0 /\ at0 < 0) \/ at0 = (s:Nat)) (hs2:at0 <= 9223372036854775807) (R:Option Caps) (hR:R = firstF F T.length s) :
  Calls Tryz.prog 68 #[v,S T,E at0] w fun e w'=>e = .returned (ansC R) /\ Below w.heap.size w w':=by
 have HZ:=Lib.hid (heap_alloc_new w (.cells CZ 34));have HB0:=Lib.hid ((Below.refl w.heap.size w).alloc (Nat.le_refl _) (.cells CZ 34));have HLO:=Lib.hid hlo;have HNA:=Lib.hid hna;have HRR:=Lib.hid hR;have HT:=Lib.hid hT;have hmx:(if (0:Int) <= at0 then at0 else 0) = (s:Int):=by
  rcases hs with ⟨h1,h2⟩ | h
  · rw [if_neg (by omega)];omega
  · rw [if_pos (by omega),h]
 (have hmx2:max at0 0 = (s:Int):=by omega);have HS:=Lib.hid (show (s:Int) <= 9223372036854775807 from by omega);clear hlo hR hT hs hs2 hna;go_enter Tryz.func68,Tryz.ntmps68;go_wp2;go_loopg [8] (T.length + 1 - s) (fun m kv wr=>∃ k:Nat,m = T.length + 1 - k /\ (k:Int) <= 9223372036854775807 /\ kv = .int .i64 (k:Nat) /\ Hid (R = firstF F T.length k) /\ Hid (Below w.heap.size w wr) /\ Hid (wr.heap[w.heap.size]? = some (.cells CZ 34 (0,0))));(case atStart=>exact ⟨s,rfl,HS.out,rfl,HRR,HB0,HZ⟩);case round =>
  clear HB0 HZ HRR;obtain ⟨k,hm,hk,rfl,HR,HB,HL⟩:=hrel;subst hm;by_cases hlt:k <= T.length
  ·
   (have hle:(k:Int) <= (T.length:Int):=by omega);(have hwk:IntKind.i64.wrap ((k:Int) + 1) = (k:Int) + 1:=by rw [IntKind.wrap_i64];have:=HT.out;omega);have HK:=Lib.hid hlt;have hst:=first_step F hlt;(have hloq:=fun (W:World) (hb:Below w.heap.size w W)=>HLO.out W k hb hlt);clear hlt hk;cases hF:F k with
   | none =>
    rw [hF] at hst hloq;have HST:=Lib.hid hst;have HLQ:=Lib.hid hloq;clear hst hloq;go_wp2_with (first
     | (go_at_call 16;refine (HLQ.out _ HB.out).mono ?_;rintro e w3 ⟨he,hb⟩;rw [show ansC none = .tuple #[CV nones,.bool false] from rfl] at he;subst he;have HB3:=Lib.hid (HB.out.trans (hb.mono HB.out.size));have HL3:=Lib.hid ((hb.block _ (lt_heap' HL.out)).trans HL.out);clear hb)
     | (refine stM 9 24 nones (heap_alloc_new _ _) ?_;rw [box_laid];have hbb:=(Below.refl w3.heap.size w3).alloc (Nat.le_refl _) (.cells (CC nones) 34);have HB4:=Lib.hid (HB3.out.trans (hbb.mono HB3.out.size));have HL4:=Lib.hid ((hbb.block _ (lt_heap' HL3.out)).trans HL3.out);clear hbb HB3 HL3;generalize World.alloc _ _ = W4 at HB4 HL4 ⊢))
    go_roundg (T.length - k);(case measure=>have:=HK.out;omega);case rel=>exact ⟨k + 1,by omega,by have:=HK.out;have:=HT.out;omega,by go_num,Lib.hid (by rw [HR.out,HST.out]),HB4,HL4⟩
   | some a1 =>
    rw [hF] at hst hloq;have HST:=Lib.hid hst;have HLQ:=Lib.hid hloq;clear hst hloq;go_wp2_with (first
     | (go_at_call 16;refine (HLQ.out _ HB.out).mono ?_;rintro e w3 ⟨he,hb⟩;rw [show ansC (some a1) = .tuple #[CV a1,.bool true] from rfl] at he;subst he;have HB3:=Lib.hid (HB.out.trans (hb.mono HB.out.size));have HL3:=Lib.hid ((hb.block _ (lt_heap' HL.out)).trans HL.out);clear hb)
     | (refine stM 9 24 a1 (heap_alloc_new _ _) ?_;rw [box_laid];have hbb:=(Below.refl w3.heap.size w3).alloc (Nat.le_refl _) (.cells (CC a1) 34);have HB4:=Lib.hid (HB3.out.trans (hbb.mono HB3.out.size));have HL4:=Lib.hid ((hbb.block _ (lt_heap' HL3.out)).trans HL3.out);have HX4:=Lib.hid (heap_alloc_new w3 (.cells (CC a1) 34));clear hbb HB3 HL3;generalize World.alloc _ _ = W4 at HB4 HL4 HX4 ⊢)
     | (refine ldM 9 HX4.out ?_)
     | (refine stM 6 27 a1 HL4.out ?_;have HRS:=Lib.hid (And.intro (setRow_heap _ _ _ (CC a1) _ _ HL4.out) (below_setRow (B:=w.heap.size) HB4.out (g:=w.heap.size) (Nat.le_refl _) (CC a1)));generalize World.setRow _ _ _ = W9 at HRS ⊢))
    refine bodyPost_ret (res_caps rfl rfl HRS.out.1 rfl) rfl ?_;refine ⟨?_,HRS.out.2⟩;rw [HR.out,HST.out];rfl
  ·
   (have hle:¬ (k:Int) <= (T.length:Int):=by omega);have HEND:=Lib.hid (first_end F (show T.length < k from by omega));clear hlt hk;go_wp2_with (first
    | (go_at_call 26;refine (HNA.out _).mono ?_;rintro e w8 ⟨rfl,hb⟩;have HB8:=Lib.hid (HB.out.trans (hb.mono HB.out.size));have HR8:=Lib.hid ((hb.block _ (lt_heap' HL.out)).trans HL.out);clear hb)
    | (refine stM 6 28 nones HR8.out ?_;have HRS:=Lib.hid (And.intro (setRow_heap _ _ _ (CC nones) _ _ HR8.out) (below_setRow (B:=w.heap.size) HB8.out (g:=w.heap.size) (Nat.le_refl _) (CC nones)));generalize World.setRow _ _ _ = W9 at HRS ⊢))
   refine bodyPost_ret (res_caps rfl rfl HRS.out.1 rfl) rfl ?_;refine ⟨?_,HRS.out.2⟩;rw [HR.out,HEND.out];rfl
theorem first_any (hna:NoneOk) (v:Value) (T:List UInt8) (hT:T.length <= 100000) (F:Nat -> Option Caps) (w:World) (hlo:LongOk w v T F) (at0:Int) (h2:at0 <= 9223372036854775807) (R:Option Caps) (hR:R = firstF F T.length at0.toNat) :
  Calls Tryz.prog 68 #[v,S T,E at0] w fun e w'=>e = .returned (ansC R) /\ Below w.heap.size w w' :=
 first_from hna v T hT F w hlo at0 at0.toNat (by omega) h2 R hR
theorem has_any (hna:NoneOk) (v:Value) (T:List UInt8) (hT:T.length <= 100000) (F:Nat -> Option Caps) (w:World) (hlo:LongOk w v T F) (R:Bool) (hR:R = (firstF F T.length 0).isSome) :
  Calls Tryz.prog 40 #[v,S T] w fun e w'=>e = .returned (.bool R) /\ Below w.heap.size w w':=by
 have HF:=Lib.hid (first_from hna v T hT F w hlo 0 0 (Or.inr rfl) (by decide) _ rfl);have HRR:=Lib.hid hR;clear hna hT hlo hR;generalize firstF F T.length 0 = q at *;cases q with
 | none =>
  go_enter Tryz.func40,Tryz.ntmps40;go_wp2_with (first
   | (go_at_call 68;refine HF.out.mono ?_;rintro e w3 ⟨he,hb⟩;rw [show ansC none = .tuple #[CV nones,.bool false] from rfl] at he;subst he;have HB3:=Lib.hid hb;clear hb)
   | (refine stM 5 11 nones (heap_alloc_new _ _) ?_;rw [box_laid];have HB4:=Lib.hid (HB3.out.alloc HB3.out.size (.cells (CC nones) 34));generalize World.alloc _ _ = W4 at HB4 ⊢))
  go_ret;exact ⟨by rw [HRR.out];rfl,HB4.out⟩
 | some a1 =>
  go_enter Tryz.func40,Tryz.ntmps40;go_wp2_with (first
   | (go_at_call 68;refine HF.out.mono ?_;rintro e w3 ⟨he,hb⟩;rw [show ansC (some a1) = .tuple #[CV a1,.bool true] from rfl] at he;subst he;have HB3:=Lib.hid hb;clear hb)
   | (refine stM 5 11 a1 (heap_alloc_new _ _) ?_;rw [box_laid];have HB4:=Lib.hid (HB3.out.alloc HB3.out.size (.cells (CC a1) 34));generalize World.alloc _ _ = W4 at HB4 ⊢))
  go_ret;exact ⟨by rw [HRR.out];rfl,HB4.out⟩
open Sp Fl
theorem len_cap {N:Nat} (hN:N <= 999999999) {i j:Nat} (h:CapOk N (some (i,j))) (w:World):Calls Tryz.prog 70 #[capV (some (i,j))] w fun e w'=>e = .returned (E ((j - i:Nat):Int)) /\ w = w':=by
 have:=Sp.len_any (fi i) (fi j) w;obtain ⟨_,e1,e2,_⟩:=fi_in (inB_of (a:=(i:Int)) (b:=(j:Int)) (by omega) (by have:=h.1;omega) (by have:=h.2;omega));rw [e1,e2,show (j:Int) - (i:Int) = ((j - i:Nat):Int) from by have:=h.1;omega] at this;exact this
attribute [local go_sem] Oper.semAt_some
section
variable {F:Fence} {n:Nat} {P:Program} {ops:Array Oper} {Q:Exit -> Act -> World -> Prop} {a:Act} {w:World} {rest:List Oper} {o:Oper}
theorem inStore_row (hgd:o.guard = none) (ty:TypeId) (x y:Operand) (ho:o.op = .store ty x y)
  (g:Nat) (cells:Array Value) (hx:a.eval x = .pointer (some ⟨g,0,none⟩)) (hy:a.eval y = .agg cells)
  (t:TypeId) (old:Array Value) (hg:w.heap[g]? = some (.cells old t (0,0))) (hi:(P.info? ty).map (·.size) = some cells.size)
  (hold:old.size = cells.size) (h1:cells.all (·.oneCell') = true)
  (h:wpListIn F n P ops Q rest (a.put o.dst undef) (w.setRow g cells)):wpListIn F n P ops Q (o :: rest) a w:=by
 (refine wpListIn_plain hgd fun K hK=>?_);unfold Oper.wpIn;refine ⟨by simp [Oper.about,ho],?_⟩;rw [Oper.semAt_plain F _ _ (by rw [ho];intro c hc';cases hc')];unfold execOp;simp only [ho,hx,hy,Instr.storeAt,Instr.sureAddr,Sem.run_bind,Sem.run_pure,Result.andThen_ok,run_storeVar_row w g t ty old cells hg hi hold h1];exact hK _ _ h
theorem inLoad_row (hgd:o.guard = none) (ty:TypeId) (x:Operand) (ho:o.op = .load ty x)
  (g:Nat) (hx:a.eval x = .pointer (some ⟨g,0,none⟩)) (t:TypeId) (cs:Array Value) (fr:Nat × Nat) (d:TypeDesc) (hg:w.heap[g]? = some (.cells cs t fr))
  (hu:P.underlying ty = some d) (hd:(match d with | .struct _ | .array _ _=>true | _=>false) = true) (hi:(P.info? ty).map (·.size) = some cs.size)
  (h:wpListIn F n P ops Q rest (a.put o.dst (.agg cs)) w):wpListIn F n P ops Q (o :: rest) a w:=by
 (refine wpListIn_plain hgd fun K hK=>?_);unfold Oper.wpIn;refine ⟨by simp [Oper.about,ho],?_⟩;rw [Oper.semAt_plain F _ _ (by rw [ho];intro c hc';cases hc')];unfold execOp;simp only [ho,hx,Instr.loadAt,Instr.sureAddr,Sem.run_bind,Sem.run_pure,Result.andThen_ok,run_loadVar_row w g t ty cs fr d hg hu hd hi];exact hK _ _ h
end
theorem grown_none {W W':World} (hb:Below W.heap.size W W'):W.grownBy W' none:=⟨hb.os,hb.tape,hb.output,hb.size,fun k hk _=>hb.block k hk⟩
def dl (a b:Int):Nat:=if a = b then 0 else 1
theorem dl_le (a b:Int):dl a b <= 1:=by unfold dl;split <;> omega
theorem dl_self (a:Int):dl a a = 0:=by unfold dl;rw [if_pos rfl]
theorem dl_ne {a b:Int} (h:a ≠ b):dl a b = 1:=by unfold dl;rw [if_neg h]
theorem finds_stops (hna:NoneOk) (n:Nat) (hn:2 <= n) (ao:Option Addr) (nn cc:Nat) (T:List UInt8) (hT:T.length <= 100000) (F:Nat -> Option Caps) (hF:FOk T.length F) (bt bl:Nat) (w:World) (Kp:World -> World -> Prop) (Ft:World -> Prop)
  (hfact:∀ W,Below w.heap.size w W -> Ft W) (hFb:∀ W W',Ft W -> Below W.heap.size W W' -> Ft W') (hFK:∀ W W',Kp W W' -> Ft W -> Ft W')
  (hFt:∀ W,Ft W -> LongOk W (.slice ao nn cc) T F /\ Boxed W bt 9 (S T) /\ Boxed W bl 22 (.slice ao nn cc))
  (hnew:∀ W (cs:Array Value) W',Ft W -> Kp (W.alloc (.cells cs 34)) W' -> W'.heap[W.heap.size]? = some (.cells cs 34 (0,0))) :
  SeqStopsK Fence.wide n Tryz.prog 69 #[PT bt,PT bl] (fun c:Caps=>#[CV c]) Kp (fun xs=>xs = allF F T.length) (fun _=>True) (2 * (T.length + 1) + 1) w:=fun l J Jx W hW hJ hJx hY h0=>by
 have HFT0:=Lib.hid (hfact W hW);have HJ0:=Lib.hid h0;have HT:=Lib.hid hT;have HFO:=Lib.hid hF;have HJA:=Lib.hid hJ;have HYL:=Lib.hid hY;have HFB:=Lib.hid hFb;have HFK:=Lib.hid hFK;have HFT:=Lib.hid hFt;have HNW:=Lib.hid hnew;clear hfact h0 hT hF hJ hY hFb hFK hFt hnew hJx;refine callsIn_of_wp Tryz.func69 rfl trivial ?_ rfl;simp only [Tryz.ntmps69,List.size_toArray,List.length_cons,List.length_nil,Nat.reduceAdd,Nat.reduceSub,Array.replicate_succ,Array.replicate_zero,List.push_toArray,List.append_toArray,List.nil_append,List.cons_append];gi_wp2
 gi_loopw [4,5] (fun lv iv wr=>∃ la i f:Nat,lv = .int .i64 ((la:Int) - 1) /\ iv = .int .i64 (i:Nat) /\ la <= T.length + 1 /\ i <= T.length + 1 /\ muF T.length la i <= f /\ Hid (Ft wr) /\ ∃ pre:List Caps,Hid (pre ++ finF F T.length f la i = allF F T.length) /\ Hid (J pre wr)) (fun lv iv _=>2 * (T.length + 1 - (intOf iv).toNat) + dl (intOf lv) (intOf iv))
 (case atStart=>exact ⟨0,0,2 * (T.length + 1) + 1,rfl,rfl,by omega,by omega,by unfold muF;split <;> omega,HFT0,[],Lib.hid rfl,HJ0⟩);case round =>
  clear HFT0 HJ0;obtain ⟨la,i,f,rfl,rfl,hla,hi,hmu,HF,pre,HP,HJ⟩:=hrel;have HMU:=Lib.hid hmu;have HLA:=Lib.hid hla;obtain ⟨hlo,ht1,ht2⟩:=HFT.out _ HF.out;have c1:=ht1.cell;have c2:=ht2.cell;have HLO:=Lib.hid hlo;clear hlo ht1 ht2;by_cases hlt:i <= T.length
  ·
   obtain ⟨f,rfl⟩:∃ f',f = f' + 1:=⟨f - 1,by unfold muF at hmu;omega⟩;have hst:finF F T.length (f + 1) la i = match firstF F T.length i with
     | none=>[]
     | some c=>if to0 c = from0 c /\ from0 c + 1 = la then finF F T.length f la la else c :: finF F T.length f (to0 c + 1) (to0 c):=rfl
   (have hle:(i:Int) <= (T.length:Int):=by omega);have HLT:=Lib.hid hlt;clear hlt hla hi hmu;cases hR:firstF F T.length i with
   | none =>
    rw [hR] at hst;have HST:=Lib.hid hst;have HFI:=Lib.hid (first_from hna (.slice ao nn cc) T HT.out F _ HLO.out (i:Nat) i (Or.inr rfl) (by have:=HLT.out;have:=HT.out;omega) none hR.symm);clear hst hR HLO;gi_wp2;refine ⟨trivial,fun h=>(by cases h),?_⟩;refine (callsIn_wide.2 HFI.out).mono ?_;rintro e w3 ⟨he,hb⟩;rw [show ansC none = .tuple #[CV nones,.bool false] from rfl] at he;subst he;have HJ3:=Lib.hid (HJA.out _ _ _ none HJ.out (grown_none hb) (by simp));clear c1 c2 hb
    gi_wp2_with (refine inStore_row rfl 34 (.tmp 6) (.tmp 17) rfl _ (CC nones) rfl rfl _ CZ (heap_alloc_new _ _) (by kernel_rfl) rfl (cc_one nones) ?_;simp only [Act.put,List.setIfInBounds_toArray,List.set_cons_zero,List.set_cons_succ];rw [box_laid];have HJ4:=Lib.hid (HJA.out _ _ _ none HJ3.out (World.grownBy_alloc _ (.cells (CC nones) 34) none) (by simp));clear HJ3;generalize World.alloc _ _ = W4 at HJ4 ⊢)
    refine bodyPost_ret (results_none rfl _ _ _) rfl ?_;refine ⟨⟨_,rfl⟩,.inl ⟨_,?_,HJ4.out⟩⟩;have:=HP.out;rw [HST.out,List.append_nil] at this;exact this
   | some c =>
    rw [hR] at hst;have HST:=Lib.hid hst;have HFI:=Lib.hid (first_from hna (.slice ao nn cc) T HT.out F _ HLO.out (i:Nat) i (Or.inr rfl) (by have:=HLT.out;have:=HT.out;omega) (some c) hR.symm);have HMS:=Lib.hid (fun q=>mu_skip HFO.out hR HMU.out q);have HMN:=Lib.hid (fun q=>mu_next HFO.out hR HMU.out q);obtain ⟨g1,g2,g3,hcaps,hgr,g4,g5⟩:=first_at HFO.out hR;have HAT:=Lib.hid (show i <= from0 c /\ from0 c <= to0 c /\ to0 c <= T.length from ⟨g1,g4,g5⟩);(have hok:CapOk T.length (some (from0 c,to0 c)):=by rw [<- hgr];exact hcaps.at 0);have HN9:=Lib.hid (show T.length <= 999999999 from by have:=HT.out;omega);have HGR:=Lib.hid hgr;have HLEN:=Lib.hid (fun W=>len_cap HN9.out hok W);have HFRM:=Lib.hid (fun W=>from_cap HN9.out hok W);have HTO:=Lib.hid (fun W=>to_cap HN9.out hok W);clear g1 g2 g3 hcaps hgr g4 g5 hok hst hR HLO;have hst2:=HST.out;have hms2:=HMS.out;have hmn2:=HMN.out;have hat2:=HAT.out;have hgr2:=HGR.out;have hl2:=HLEN.out;have hf2:=HFRM.out;have ht2:=HTO.out;clear HST HMS HMN HAT HGR HLEN HFRM HTO;obtain ⟨A,hA⟩:∃ A,from0 c = A:=⟨_,rfl⟩;obtain ⟨B,hB⟩:∃ B,to0 c = B:=⟨_,rfl⟩;simp only [hA,hB] at hst2 hms2 hmn2 hat2 hgr2 hl2 hf2 ht2;have HST:=Lib.hid hst2;have HMS:=Lib.hid hms2;have HMN:=Lib.hid hmn2;have HAT:=Lib.hid hat2;have HGR:=Lib.hid hgr2;have HLEN:=Lib.hid hl2;have HFRM:=Lib.hid hf2;have HTO:=Lib.hid ht2;clear hA hB hst2 hms2 hmn2 hat2 hgr2 hl2 hf2 ht2;gi_wp2;refine ⟨trivial,fun h=>(by cases h),?_⟩;refine (callsIn_wide.2 HFI.out).mono ?_;rintro e w3 ⟨he,hb⟩;rw [show ansC (some c) = .tuple #[CV c,.bool true] from rfl] at he;subst he;have HJ3:=Lib.hid (HJA.out _ _ _ none HJ.out (grown_none hb) (by simp));have HF3:=Lib.hid (HFB.out _ _ HF.out hb);clear c1 c2 hb;(have hwl:IntKind.i64.wrap ((la:Int) - 1 + 1) = (la:Int):=by rw [IntKind.wrap_i64];have:=HLA.out;have:=HT.out;omega);(have hwl2:IntKind.i64.wrap (la:Int) = (la:Int):=by rw [IntKind.wrap_i64];have:=HLA.out;have:=HT.out;omega);by_cases hsk:B = A /\ A + 1 = la
    ·
     (have hz:(((B - A:Nat):Int) == 0) = true:=by rw [beq_iff_eq];omega);(have hq:((A:Int) == (la:Int) - 1) = true:=by rw [beq_iff_eq];omega);have HSK:=Lib.hid hsk;clear hsk
     gi_wp2_with (refine inStore_row rfl 34 (.tmp 6) (.tmp 17) rfl _ (CC c) rfl rfl _ CZ (heap_alloc_new _ _) (by kernel_rfl) rfl (cc_one c) ?_;simp only [Act.put,List.setIfInBounds_toArray,List.set_cons_zero,List.set_cons_succ];rw [box_laid];have HJ4:=Lib.hid (HJA.out _ _ _ none HJ3.out (World.grownBy_alloc _ (.cells (CC c) 34) none) (by simp));have HF4:=Lib.hid (HFB.out _ _ HF3.out ((Below.refl _ _).alloc (Nat.le_refl _) (.cells (CC c) 34)));have HX4:=Lib.hid (heap_alloc_new w3 (.cells (CC c) 34));have HNK:=Lib.hid (fun W'=>HNW.out w3 (CC c) W' HF3.out);generalize World.alloc _ _ = W4 at HJ4 HF4 HX4 HNK ⊢;have cx:=cap_cell HX4.out (n:=0) (by decide);rw [HGR.out] at cx)
     refine ⟨trivial,fun h=>(by cases h),?_⟩;refine (callsIn_wide.2 (HLEN.out _)).mono ?_;rintro e w5 ⟨rfl,rfl⟩;gi_wp2;refine ⟨trivial,fun h=>(by cases h),?_⟩;refine (callsIn_wide.2 (HFRM.out _)).mono ?_;rintro e w5 ⟨rfl,rfl⟩;gi_wp2;go_roundw;(case rel=>exact ⟨la,la,f,rfl,rfl,HLA.out,HLA.out,HMS.out HSK.out,HF4,pre,Lib.hid (by rw [<- HP.out,HST.out,if_pos HSK.out]),HJ4⟩);case measure =>
      have:=HAT.out;have:=HLT.out;have:=HSK.out;simp only [intOf,Int.toNat_natCast];have h1:=dl_le ((la:Int) - 1) (la:Int);omega
    ·
     have hno:=hsk;have HLN:=Lib.hid (show pre.length < 2 * (T.length + 1) + 1 from by
      have h1:=fin_len F T.length (2 * (T.length + 1) + 1) 0 0;have h2:=congrArg List.length HP.out;rw [HST.out,if_neg hno,List.length_append,List.length_cons] at h2;unfold allF at h2;omega)
     by_cases he:B = A
     ·
      (have hz:(((B - A:Nat):Int) == 0) = true:=by rw [beq_iff_eq];omega);(have hq:((A:Int) == (la:Int) - 1) = false:=by rw [beq_eq_false_iff_ne];omega);clear hsk he
      gi_wp2_with (refine inStore_row rfl 34 (.tmp 6) (.tmp 17) rfl _ (CC c) rfl rfl _ CZ (heap_alloc_new _ _) (by kernel_rfl) rfl (cc_one c) ?_;simp only [Act.put,List.setIfInBounds_toArray,List.set_cons_zero,List.set_cons_succ];rw [box_laid];have HJ4:=Lib.hid (HJA.out _ _ _ none HJ3.out (World.grownBy_alloc _ (.cells (CC c) 34) none) (by simp));have HF4:=Lib.hid (HFB.out _ _ HF3.out ((Below.refl _ _).alloc (Nat.le_refl _) (.cells (CC c) 34)));have HX4:=Lib.hid (heap_alloc_new w3 (.cells (CC c) 34));have HNK:=Lib.hid (fun W'=>HNW.out w3 (CC c) W' HF3.out);generalize World.alloc _ _ = W4 at HJ4 HF4 HX4 HNK ⊢;have cx:=cap_cell HX4.out (n:=0) (by decide);rw [HGR.out] at cx)
      refine ⟨trivial,fun h=>(by cases h),?_⟩;refine (callsIn_wide.2 (HLEN.out _)).mono ?_;rintro e w5 ⟨rfl,rfl⟩;gi_wp2;refine ⟨trivial,fun h=>(by cases h),?_⟩;refine (callsIn_wide.2 (HFRM.out _)).mono ?_;rintro e w5 ⟨rfl,rfl⟩;obtain ⟨fn,tmps,assign,body,hy,hYR⟩:=HYL.out pre c W4 HJ4.out HLN.out
      gi_wp2_with (refine inLoad_row rfl 34 (.tmp 6) rfl w3.heap.size rfl _ (CC c) (0,0) _ HX4.out Tryz.underlying34 rfl (by kernel_rfl) ?_;simp only [Act.put,List.setIfInBounds_toArray,List.set_cons_zero,List.set_cons_succ])
      refine ⟨fun h=>(by cases h),hYR.mono ?_⟩;clear hy hYR;rintro e W' (⟨rfl,hJ',hk'⟩ | ⟨rfl,hJx'⟩)
      ·
       have HF5:=Lib.hid (HFK.out _ _ hk' HF4.out);have hx5:=cap_cell (HNK.out _ hk') (n:=0) (by decide);rw [HGR.out] at hx5;have HJ5:=Lib.hid hJ';clear cx hJ' hk';gi_wp2;refine ⟨trivial,fun h=>(by cases h),?_⟩;refine (callsIn_wide.2 (HTO.out _)).mono ?_;rintro e w5 ⟨rfl,rfl⟩;gi_wp2;go_roundw;(case rel=>exact ⟨B + 1,B,f,by rw [show (((B + 1:Nat):Int) - 1) = (B:Int) from by omega],rfl,by have:=HAT.out;omega,by have:=HAT.out;omega,HMN.out hno,HF5,pre ++ [c],Lib.hid (by rw [<- HP.out,HST.out,if_neg hno];simp),HJ5⟩);case measure =>
        have:=HAT.out;have:=HLT.out;simp only [intOf,Int.toNat_natCast];rw [dl_self];by_cases hla:(la:Int) - 1 = (i:Int)
        · omega
        · rw [dl_ne hla];omega
      · clear cx;gi_wp2;refine bodyPost_ret (results_none rfl _ _ _) rfl ?_;exact ⟨⟨_,rfl⟩,.inr ⟨_,trivial,hJx'⟩⟩
     ·
      (have hz:(((B - A:Nat):Int) == 0) = false:=by rw [beq_eq_false_iff_ne];have:=HAT.out;omega);clear hsk he
      gi_wp2_with (refine inStore_row rfl 34 (.tmp 6) (.tmp 17) rfl _ (CC c) rfl rfl _ CZ (heap_alloc_new _ _) (by kernel_rfl) rfl (cc_one c) ?_;simp only [Act.put,List.setIfInBounds_toArray,List.set_cons_zero,List.set_cons_succ];rw [box_laid];have HJ4:=Lib.hid (HJA.out _ _ _ none HJ3.out (World.grownBy_alloc _ (.cells (CC c) 34) none) (by simp));have HF4:=Lib.hid (HFB.out _ _ HF3.out ((Below.refl _ _).alloc (Nat.le_refl _) (.cells (CC c) 34)));have HX4:=Lib.hid (heap_alloc_new w3 (.cells (CC c) 34));have HNK:=Lib.hid (fun W'=>HNW.out w3 (CC c) W' HF3.out);generalize World.alloc _ _ = W4 at HJ4 HF4 HX4 HNK ⊢;have cx:=cap_cell HX4.out (n:=0) (by decide);rw [HGR.out] at cx)
      refine ⟨trivial,fun h=>(by cases h),?_⟩;refine (callsIn_wide.2 (HLEN.out _)).mono ?_;rintro e w5 ⟨rfl,rfl⟩;gi_wp2;refine ⟨trivial,?_⟩;obtain ⟨fn,tmps,assign,body,hy,hYR⟩:=HYL.out pre c W4 HJ4.out HLN.out
      gi_wp2_with (refine inLoad_row rfl 34 (.tmp 6) rfl w3.heap.size rfl _ (CC c) (0,0) _ HX4.out Tryz.underlying34 rfl (by kernel_rfl) ?_;simp only [Act.put,List.setIfInBounds_toArray,List.set_cons_zero,List.set_cons_succ])
      refine ⟨fun h=>(by cases h),hYR.mono ?_⟩;clear hy hYR;rintro e W' (⟨rfl,hJ',hk'⟩ | ⟨rfl,hJx'⟩)
      ·
       have HF5:=Lib.hid (HFK.out _ _ hk' HF4.out);have hx5:=cap_cell (HNK.out _ hk') (n:=0) (by decide);rw [HGR.out] at hx5;have HJ5:=Lib.hid hJ';clear cx hJ' hk';gi_wp2;refine ⟨trivial,fun h=>(by cases h),?_⟩;refine (callsIn_wide.2 (HTO.out _)).mono ?_;rintro e w5 ⟨rfl,rfl⟩;gi_wp2;go_roundw;(case rel=>exact ⟨B + 1,B,f,by rw [show (((B + 1:Nat):Int) - 1) = (B:Int) from by omega],rfl,by have:=HAT.out;omega,by have:=HAT.out;omega,HMN.out hno,HF5,pre ++ [c],Lib.hid (by rw [<- HP.out,HST.out,if_neg hno];simp),HJ5⟩);case measure =>
        have:=HAT.out;have:=HLT.out;simp only [intOf,Int.toNat_natCast];rw [dl_self];by_cases hla:(la:Int) - 1 = (i:Int)
        · omega
        · rw [dl_ne hla];omega
      · clear cx;gi_wp2;refine bodyPost_ret (results_none rfl _ _ _) rfl ?_;exact ⟨⟨_,rfl⟩,.inr ⟨_,trivial,hJx'⟩⟩
  ·
   (have hle:¬ (i:Int) <= (T.length:Int):=by omega);have HEND:=Lib.hid (show finF F T.length f la i = [] from by
    cases f with
    | zero=>rfl
    | succ f=>unfold finF;rw [first_end F (by omega)])
   clear hlt hla hi hmu HLO;gi_wp2;go_end0;have hp:=HP.out;rw [HEND.out,List.append_nil] at hp;exact ⟨⟨_,rfl⟩,.inl (by rw [<- hp];exact HJ.out)⟩
attribute [local go_sem] Oper.semAt_some
def flC (l:List Caps):List Value:=l.flatMap fun c=>(CC c).toList
theorem flC_append (l m:List Caps):flC (l ++ m) = flC l ++ flC m:=by unfold flC;rw [List.flatMap_append]
theorem flC_one (c:Caps):flC [c] = (CC c).toList:=by simp [flC]
theorem infoC:(Tryz.prog.info? 34).map (fun i=>(i.zero,i.size,i.bytes)) = some (some (.agg CZ),10,160):=by kernel_rfl
theorem boxed_one {W:World} {B:Nat} {t:TypeId} {v v':Value} (h:Boxed W B t v) (h':Boxed W B t v'):v = v':=by
 have:=(show W.heap[B]? = _ from h).symm.trans h';simpa using this
structure Kc (n0 B:Nat) (W W':World):Prop where
 bel:Below n0 W W'
 row:∀ v,Boxed W B 25 v -> (∀ k o,W.heap[k]? = some o -> o.isCells = true -> k ≠ B -> some k ≠ v.ownBlock -> W'.heap[k]? = some o) /\
  ∃ v',Boxed W' B 25 v' /\ ∀ g,v'.ownBlock = some g -> v.ownBlock = some g \/ (W.heap.size <= g /\ g < W'.heap.size)
theorem Kc.trans {n0 B:Nat} {X Y Z:World} (h:Kc n0 B X Y) (k:Kc n0 B Y Z):Kc n0 B X Z:=by
 refine ⟨h.bel.trans k.bel,fun v hv=>?_⟩;obtain ⟨h1,v',h2,h3⟩:=h.row v hv;obtain ⟨k1,v'',k2,k3⟩:=k.row v' h2;refine ⟨fun i o hi ho hB hn=>k1 i o (h1 i o hi ho hB hn) ho hB (fun e=>?_),v'',k2,fun g hg=>?_⟩
 ·
  rcases h3 i e.symm with q | ⟨q,_⟩
  · exact hn q.symm
  · have:=lt_heap' hi;omega
 ·
  rcases k3 g hg with q | ⟨q1,q2⟩
  ·
   rcases h3 g q with r | ⟨r1,r2⟩
   · exact .inl r
   · exact .inr ⟨r1,Nat.lt_of_lt_of_le r2 k.bel.size⟩
  · exact .inr ⟨Nat.le_trans h.bel.size q1,q2⟩
theorem Kc.of_below {n0 B:Nat} {W W':World} (h0:n0 <= W.heap.size) (h:Below W.heap.size W W'):Kc n0 B W W' :=
 ⟨h.mono h0,fun v hv=>⟨fun k o hk _ _ _=>(h.block k (lt_heap' hk)).trans hk,v,(h.block B hv.lt).trans hv,fun g hg=>.inl hg⟩⟩
theorem Kc.putObj {n0 B:Nat} {w:World} (hn:n0 <= w.heap.size) (W:World) (l:Nat) (o o':Obj) (hl:w.heap.size <= l) (h:W.heap[l]? = some o) (hc:o.isCells = false) (hw:o.isWalk = false):Kc n0 B W (W.putObj l o'):=by
 refine ⟨belowK_b hn W l o o' hl h hc hw,fun v hv=>⟨fun k x hk hx _ _=>?_,v,?_,fun g hg=>.inl hg⟩⟩
 · (have hne:l ≠ k:=by rintro rfl;rw [h] at hk;cases hk;rw [hc] at hx;cases hx);exact (World.putObj_heap_other (Ne.symm hne)).trans hk
 · (have hne:l ≠ B:=by rintro rfl;rw [show W.heap[l]? = _ from hv] at h;cases h;cases hc);exact (World.putObj_heap_other (Ne.symm hne)).trans hv
structure Fc (w:World) (v:Value) (T:List UInt8) (W:World):Prop where
 bel:Below w.heap.size w W
 t:Boxed W (w.heap.size + 1 + 1) 9 (S T)
 l:Boxed W (w.heap.size + 1) 22 v
 o:∃ x,Boxed W w.heap.size 25 x /\ ∀ g,x.ownBlock = some g -> g < W.heap.size /\ g ≠ w.heap.size + 1 /\ g ≠ w.heap.size + 1 + 1
theorem Fc.below {w:World} {v:Value} {T:List UInt8} {W W':World} (h:Fc w v T W) (hb:Below W.heap.size W W'):Fc w v T W':=by
 obtain ⟨x,h1,h2⟩:=h.o;exact ⟨h.bel.trans (hb.mono h.bel.size),(hb.block _ h.t.lt).trans h.t,(hb.block _ h.l.lt).trans h.l,x,(hb.block _ h1.lt).trans h1,fun g hg=>⟨Nat.lt_of_lt_of_le (h2 g hg).1 hb.size,(h2 g hg).2⟩⟩
theorem Fc.kept {w:World} {v:Value} {T:List UInt8} {W W':World} (h:Fc w v T W) (hk:Kc w.heap.size w.heap.size W W'):Fc w v T W':=by
 obtain ⟨x,h1,h2⟩:=h.o;obtain ⟨k1,x',k2,k3⟩:=hk.row x h1;refine ⟨h.bel.trans hk.bel,k1 _ _ h.t rfl (by omega) (fun e=>(h2 _ e.symm).2.2 rfl),k1 _ _ h.l rfl (by omega) (fun e=>(h2 _ e.symm).2.1 rfl),x',k2,fun g hg=>?_⟩;rcases k3 g hg with q | ⟨q1,q2⟩
 · exact ⟨Nat.lt_of_lt_of_le (h2 g q).1 hk.bel.size,(h2 g q).2⟩
 · have:=h.t.lt;exact ⟨q2,by omega,by omega⟩
theorem Fc.fresh {w:World} {v:Value} {T:List UInt8} {W W':World} {cs:Array Value} (h:Fc w v T W) (hk:Kc w.heap.size w.heap.size (W.alloc (.cells cs 34)) W'):W'.heap[W.heap.size]? = some (.cells cs 34 (0,0)):=by
 obtain ⟨x,h1,h2⟩:=h.o;refine (hk.row x (h1.alloc _)).1 _ _ (heap_alloc_new W _) rfl (by have:=h1.lt;omega) (fun e=>?_);have:=(h2 _ e.symm).1;omega
theorem boxed_from {β:Type} {B k:Nat} {t:TypeId} {v:Value}:OwnFrom B (fun (_:β) W=>Boxed W k t v):=fun s X Y row hv hg hr=>hv.kept hg (fun e=>by
 obtain ⟨_,o,ho,hc⟩:=hr k e.symm;rw [show X.heap[k]? = _ from hv] at ho;cases ho;cases hc)
theorem cells_from {β:Type} {B k:Nat} {cs:Array Value} {t:TypeId}:OwnFrom B (fun (_:β) W=>W.heap[k]? = some (.cells cs t (0,0))):=fun s X Y row hv hg hr=>(hg.block k (lt_heap' hv) (fun e=>by
 obtain ⟨_,o,ho,hc⟩:=hr k e.symm;rw [hv] at ho;cases ho;cases hc)).trans hv
theorem fc_start (w:World) (v:Value) (T:List UInt8):Fc w v T (((w.alloc (.cells #[.slice none 0 0] 25)).alloc (.cells #[v] 22)).alloc (.cells #[S T] 9)):=by
 have b0:=Boxed.new w 25 (.slice none 0 0);have b1:=Boxed.new (w.alloc (.cells #[.slice none 0 0] 25)) 22 v;have b2:=Boxed.new ((w.alloc (.cells #[.slice none 0 0] 25)).alloc (.cells #[v] 22)) 9 (S T);rw [World.size_alloc] at b1;rw [World.size_alloc,World.size_alloc] at b2;refine ⟨(((Below.refl _ w).alloc (Nat.le_refl _) _).alloc (by simp) _).alloc (by simp;omega) _,b2,b1.alloc _,.slice none 0 0,(b0.alloc _).alloc _,fun g hg=>by cases hg⟩
theorem results_box {fn:Func} {p:Tmp} {ty:TypeId} (h:fn.results = #[.cell p ty]) {tmps:Array Value} {w:World} {B n cap:Nat} {ao:Option Addr} (hp:tmps.getD p undef = PT B) (hv:Boxed w B ty (.slice ao n cap)) (hty:ty = 25) :
  (results fn tmps).run Tryz.prog w = .ok (.slice ao n cap) w:=by
 subst hty;have hc:=hv.cell;(have hp':tmps[p]?.getD undef = PT B:=by simpa using hp);simp only [results,h];simp [hp',asAddr];go_simp
theorem kc_append {n0 B:Nat} {W w1:World} {v v':Value} {tmp:Obj} (hv:Boxed W B 25 v) (hgrow:(W.alloc tmp).grownBy w1 v.ownBlock) (hat:v'.ownBlock = v.ownBlock \/ v'.ownBlock = some (W.alloc tmp).heap.size)
  (hv2:Boxed (w1.setCell ⟨B,0,none⟩ v') B 25 v') (hbel:Below n0 W (w1.setCell ⟨B,0,none⟩ v')) (hlt:∀ g,v'.ownBlock = some g -> g < (w1.setCell ⟨B,0,none⟩ v').heap.size):Kc n0 B W (w1.setCell ⟨B,0,none⟩ v') :=
 ⟨hbel,fun u hu=>by
  obtain rfl:=boxed_one hv hu;refine ⟨fun k o hk hc hB hn=>?_,v',hv2,fun g hg=>?_⟩
  · have hl:=lt_heap' hk;exact (Below.heap_setCell w1 ⟨B,0,none⟩ v' k hB).trans ((hgrow.block k (by simp;omega) hn).trans ((Below.heap_alloc W tmp k hl).trans hk))
  ·
   rcases hat with q | q
   · exact .inl (by rw [<- q];exact hg)
   · rw [hg] at q;have e:=Option.some.inj q;rw [World.size_alloc] at e;exact .inr ⟨by omega,hlt g hg⟩⟩
theorem own_lt {w:World} {B e n z:Nat} {v:Value} {xs:List Value} (h:w.ownsRow B e z v n xs):∀ g,v.ownBlock = some g -> g < w.heap.size:=by
 intro g hg;rcases h.2 with ⟨rfl,_⟩ | ⟨g',cap,cur,rfl,_,hgb,_⟩
 · cases hg
 · (have:g' = g:=by simpa [Value.ownBlock] using hg);subst this;exact lt_heap' hgb
theorem news_caps (W:World) (x:Caps):∀ j u,(CC x).toList[j]? = some u -> (W.alloc (.cells (CC x) 34)).cell? ((⟨W.heap.size,0,none⟩:Addr).add j) = some u:=by
 intro j u hj;rw [Addr.add_lit,Lib.cell_of_heap (heap_alloc_new _ _),Nat.zero_add];simpa using hj
theorem ones_caps (x:Caps):∀ u ∈ (CC x).toList,u.oneCell' = true:=fun u hu=>by
 have h:=cc_one x;rw [<- Array.all_toList,List.all_eq_true] at h;exact h u hu
theorem finds_any (ao:Option Addr) (nn cc:Nat) (T:List UInt8) (w:World) :
  Calls Tryz.prog 41 #[.slice ao nn cc,S T] w fun e w'=>e = .returned (.func (.func 69) #[] #[PT (w.heap.size + 1),PT w.heap.size]) /\ w' = (w.alloc (.cells #[.slice ao nn cc] 22)).alloc (.cells #[S T] 9):=by
 go_enter Tryz.func41,Tryz.ntmps41;go_wp2;go_ret;exact ⟨by simp,rfl⟩
def AllAns (w:World) (l:List Caps) (e:Ending) (w':World):Prop:=∃ v,e = .returned v /\ w'.ownsRow w.heap.size 34 10 v l.length (flC l) /\ Below w.heap.size w w'
theorem all_in (hna:NoneOk) (ao:Option Addr) (nn cc:Nat) (T:List UInt8) (hT:T.length <= 100000) (F:Nat -> Option Caps) (hF:FOk T.length F) (w:World) (hlo:LongOk w (.slice ao nn cc) T F) :
  CallsIn Fence.wide 6 Tryz.prog 10 #[.slice ao nn cc,S T] w (AllAns w (allF F T.length)):=by
 obtain ⟨i0,hi,hz0,hz1,hz2⟩:=info_parts infoC;refine callsIn_of_wp_marks Tryz.func10 rfl trivial ?_ rfl;simp only [Tryz.ntmps10,List.size_toArray,List.length_cons,List.length_nil,Nat.reduceAdd,Nat.reduceSub,Array.replicate_succ,Array.replicate_zero,List.push_toArray,List.append_toArray,List.nil_append,List.cons_append];have HLO:=Lib.hid hlo;have HF:=Lib.hid hF;have HT:=Lib.hid hT;clear hlo hF hT;gi_wp2;refine ⟨trivial,?_⟩;refine (callsIn_wide.2 (finds_any ao nn cc T _)).mono ?_;rintro e w2 ⟨rfl,hw2⟩;gi_wp2;have HFc:=Lib.hid (fc_start w (.slice ao nn cc) T);rw [<- hw2] at HFc ⊢;have HSZ:=Lib.hid (show w2.heap.size = w.heap.size + 1 + 1 + 1 from by rw [hw2];simp);have HB0:=Lib.hid (show Boxed w2 w.heap.size 25 (.slice none 0 0) from by rw [hw2];exact ((Boxed.new w 25 (.slice none 0 0)).alloc _).alloc _);clear hw2;refine wpIn_rangeFunc_ownH rfl (by omega) (gf:=69) (lb:=#[PT (w.heap.size + 1 + 1),PT (w.heap.size + 1)]) rfl trivial (enters_of Tryz.func69 (by kernel_rfl) rfl)
  (finds_stops hna 5 (by omega) ao nn cc T HT.out F HF.out (w.heap.size + 1 + 1) (w.heap.size + 1) w2 (Kc w.heap.size w.heap.size) (Fc w (.slice ao nn cc) T) (fun W hW=>HFc.out.below hW) (fun W W' h hb=>h.below hb) (fun W W' hk h=>h.kept hk) (fun W h=>⟨HLO.out.below h.bel,h.t,h.l⟩) (fun W cs W' h hk=>h.fresh hk))
  (fun h k=>h.trans k) (Kc.putObj (w:=w2) (by rw [HSZ.out];omega)) (Below.refl _ _) (fun _=>rfl)
  (fun (pre:List Caps) W=>(∃ x,Boxed W w.heap.size 25 x /\ W.ownsRow w.heap.size 34 10 x pre.length (flC pre) /\ True) /\ Below w.heap.size w W /\ Boxed W (w.heap.size + 1 + 1) 9 (S T) /\ Boxed W (w.heap.size + 1) 22 (.slice ao nn cc))
  (fun _ _ _=>False)
  (OwnFrom.and (Own.from (holdsRow_own w.heap.size w.heap.size 25 34 10 (fun (pre:List Caps)=>pre.length) flC (fun (pre:List Caps) v=>True)) _) (OwnFrom.and (ownFrom_below (Nat.le_refl _) (by rw [HSZ.out];omega)) (OwnFrom.and boxed_from boxed_from)))
  (fun _ _ _ _ _ hs _ _=>hs)
  ⟨⟨_,HB0.out,World.ownsRow_nil _ _ _ _,trivial⟩,HFc.out.bel,HFc.out.t,HFc.out.l⟩
  (fun x a' W=>∃ b,a' = { tmps:=#[.slice ao nn cc,S T,undef,undef,.pointer (some ⟨w.heap.size,0,none⟩),PT b,.slice ao nn cc,S T,.func (.func 69) #[] #[PT (w.heap.size + 1 + 1),PT (w.heap.size + 1)],CV x,undef,undef,undef,undef,undef],defers:=[] } /\ CB W b x)
  (fun x a' s X Y row ⟨b,e,hb⟩ hg hr=>⟨b,e,cells_from s X Y row hb hg hr⟩)
  ?assign ?body ?done ?stop
 case assign =>
  intro l pre x W K hI hK;have hII:=hI
  gi_wp2_with (refine inStore_row rfl 34 (.tmp 5) (.tmp 9) rfl _ (CC x) rfl rfl _ CZ (heap_alloc_new _ _) (by kernel_rfl) rfl (cc_one x) ?_;simp only [Act.put,List.setIfInBounds_toArray,List.set_cons_zero,List.set_cons_succ];rw [box_laid])
  refine hK _ _ ((KeepsOthers.alloc W _).from _) (Kc.of_below hI.2.1.size ((Below.refl _ W).alloc (Nat.le_refl _) _)) ?_ ⟨W.heap.size,rfl,heap_alloc_new _ _⟩;obtain ⟨⟨y,y1,y2,y3⟩,y4,y5,y6⟩:=hI;exact ⟨⟨y,y1.alloc _,y2.alloc _,trivial⟩,y4.trans (((Below.refl _ W).alloc (Nat.le_refl _) _).mono y4.size),y5.alloc _,y6.alloc _⟩
 case body =>
  rintro l pre x a' W hlD _ ⟨⟨v,hv,hrow,_⟩,hB,ht,hl⟩ ⟨b,rfl,hb⟩ hlt;have hc:=hv.cell;have hN:=HT.out
  gi_wp2_with (first
   | (refine inLoad_row rfl 34 (.tmp 5) rfl b rfl _ (CC x) (0,0) _ hb Tryz.underlying34 rfl (by kernel_rfl) ?_;simp only [Act.put,List.setIfInBounds_toArray,List.set_cons_zero,List.set_cons_succ])
   | (gi_at_builtin;refine wpListIn_append_own_at _ rfl _ _ 25 rfl w.heap.size 34 i0 (.agg CZ) 10 160 Tryz.underlying25 hi hz0 hz1 hz2 rfl (by decide) _ _ _ rfl (hrow.alloc _) ⟨W.heap.size,0,none⟩ 1 1 (CC x).toList rfl rfl (news_caps W x) (ones_caps x) (by unfold maxLen;omega) (by omega) (by have:=hB.size;simp;omega) ?_;intro v' w1 hown' hgrow _ hat;obtain ⟨g',cap',rfl⟩:=ownsRow_succ hown';obtain ⟨hv1,hv2,hr2,hk2,hb2⟩:=hv.appended (by decide) hrow hB.size (Nat.le_refl _) hown' hgrow;have hc1:=hv1.cell;have hf1:=hv1.frozen))
  have HK:=kc_append hv hgrow hat hv2 hb2 (own_lt hr2);refine ⟨hk2.from _,HK,⟨_,hv2,by simpa [flC_append,flC_one] using hr2⟩,hB.trans hb2,(HK.row _ hv).1 _ _ ht rfl (by omega) (ht.not_row (by decide) hrow),(HK.row _ hv).1 _ _ hl rfl (by omega) (hl.not_row (by decide) hrow)⟩
 case done =>
  rintro D ys W hD rfl ⟨⟨v,hv,hrow,_⟩,hB,ht,hl⟩ hK;(have hDB:D ≠ w.heap.size:=by have:=HSZ.out;omega);obtain ⟨ao',n',c',rfl⟩:∃ ao' n' c',v = .slice ao' n' c':=by
   rcases own_forms hrow with ⟨rfl,_⟩ | ⟨g,cap,rfl,_⟩
   · exact ⟨_,_,_,rfl⟩
   · exact ⟨_,_,_,rfl⟩
  have hc:=hv.cell;have hf:=hv.frozen;gi_wp2;have hK2:=(Below.heap_setCell W ⟨w.heap.size,0,none⟩ (.slice ao' n' c') D hDB).trans hK;have hv2:=hv.set (.slice ao' n' c');have hr2:=hrow.kept (grownBy_setCell' W w.heap.size (.slice ao' n' c')) (.inr (hv.not_row (by decide) hrow).symm);have hB2:Below w.heap.size w (W.setCell ⟨w.heap.size,0,none⟩ (.slice ao' n' c')):=hB.setCell (Nat.le_refl _) _;refine ⟨by simp,.inl ⟨_,_,rfl,run_takeDeferred hK2,?_⟩⟩;exact ⟨_,results_box rfl rfl ((World.putObj_heap_other (Ne.symm hDB)).trans hv2) rfl,_,rfl,ownsRow_putObj hr2 _ hK2 rfl,hB2.trans (belowK_b (w:=w) (Nat.le_refl _) _ D _ _ (by have:=HSZ.out;omega) hK2 rfl rfl)⟩
 case stop =>
  rintro D c pre W _ _ h _;exact h.elim
theorem all_any (hna:NoneOk) (ao:Option Addr) (nn cc:Nat) (T:List UInt8) (hT:T.length <= 100000) (F:Nat -> Option Caps) (hF:FOk T.length F) (w:World) (hlo:LongOk w (.slice ao nn cc) T F) :
  Calls Tryz.prog 10 #[.slice ao nn cc,S T] w (AllAns w (allF F T.length)) :=
 callsIn_wide.1 (all_in hna ao nn cc T hT F hF w hlo)
theorem flC_cons (c:Caps) (l:List Caps):flC (c :: l) = (CC c).toList ++ flC l:=by unfold flC;rw [List.flatMap_cons]
theorem flC_get:∀ (l:List Caps) (i:Nat) (h:i < l.length) (r:Nat),r < 10 -> (flC l)[i * 10 + r]? = (CC l[i])[r]?
 | [],i,h,r,hr=>by simp at h
 | c :: l,0,h,r,hr=>by
  rw [flC_cons,List.getElem?_append_left (by simp;omega)];simp
 | c :: l,i + 1,h,r,hr=>by
  rw [flC_cons,List.getElem?_append_right (by simp;omega),show (i + 1) * 10 + r - (CC c).toList.length = i * 10 + r from by simp;omega];rw [flC_get l i (by simpa using h) r hr];simp
def CsIn (w:World) (ae:Option Addr) (l:List Caps):Prop:=∀ i (hi:i < l.length),∃ g,ae = some ⟨g,0,none⟩ /\ w.cell? ⟨g,i * 10,none⟩ = some (capV (gr l[i] 0)) /\ w.rangeAt g (i * 10) (CC l[i]).toList
theorem CsIn.below {w w':World} {ae:Option Addr} {l:List Caps} (h:CsIn w ae l) (hb:Below w.heap.size w w'):CsIn w' ae l:=fun i hi=>by
 obtain ⟨g,h1,h2,h3⟩:=h i hi;exact ⟨g,h1,(hb.cell (lt_cell h2)).trans h2,fun j u hj=>(hb.cell (lt_cell (h3 j u hj))).trans (h3 j u hj)⟩
end Go.Proofs.YtinallojhkaogaaGreatDoor.Mt
namespace Go.Proofs.YtinallojhkaogaaGreatDoor.Rx
open Go.RowKit Go.Shelf
theorem node_any7 (w0:World) (b:Nat) (hL:Lay w0):∀ left:Nat,left <= 1000 -> Below2 false w0 b left
 | 0,_=>fun r v w h hr hA=>by cases hA
 | left + 1,hle=>by
  have IH:=node_any7 w0 b hL left (by omega);rintro ⟨s,l,g,bad⟩ v w h hr hA;obtain ⟨rfl,hl,c,t,hs,hc⟩:=nodeA_out hA;have h1:=hr.len;have h2:=hr.g0;have h3:=hr.g1;dsimp only at h1 h2 h3;rcases hc with hc | hc | ⟨hc0,hc | hc⟩
  · exact node_s1 _ w0 b left _ c t s l g v w hs h hL h1 hl h2 h3 rfl (by omega) IH hA hc
  · exact node_m1 _ w0 b left _ c t s l g v w hs h hL h1 hl h2 h3 rfl (by omega) IH hA hc
  · cases hc0
  · cases hc0
end Go.Proofs.YtinallojhkaogaaGreatDoor.Rx
