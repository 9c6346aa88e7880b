/- The texts SbF SbS SbLp SbSh. -/
import Derived.Test.YtinallojhkaogaaGreatDoorHk21
import Derived.Test.YtinallojhkaogaaGreatDoorHk32
set_option linter.unusedVariables false
set_option linter.unusedSimpArgs false
set_option maxHeartbeats 6400000
set_option maxRecDepth 100000
namespace Go.Proofs.YtinallojhkaogaaGreatDoor.Mt
open Go.RowKit Go.Shelf
open Rx
open Rx.Tr
open Go.Proofs.YtinallojhkaogaaGreatDoor.Fn
open St (Wf word mem SV SV_eq)
open Go.Proofs.YtinallojhkaogaaGreatDoor.Bld (IsB Kept writeString_any)
def partP (T:List UInt8) (c:Caps) (p:Pt):List UInt8:=if p.g = -1 then p.t else groupP T c p.g
def fillP (T:List UInt8) (c:Caps) (l:List Pt):List UInt8:=l.flatMap (partP T c)
theorem fill_next (T:List UInt8) (c:Caps) {l:List Pt} {k:Nat} (h:k < l.length):fillP T c (l.take (k + 1)) = fillP T c (l.take k) ++ partP T c l[k]:=by
 unfold fillP;rw [List.take_succ_eq_append_getElem h,List.flatMap_append];simp
theorem group_le (T:List UInt8) (c:Caps) (n:Int):(groupP T c n).length <= T.length:=by
 unfold groupP;split
 ·
  cases h:gr c n.toNat with
  | none=>simp [cutC]
  | some q=>obtain ⟨i,j⟩:=q;simp [cutC,cutT];omega
 · simp
theorem fill_le (T:List UInt8) (c:Caps) (m:Nat) (hm:T.length <= m):∀ l:List Pt,(∀ p ∈ l,p.t.length <= m) -> (fillP T c l).length <= l.length * m
 | [],_=>by simp [fillP]
 | p :: r,h=>by
  (have h1:=fill_le T c m hm r fun q hq=>h q (List.mem_cons_of_mem _ hq));have h2:(partP T c p).length <= m:=by
   unfold partP;split
   · exact h p List.mem_cons_self
   · exact Nat.le_trans (group_le T c p.g) hm
  (have e:fillP T c (p :: r) = partP T c p ++ fillP T c r:=by simp [fillP]);rw [e,List.length_append,List.length_cons,Nat.succ_mul];omega
structure FSb (w:World) (c:Caps) (out:List UInt8) (wr:World):Prop where
 cb:wr.heap[w.heap.size]? = some (.cells (CC c) 34 (0,0))
 bld:IsB (w.heap.size + 1) (w.heap.size + 1) out wr
 bel:Below w.heap.size w wr
 le:w.heap.size + 1 <= wr.heap.size
theorem FSb.below {w wr w':World} {c:Caps} {out:List UInt8} (h:FSb w c out wr) (hb:Below wr.heap.size wr w'):FSb w c out w' :=
 ⟨(hb.block _ (lt_heap' h.cb)).trans h.cb,isb_below h.bld hb,h.bel.trans (hb.mono h.bel.size),Nat.le_trans h.le hb.size⟩
theorem FSb.write {w wr w':World} {c:Caps} {out s:List UInt8} (h:FSb w c out wr) (h1:Lib.BuilderAtF 98 5 (w.heap.size + 1) (w.heap.size + 1) (.pointer (some ⟨w.heap.size + 1,0,none⟩)) (Lib.byteCells out ++ Lib.strCells ⟨s.toArray⟩) w') (h2:Below (w.heap.size + 1) wr w'):FSb w c (out ++ s) w' :=
 ⟨(h2.block _ (Nat.lt_succ_self _)).trans h.cb,isb_write h1,h.bel.trans (h2.mono (Nat.le_succ _)),Nat.le_trans h.le h2.size⟩
theorem fsb_start (w:World) (c:Caps):FSb w c [] ((w.alloc (.cells (CC c) 34)).alloc (.cells #[.pointer none,.slice none 0 0] 98)):=by
 refine ⟨heap_alloc2_old _ _ _,?_,((Below.refl _ _).alloc (Nat.le_refl _) _).alloc (by simp) _,by simp⟩;have:=isb_new (w.alloc (.cells (CC c) 34))
 rwa [show (w.alloc (.cells (CC c) 34)).heap.size = w.heap.size + 1 by simp] at this
theorem fill_any (ao:Option Addr) (cap:Nat) (l:List Pt) (T:List UInt8) (hT:T.length <= 100000) (c:Caps) (hc:CapsOk T.length c) (w:World) (h:PIn w ao l) (hl:l.length <= 1000) (hb:∀ p ∈ l,p.t.length <= 100000) (R:List UInt8) (hR:R = fillP T c l) :
  Calls Tryz.prog 56 #[.slice ao l.length cap,S T,CV c] w fun e w'=>e = .returned (S R) /\ Below w.heap.size w w':=by
 have HT:=Hd (fsb_start w c);have HP:=Hd h;have HLN:=Hd (fun k=>show (fillP T c (l.take k)).length <= 100000000 from by
  have h1:=fill_le T c 100000 hT (l.take k) (fun p hp=>hb p (List.mem_of_mem_take hp));(have h2:(l.take k).length <= 1000:=by rw [List.length_take];omega);have h3:=Nat.mul_le_mul_right 100000 h2;omega)
 have HPL:=Hd (fun (k:Nat) (hk:k < l.length)=>hb l[k] (List.getElem_mem hk));have HG:=Hd (fun (n:Int) (W:World)=>group_any T hT c hc n W _ rfl);have HGL:=Hd (fun n=>Nat.le_trans (group_le T c n) hT);have HRR:=Hd hR;have HLL:=Hd hl;clear h hc hb hR hT hl;go_enter Tryz.func56,Tryz.ntmps56;rw [show Code.region 2 = Fz 2 from rfl];go_wp2;refine at_world (p:=fun V=>FSb w c [] V) HT.out (fun V hV=>?_);have HV:=Hd (show FSb w c (fillP T c (l.take 0)) V from by rw [List.take_zero];exact hV);clear hV HT;rw [show Fz 2 = Code.region 2 from rfl];go_wp2;go_loopw [12] (fun iv wr=>∃ k:Nat,k <= l.length /\ iv = .int .i64 (k:Nat) /\ Hid (FSb w c (fillP T c (l.take k)) wr)) (fun iv _=>l.length - (intOf iv).toNat);(case atStart=>exact ⟨0,Nat.zero_le _,rfl,HV⟩);case round =>
  clear HV;obtain ⟨k,hk,rfl,HF⟩:=hrel;have hol:=HLN.out k;by_cases hlt:k < l.length
  ·
   (have hlt':(k:Int) < (l.length:Int):=by omega);(have hk0:(0:Int) <= (k:Int):=by omega);(have hwk:IntKind.i64.wrap ((k:Int) + 1) = (k:Int) + 1:=by rw [IntKind.wrap_i64];have:=HLL.out;omega);obtain ⟨b,rfl,p1,p2⟩:=(HP.out.below (show Below w.heap.size w wr from HF.out.bel)) k hlt;have HNX:=Hd (fill_next T c hlt);have HPT:=Hd (HPL.out k hlt);generalize l[k] = p at *;obtain ⟨t,g⟩:=p;dsimp only at p1 p2;have HK:=Hd hlt;have HF1:=Hd (HF.out.below ((Below.refl _ _).alloc (Nat.le_refl _) (.cells #[S t,E g] 55)));obtain ⟨out,hout⟩:∃ out,out = fillP T c (l.take k):=⟨_,rfl⟩;rw [<- hout] at HF1 HNX hol;have HOL:=Hd hol;have HTL:=Hd (show t.length <= 100000 from HPT.out);clear hlt hk HF hol hout;by_cases hg:g = -1
   · subst hg;have HN2:=Hd (show fillP T c (l.take (k + 1)) = out ++ t from HNX.out);clear HNX;go_wp2_with (go_at_call 55;refine (writeString_any (w.heap.size + 1) (w.heap.size + 1) (Lib.byteCells out) ⟨(t).toArray⟩ _ HF1.out.bld (by have:=HOL.out;have:=HTL.out;simp only [Lib.byteCells_length,ByteArray.size,List.size_toArray];omega) HF1.out.le).mono ?_;rintro e w1 ⟨rfl,q1,q2,q3⟩;have HF2:=Hd (HF1.out.write q1 q2);clear q1 q2 q3 HF1);go_roundw;(case rel=>exact ⟨k + 1,by have:=HK.out;omega,by go_num,by rw [HN2.out];exact HF2⟩);case measure=>have:=HK.out;simp [intOf];omega
   ·
    (have hq:(g == -1) = false:=by rw [beq_eq_false_iff_ne];exact hg);have HN2:=Hd (show fillP T c (l.take (k + 1)) = out ++ groupP T c g from by rw [HNX.out];unfold partP;rw [if_neg hg]);have HGG:=Hd (fun W=>HG.out g W);have HGL2:=Hd (HGL.out g);generalize groupP T c g = gs at *;clear HNX hg;go_wp2_with (first
     | (refine ldM 5 HF1.out.cb ?_)
     | (go_at_call 24;refine (HGG.out _).mono ?_;rintro e w3 ⟨rfl,hb⟩;have HF3:=Hd (HF1.out.below hb);clear hb HF1)
     | (go_at_call 55;refine (writeString_any (w.heap.size + 1) (w.heap.size + 1) (Lib.byteCells out) ⟨(gs).toArray⟩ _ HF3.out.bld (by have:=HOL.out;have:=HGL2.out;simp only [Lib.byteCells_length,ByteArray.size,List.size_toArray];omega) HF3.out.le).mono ?_;rintro e w1 ⟨rfl,q1,q2,q3⟩;have HF2:=Hd (HF3.out.write q1 q2);clear q1 q2 q3 HF3))
    go_roundw;(case rel=>exact ⟨k + 1,by have:=HK.out;omega,by go_num,by rw [HN2.out];exact HF2⟩);case measure=>have:=HK.out;simp [intOf];omega
  · (obtain rfl:k = l.length:=by omega);(have hnl:¬ (l.length:Int) < (l.length:Int):=by omega);have hf:=HF.out;rw [List.take_length,<- HRR.out] at hf;have HF1:=Hd hf;clear hf HF hlt hk hol;go_wp2_with (go_at_call 58;refine (Tryz.Builder_String_any_k _ _ R _ HF1.out.bld HF1.out.le).mono ?_;rintro e w2 ⟨rfl,g3,g4,g5⟩;have HB:=Hd (HF1.out.bel.trans (g4.mono (Nat.le_succ _)));clear g3 g4 g5 HF1);go_ret;exact ⟨rfl,HB.out⟩
def subS (T:List UInt8) (fl:Caps -> List UInt8) (nth:Int) (all:Bool):List Caps -> Nat -> Nat × Nat × List UInt8 -> Nat × Nat × List UInt8
 | [],_,s=>s
 | c :: r,i,s=>if (i:Int) + 1 < nth then subS T fl nth all r (i + 1) s
  else if all = true then subS T fl nth all r (i + 1) (to0 c,s.2.1 + 1,s.2.2 ++ (cutT T s.1 (from0 c) ++ fl c))
  else (to0 c,s.2.1 + 1,s.2.2 ++ (cutT T s.1 (from0 c) ++ fl c))
def subP (T:List UInt8) (fl:Caps -> List UInt8) (nth:Int) (all:Bool) (L:List Caps):List UInt8 × Nat :=
 ((subS T fl nth all L 0 (0,0,[])).2.2 ++ T.drop (subS T fl nth all L 0 (0,0,[])).1,(subS T fl nth all L 0 (0,0,[])).2.1)
structure Row (N:Nat) (L:List Caps):Prop where
 ok:∀ (i:Nat) (c:Caps),L[i]? = some c -> CapsOk N c /\ gr c 0 = some (from0 c,to0 c) /\ from0 c <= to0 c /\ to0 c <= N
 up:∀ (i j:Nat) (c d:Caps),i < j -> L[i]? = some c -> L[j]? = some d -> to0 c <= from0 d
 len:L.length <= 2 * (N + 1) + 1
theorem row_all {F:Nat -> Option Caps} {N:Nat} (hF:FOk N F):Row N (allF F N):=by
 have hup:∀ (i:Nat) (b c:Caps),(allF F N)[i]? = some b -> (allF F N)[i + 1]? = some c -> to0 b <= from0 c:=fun i b c h1 h2=>by
  rw [all_next hF h1] at h2;unfold headF at h2;split at h2
  · cases h2
  ·
   rename_i d hd;split at h2
   · have:=(first_at hF h2).1;omega
   · obtain rfl:=Option.some.inj h2;exact (first_at hF hd).1
 refine ⟨fun i c h=>all_at hF h,?_,fin_len F N _ _ _⟩;intro i j
 induction j with
 | zero=>intro c d h;omega
 | succ j ih =>
  intro c d hij hc hd;(have hj:j < (allF F N).length:=by have:=(List.getElem?_eq_some_iff.1 hd).1;omega);have h0:=hup j _ d (List.getElem?_eq_getElem hj) hd;by_cases e:i = j
  · subst e;rw [List.getElem?_eq_getElem hj] at hc;obtain rfl:=Option.some.inj hc;exact h0
  · have h1:=ih c _ (by omega) hc (List.getElem?_eq_getElem hj);obtain ⟨_,_,h2,_⟩:=all_at hF (List.getElem?_eq_getElem hj);omega
def CsH (w:World) (ae:Option Addr) (L:List Caps):Prop:=L = [] \/ ∃ g cs,ae = some ⟨g,0,none⟩ /\ w.heap[g]? = some (.cells cs 34 (0,0)) /\ ∀ i (hi:i < L.length) r,r < 10 -> cs[i * 10 + r]? = (CC L[i])[r]?
theorem csh_own {w:World} {B:Nat} {v:Value} {L:List Caps} (h:w.ownsRow B 34 10 v L.length (flC L)):∃ ae cap,v = .slice ae L.length cap /\ CsH w ae L:=by
 rcases h.2 with ⟨rfl,h0⟩ | ⟨g,cap,cur,rfl,h1,h2,h3,h4,h5,h6⟩
 · exact ⟨none,0,by rw [h0],Or.inl (List.length_eq_zero_iff.1 h0)⟩
 ·
  refine ⟨_,cap,rfl,Or.inr ⟨g,_,rfl,h2,fun i hi r hr=>?_⟩⟩;have e:cur[i * 10 + r]? = (flC L)[i * 10 + r]?:=by
   rw [<- h6,List.getElem?_take_of_lt (by omega),Array.getElem?_toList]
  rw [e,flC_get L i hi r hr]
theorem CsH.below {w w':World} {ae:Option Addr} {L:List Caps} (h:CsH w ae L) (hb:Below w.heap.size w w'):CsH w' ae L:=h.imp id fun ⟨g,cs,h1,h2,h3⟩=>⟨g,cs,h1,(hb.block g (lt_heap' h2)).trans h2,h3⟩
theorem CsH.kept {w w':World} {ae:Option Addr} {L:List Caps} {b:Nat} {cs:Array Value} (h:CsH w ae L) (hb:w.heap[b]? = some (.cells cs 98 (0,0))) (hk:Kept b w w'):CsH w' ae L:=h.imp id fun ⟨g,cs,h1,h2,h3⟩=>⟨g,cs,h1,hk g _ h2 (fun e=>by
  obtain rfl:=Option.some.inj e;rw [h2] at hb;simp only [Option.some.injEq,Obj.cells.injEq] at hb;exact absurd hb.2.1 (by decide)) (fun c fz e=>by
  simp only [Obj.cells.injEq] at e;exact absurd e.2.1 (by decide)),h3⟩
theorem CsH.at {w:World} {ae:Option Addr} {L:List Caps} (h:CsH w ae L) {i:Nat} (hi:i < L.length):∃ g,ae = some ⟨g,0,none⟩ /\ w.rangeAt g (i * 10) (CC L[i]).toList:=by
 rcases h with rfl | ⟨g,cs,h1,h2,h3⟩
 · simp at hi
 ·
  refine ⟨g,h1,fun j u hj=>?_⟩;have hl:j < 10:=by
   have:=(List.getElem?_eq_some_iff.1 hj).1;simpa using this
  rw [Lib.cell_of_heap h2,h3 i hi j hl];simpa using hj
structure SSt (w:World) (ae:Option Addr) (L:List Caps) (out:List UInt8) (wr:World):Prop where
 bld:IsB w.heap.size w.heap.size out wr
 bel:Below w.heap.size w wr
 cs:CsH wr ae L
theorem isb_heap {B b:Nat} {l:List UInt8} {w:World} (h:IsB B b l w):∃ cs,w.heap[b]? = some (.cells cs 98 (0,0)):=by
 rcases h with ⟨_,v,h2,_⟩ | ⟨_,v,h2,_⟩
 · exact ⟨_,h2⟩
 · exact ⟨_,h2⟩
theorem g16_ne {B b g:Nat} {l:List UInt8} {c:Caps} {w:World} (h:IsB B b l w) (hg:CB w g c):some g ≠ some b:=by
 intro e;obtain rfl:=Option.some.inj e;obtain ⟨cs,hc⟩:=isb_heap h;rw [hg] at hc;simp only [Option.some.injEq,Obj.cells.injEq] at hc;exact absurd hc.2.1 (by decide)
theorem SSt.below {w wr w':World} {ae:Option Addr} {L:List Caps} {out:List UInt8} (h:SSt w ae L out wr) (hb:Below wr.heap.size wr w'):SSt w ae L out w' :=
 ⟨isb_below h.bld hb,h.bel.trans (hb.mono h.bel.size),h.cs.below hb⟩
theorem SSt.write {w wr w':World} {ae:Option Addr} {L:List Caps} {out s:List UInt8} (h:SSt w ae L out wr) (h1:Lib.BuilderAtF 98 5 w.heap.size w.heap.size (.pointer (some ⟨w.heap.size,0,none⟩)) (Lib.byteCells out ++ Lib.strCells ⟨s.toArray⟩) w') (h2:Below w.heap.size wr w') (h3:Kept w.heap.size wr w'):SSt w ae L (out ++ s) w':=by
 obtain ⟨cs,hc⟩:=isb_heap h.bld;exact ⟨isb_write h1,h.bel.trans h2,h.cs.kept hc h3⟩
theorem capok_at {N:Nat} {c:Caps} (h:CapsOk N c) {a b:Nat} (hg:gr c 0 = some (a,b)):CapOk N (some (a,b)):=by rw [<- hg];exact h.at 0
theorem ex_cut (T:List UInt8) (a b:Nat):(⟨T.toArray⟩:ByteArray).extract a b = ⟨(cutT T a b).toArray⟩:=by
 rw [Go.Lib.extract_eq];unfold cutT;simp [List.drop_take]
theorem ex_from (T:List UInt8) (a:Nat):(⟨T.toArray⟩:ByteArray).extract a T.length = ⟨(T.drop a).toArray⟩:=by
 rw [ex_cut];unfold cutT;rw [List.take_of_length_le (by simp)]
theorem app_arr (a b:List UInt8):(⟨a.toArray⟩:ByteArray) ++ ⟨b.toArray⟩ = ⟨(a ++ b).toArray⟩:=by
 apply ByteArray.ext;simp
theorem sub_any (v:Value) (pa:Option Addr) (pc:Nat) (l:List Pt) (T:List UInt8) (hT:T.length <= 10000) (nth:Int) (all:Bool) (hl:l.length <= 1000) (hb:∀ p ∈ l,p.t.length <= 100000) (L:List Caps) (hL:Row T.length L) (w:World) (h:PIn w pa l)
  (hA:∀ W:World,Below w.heap.size w W -> Calls Tryz.prog 10 #[v,S T] W fun e w'=>AllAns W L e w') (R:List UInt8 × Nat) (hR:R = subP T (fun c=>fillP T c l) nth all L) :
  Calls Tryz.prog 31 #[v,S T,.slice pa l.length pc,E nth,.bool all] w fun e w'=>e = .returned (.tuple #[S R.1,E (R.2:Nat)]) /\ Below w.heap.size w w':=by
 have HZ:=Hd (show IsB w.heap.size w.heap.size [] (w.alloc (.cells #[.pointer none,.slice none 0 0] 98)) /\ Below w.heap.size w (w.alloc (.cells #[.pointer none,.slice none 0 0] 98)) from ⟨isb_new w,(Below.refl _ _).alloc (Nat.le_refl _) _⟩);have HA:=Hd hA;have HT:=Hd hT;have HRW:=Hd hL;(have hsz:(ByteArray.mk T.toArray).size = T.length:=by simp [ByteArray.size]);have HFI:=Hd (fun (c:Caps) (hc:CapsOk T.length c) (W:World) (hw:Below w.heap.size w W)=>fill_any pa pc l T (by omega) c hc W (h.below hw) hl hb _ rfl);have HFL:=Hd (fun c=>show (fillP T c l).length <= 100000000 from by
  have h1:=fill_le T c 100000 (by omega) l hb;have h3:=Nat.mul_le_mul_right 100000 hl;omega)
 obtain ⟨fin,hfin⟩:∃ fin,fin = subS T (fun c=>fillP T c l) nth all L 0 (0,0,[]):=⟨_,rfl⟩;have HRR:=Hd (show R = (fin.2.2 ++ T.drop fin.1,fin.2.1) from by rw [hR,hfin];rfl);have HFN:=Hd hfin;have HFA:=Hd (fun (c:Caps) (hc:CapsOk T.length c) (hg:gr c 0 = some (from0 c,to0 c)) (W:World)=>from_cap (by omega:T.length <= 999999999) (capok_at hc hg) W);have HTA:=Hd (fun (c:Caps) (hc:CapsOk T.length c) (hg:gr c 0 = some (from0 c,to0 c)) (W:World)=>to_cap (by omega:T.length <= 999999999) (capok_at hc hg) W);(obtain ⟨fl,hfl⟩:∃ fl:Caps -> List UInt8,fl = fun c=>fillP T c l:=⟨_,rfl⟩);have HFI2:=Hd (fun (c:Caps) (hc:CapsOk T.length c) (W:World) (hw:Below w.heap.size w W)=>show Calls Tryz.prog 56 #[.slice pa l.length pc,S T,CV c] W fun e w'=>e = .returned (S (fl c)) /\ Below W.heap.size W w' from by rw [hfl];exact HFI.out c hc W hw);have HFL2:=Hd (fun c=>show (fl c).length <= 100000000 from by rw [hfl];exact HFL.out c);rw [<- hfl] at HFN;clear hA hT hL h hl hb hR hfin hfl HFI HFL;generalize l.length = pn at *;go_enter Tryz.func31,Tryz.ntmps31;rw [show Code.region 3 = Fz 3 from rfl];go_wp2;refine at_world (p:=fun V=>IsB w.heap.size w.heap.size [] V /\ Below w.heap.size w V) HZ.out (fun V hV=>?_);have HV:=Hd hV;clear hV HZ;rw [show Fz 3 = Code.region 3 from rfl];go_wp2_with (go_at_call 10;refine (HA.out _ HV.out.2).mono ?_;rintro e w1 ⟨va,rfl,ho,hb⟩;obtain ⟨ae,ca,rfl,hcs⟩:=csh_own ho;have HS:=Hd (show SSt w ae L [] w1 from ⟨isb_below HV.out.1 hb,HV.out.2.trans (hb.mono HV.out.2.size),hcs⟩);clear ho hb hcs HV HA);go_loopw [13,14,21] (fun av nv iv wr=>∃ (k at0 n:Nat) (out:List UInt8),k <= L.length /\ av = .int .i64 (at0:Nat) /\ nv = .int .i64 (n:Nat) /\ iv = .int .i64 (k:Nat) /\ at0 <= T.length /\ n <= k /\ out.length <= k * 100010000 /\ Hid (∀ j d,k <= j -> L[j]? = some d -> at0 <= from0 d) /\ Hid (fin = subS T fl nth all (L.drop k) k (at0,n,out)) /\ Hid (SSt w ae L out wr)) (fun _ _ iv _=>L.length - (intOf iv).toNat);(case atStart=>exact ⟨0,0,0,[],Nat.zero_le _,rfl,rfl,rfl,Nat.zero_le _,Nat.le_refl _,by simp,Hd (fun _ _ _ _=>Nat.zero_le _),by rw [List.drop_zero];exact HFN,HS⟩);case round =>
  clear HS HFN;obtain ⟨k,at0,n,out,hk,rfl,rfl,rfl,hat,hn,hout,HAT,HF,HS⟩:=hrel;by_cases hlt:k < L.length
  ·
   (have hlt':(k:Int) < (L.length:Int):=by omega);(have hk0:(0:Int) <= (k:Int):=by omega);(have hkL:k <= 20003:=by have:=HRW.out.len;have:=HT.out;omega);(have hwk:IntKind.i64.wrap ((k:Int) + 1) = (k:Int) + 1:=by rw [IntKind.wrap_i64];omega);(have hwn:IntKind.i64.wrap ((n:Int) + 1) = (n:Int) + 1:=by rw [IntKind.wrap_i64];omega);obtain ⟨g,rfl,hrg⟩:=HS.out.cs.at hlt;have hget:L[k]? = some L[k]:=List.getElem?_eq_getElem hlt;have hdr:L.drop k = L[k] :: L.drop (k + 1):=(List.drop_eq_getElem_cons hlt);have hf:=HF.out;rw [hdr] at hf;obtain ⟨t1,t2,t3,t4⟩:=HRW.out.ok k _ hget;(have hup:=fun (j:Nat) (d:Caps) (hj:k < j) (hd:L[j]? = some d)=>HRW.out.up k j _ d hj hget hd);have hle:=HAT.out k _ (Nat.le_refl _) hget;generalize L[k] = c at *;have HK:=Hd (show k < L.length /\ k <= 20003 /\ n <= k /\ out.length <= k * 100010000 from ⟨hlt,hkL,hn,hout⟩);have HRG:=Hd hrg;have HFF:=Hd hf;have HCT:=Hd (An t1 (An t2 (An t3 t4)));have HUP:=Hd hup;have HLE:=Hd (An hle hat);have HAT2:=HAT;clear hlt hk hkL hn hout hrg hf t1 t2 t3 t4 hup hle hget hdr HF HAT hat;by_cases hth:(k:Int) + 1 < nth
   ·
    have HF2:=Hd (show fin = subS T fl nth all (L.drop (k + 1)) (k + 1) (at0,n,out) from by rw [HFF.out,subS,if_pos hth]);go_wp2_with (first
     | (refine wpList_load_mid rfl 34 (.tmp 24) rfl g (k * 10) rfl (CC c).toList _ HRG.out Tryz.underlying34 rfl (by kernel_rfl) ?_;simp only [Act.put,List.setIfInBounds_toArray,List.set_cons_zero,List.set_cons_succ])
     | (refine stM 16 25 c (heap_alloc_new _ _) ?_;rw [box_laid];have HS4:=Hd (HS.out.below ((Below.refl _ _).alloc (Nat.le_refl _) (.cells (CC c) 34)));clear HS;generalize World.alloc _ _ = W4 at HS4 ⊢))
    go_roundw;(case rel=>exact ⟨k + 1,at0,n,out,by have:=HK.out;omega,rfl,rfl,by go_num,by have:=HLE.out;omega,by have:=HK.out;omega,by have:=HK.out;omega,Hd (fun j d hj hd=>HAT2.out j d (by omega) hd),HF2,HS4⟩);case measure=>have:=HK.out;simp [intOf];omega
   ·
    have HN2:=Hd hth;go_wp2_with (first
     | (refine wpList_load_mid rfl 34 (.tmp 24) rfl g (k * 10) rfl (CC c).toList _ HRG.out Tryz.underlying34 rfl (by kernel_rfl) ?_;simp only [Act.put,List.setIfInBounds_toArray,List.set_cons_zero,List.set_cons_succ])
     | (refine stM 16 25 c (heap_alloc_new _ _) ?_;rw [box_laid];have HX4:=Hd (heap_alloc_new wr (.cells (CC c) 34));have HS4:=Hd (HS.out.below ((Below.refl _ _).alloc (Nat.le_refl _) (.cells (CC c) 34)));clear HS;generalize World.alloc _ _ = W4 at HS4 HX4 ⊢))
    generalize wr.heap.size = g16 at HX4 ⊢;have HSd:=Hd (HS4.out.below (Below.refl _ _).drew);have HXd:=Hd (show CB W4.drew g16 c from HX4.out);have e1:=ex_cut T at0 (from0 c);(have i1:((at0:Nat):Int) <= ((from0 c:Nat):Int):=by have:=HLE.out;omega);(have i2:((from0 c:Nat):Int) <= ((T.length:Nat):Int):=by have:=HCT.out;omega);(have i3:(0:Int) <= ((at0:Nat):Int):=by omega);have hcl:=cap_cell HXd.out (n:=0) (by decide);rw [HCT.out.2.1] at hcl;have HFR:=Hd (HFA.out c HCT.out.1 HCT.out.2.1);have HTO:=Hd (HTA.out c HCT.out.1 HCT.out.2.1);(have hlen1:(cutT T at0 (from0 c)).length <= 10000:=by have:=HT.out;simp [cutT];omega);(have hadd:=fun w=>run_string_add_sum (P:=Tryz.prog) w ⟨(cutT T at0 (from0 c)).toArray⟩ ⟨(fl c).toArray⟩ (by have:=HFL2.out c;simp only [ByteArray.size,List.size_toArray];omega));rw [app_arr] at hadd;clear HS4 HX4;(refine Tk.g (fun w'=>CB w' g16 c) (by exact HXd.out) fun hH=>?_);generalize World.drew _ = W5 at HSd HXd hcl hH ⊢;refine Tk.t 0 ?_;refine Tk.t 1 ?_;refine Tk.t 2 ?_;refine Tk.t 3 (hy:=by (intro wv hSw;(try dsimp only at hSw);have hc:=cap_cell hSw (n:=0) (by decide);rw [HCT.out.2.1] at hc;go_simp) <;> with_reducible rfl) ?_;refine Tk.t 6 ?_;refine Tk.t 7 ?_;refine Tk.t 8 (hy:=fun _ h=>xlM 16 h) ?_;refine Tk.o 4 (fun K hK=>?_);go_simp
    (go_at_call 39;refine (HFR.out _).mono ?_;rintro e w6 ⟨rfl,rfl⟩)
    (refine hK.out _ _ (by exact HXd.out) fun hH=>Tk.w ?_);clear hK K;refine Tk.t 5 ?_;refine Tk.o 9 (fun K hK=>?_);go_simp
    (go_at_call 56;refine (HFI2.out c HCT.out.1 _ HSd.out.bel).mono ?_;rintro e w7 ⟨rfl,hb⟩;have HS7:=Hd (HSd.out.below hb);have HX7:=Hd ((hb.block _ (lt_heap' HXd.out)).trans HXd.out);clear hb HSd HXd)
    (refine hK.out _ _ (by exact HX7.out) fun hH=>Tk.w ?_);clear hK K;refine Tk.t 10 ?_;refine Tk.o 11 (fun K hK=>?_);go_simp
    (go_at_call 55;refine (writeString_any w.heap.size w.heap.size (Lib.byteCells out) ⟨(cutT T at0 (from0 c) ++ fl c).toArray⟩ _ HS7.out.bld (by have:=HK.out;have:=HFL2.out c;simp only [Lib.byteCells_length,ByteArray.size,List.size_toArray,List.length_append];omega) (by have:=HS7.out.bel.size;omega)).mono ?_;rintro e w8 ⟨rfl,q1,q2,q3⟩;have HS8:=Hd (HS7.out.write q1 q2 q3);have HX8:=Hd (show CB w8 g16 c from q3 g16 _ HX7.out (g16_ne HS7.out.bld HX7.out) (by intro c fz e;simp only [Obj.cells.injEq] at e;exact absurd e.2.1 (by decide)));clear q1 q2 q3 HS7 HX7)
    (refine hK.out _ _ (by exact HX8.out) fun hH=>Tk.w ?_);clear hK K;refine Tk.d ?_;clear hH hcl;have hcl:=cap_cell HX8.out (n:=0) (by decide);rw [HCT.out.2.1] at hcl;cases all with
    | true =>
     have HF2:=Hd (show fin = subS T fl nth true (L.drop (k + 1)) (k + 1) (to0 c,n + 1,out ++ (cutT T at0 (from0 c) ++ fl c)) from by rw [HFF.out,subS,if_neg (show ¬ (k:Int) + 1 < nth from by have:=HN2.out;omega),if_pos rfl]);go_wp2_with (go_at_call 57;refine (HTO.out _).mono ?_;rintro e w9 ⟨rfl,rfl⟩);go_roundw;(case rel=>exact ⟨k + 1,to0 c,n + 1,out ++ (cutT T at0 (from0 c) ++ fl c),by have:=HK.out;omega,rfl,by go_num,by go_num,HCT.out.2.2.2,by have:=HK.out;omega,by have:=HK.out;have:=HFL2.out c;simp only [List.length_append];omega,Hd (fun j d hj hd=>HUP.out j d (by omega) hd),HF2,HS8⟩);case measure=>have:=HK.out;simp [intOf];omega
    | false =>
     have HF2:=Hd (show fin = (to0 c,n + 1,out ++ (cutT T at0 (from0 c) ++ fl c)) from by rw [HFF.out,subS,if_neg (show ¬ (k:Int) + 1 < nth from by have:=HN2.out;omega),if_neg (by simp)]);have e2:=ex_from T (to0 c);(have j1:((to0 c:Nat):Int) <= ((T.length:Nat):Int):=by have:=HCT.out;omega);(have j0:(0:Int) <= ((to0 c:Nat):Int):=by omega);go_wp2_with (go_at_call 57;refine (HTO.out _).mono ?_;rintro e w9 ⟨rfl,rfl⟩);(have hadd2:=fun w=>run_string_add_sum (P:=Tryz.prog) w ⟨(out ++ (cutT T at0 (from0 c) ++ fl c)).toArray⟩ ⟨(T.drop (to0 c)).toArray⟩ (by have:=HFL2.out c;have:=HK.out;have:=HT.out;simp only [ByteArray.size,List.size_toArray,List.length_append,List.length_drop];omega));rw [app_arr] at hadd2;have HSe:=Hd (HS8.out.below (Below.refl _ _).drew);clear HS8 HX8 hcl;refine wp_region_noPanic ?_;refine wp_region_held_drew (S:=fun w'=>True) (by kernel_rfl) trivial (fun hH=>?_);generalize World.drew _ = W6 at HSe hH ⊢;refine Tk.t 1 ?_;refine Tk.t 2 ?_;refine Tk.t 3 ?_;refine Tk.t 5 ?_;refine Tk.o 0 (fun K hK=>?_);go_simp
     (go_at_call 58;refine (Tryz.Builder_String_any_k _ _ (out ++ (cutT T at0 (from0 c) ++ fl c)) _ HSe.out.bld HSe.out.bel.size).mono ?_;rintro e w10 ⟨rfl,g3,g4,g5⟩;have HB:=Hd (HSe.out.bel.trans g4);clear g3 g4 g5 HSe)
     refine hK.out _ _ ?_ (fun hH=>Tk.w ?_)
     · trivial
     clear hK K;refine Tk.t 4 ?_;refine Tk.t 6 ?_;refine Tk.t 7 ?_;refine Tk.d ?_;clear hH;go_wp2
     go_ret2
     refine ⟨?_,HB.out⟩;rw [HRR.out,HF2.out];simp [List.append_assoc]
  ·
   (obtain rfl:k = L.length:=by omega);(have hnl:¬ (L.length:Int) < (L.length:Int):=by omega);have HF2:=Hd (show fin = (at0,n,out) from by have h1:=HF.out;rw [List.drop_length] at h1;rw [h1];rfl);have e2:=ex_from T at0;(have j1:((at0:Nat):Int) <= ((T.length:Nat):Int):=by omega);(have j0:(0:Int) <= ((at0:Nat):Int):=by omega);(have hadd2:=fun w=>run_string_add_sum (P:=Tryz.prog) w ⟨out.toArray⟩ ⟨(T.drop at0).toArray⟩ (by have:=HRW.out.len;have:=HT.out;simp only [ByteArray.size,List.size_toArray,List.length_drop];omega));rw [app_arr] at hadd2;have HSe:=Hd (HS.out.below (Below.refl _ _).drew);clear HS HF hlt hk HAT;go_wp2;refine wp_region_noPanic ?_;refine wp_region_held_drew (S:=fun w'=>True) (by kernel_rfl) trivial (fun hH=>?_);generalize World.drew _ = W6 at HSe hH ⊢;refine Tk.t 1 ?_;refine Tk.t 2 ?_;refine Tk.t 3 ?_;refine Tk.t 5 ?_;refine Tk.o 0 (fun K hK=>?_);go_simp
   (go_at_call 58;refine (Tryz.Builder_String_any_k _ _ (out) _ HSe.out.bld HSe.out.bel.size).mono ?_;rintro e w10 ⟨rfl,g3,g4,g5⟩;have HB:=Hd (HSe.out.bel.trans g4);clear g3 g4 g5 HSe)
   refine hK.out _ _ ?_ (fun hH=>Tk.w ?_)
   · trivial
   clear hK K;refine Tk.t 4 ?_;refine Tk.t 6 ?_;refine Tk.t 7 ?_;refine Tk.d ?_;clear hH;go_wp2
   go_ret2
   refine ⟨?_,HB.out⟩;rw [HRR.out,HF2.out];simp [List.append_assoc]
structure Rest (N:Nat) (L:List Caps) (at0:Nat):Prop where
 ok:∀ c ∈ L,gr c 0 = some (from0 c,to0 c) /\ from0 c <= to0 c /\ to0 c <= N /\ at0 <= from0 c
 up:∀ (i j:Nat) (c d:Caps),i < j -> L[i]? = some c -> L[j]? = some d -> to0 c <= from0 d
theorem Row.rest {N:Nat} {L:List Caps} (h:Row N L):Rest N L 0 :=
 ⟨fun c hc=>by
  obtain ⟨i,hi⟩:=List.mem_iff_getElem?.1 hc;obtain ⟨_,h1,h2,h3⟩:=h.ok i c hi;exact ⟨h1,h2,h3,Nat.zero_le _⟩,h.up⟩
theorem Rest.tail {N:Nat} {c:Caps} {L:List Caps} {at0:Nat} (h:Rest N (c :: L) at0):Rest N L at0 :=
 ⟨fun d hd=>h.ok d (List.mem_cons_of_mem _ hd),fun i j d e hij hd he=>h.up (i + 1) (j + 1) d e (by omega) (by rw [List.getElem?_cons_succ];exact hd) (by rw [List.getElem?_cons_succ];exact he)⟩
theorem Rest.next {N:Nat} {c:Caps} {L:List Caps} {at0:Nat} (h:Rest N (c :: L) at0):Rest N L (to0 c) :=
 ⟨fun d hd=>by
  obtain ⟨h1,h2,h3,_⟩:=h.ok d (List.mem_cons_of_mem _ hd);obtain ⟨i,hi⟩:=List.mem_iff_getElem?.1 hd;exact ⟨h1,h2,h3,h.up 0 (i + 1) c d (by omega) rfl (by rw [List.getElem?_cons_succ];exact hi)⟩,h.tail.up⟩
theorem count_all (T:List UInt8) (fl:Caps -> List UInt8) (nth:Nat):∀ (L:List Caps) (i:Nat) (s:Nat × Nat × List UInt8),(subS T fl (nth:Int) true L i s).2.1 = s.2.1 + (L.length - (nth - 1 - i))
 | [],i,s=>by simp [subS]
 | c :: r,i,s=>by
  unfold subS;split
  · rename_i h;rw [count_all T fl nth r (i + 1) s,List.length_cons];omega
  · rename_i h;rw [if_pos rfl,count_all T fl nth r (i + 1),List.length_cons];dsimp only;omega
theorem count_one (T:List UInt8) (fl:Caps -> List UInt8) (nth:Nat):∀ (L:List Caps) (i:Nat) (s:Nat × Nat × List UInt8),(subS T fl (nth:Int) false L i s).2.1 = s.2.1 + (if L.length <= nth - 1 - i then 0 else 1)
 | [],i,s=>by simp [subS]
 | c :: r,i,s=>by
  unfold subS;split
  ·
   rename_i h;rw [count_one T fl nth r (i + 1) s,List.length_cons]
   congr 1
   by_cases q:r.length <= nth - 1 - (i + 1)
   · rw [if_pos q,if_pos (by omega)]
   · rw [if_neg q,if_neg (by omega)]
  · rename_i h;rw [if_neg (by simp),List.length_cons,if_neg (by omega)]
theorem few_stay (T:List UInt8) (fl:Caps -> List UInt8) (nth:Nat) (all:Bool):∀ (L:List Caps) (i:Nat) (s:Nat × Nat × List UInt8),L.length + i < nth -> subS T fl (nth:Int) all L i s = s
 | [],i,s,_=>rfl
 | c :: r,i,s,h=>by
  rw [List.length_cons] at h;unfold subS;rw [if_pos (by omega)];exact few_stay T fl nth all r (i + 1) s (by omega)
theorem cut_le (T:List UInt8) (a b:Nat):(cutT T a b).length <= b - a:=by unfold cutT;rw [List.length_take];omega
theorem short_run (T:List UInt8) (nth:Int) (all:Bool):∀ (L:List Caps) (i at0 n:Nat) (out:List UInt8),Rest T.length L at0 -> at0 <= T.length -> out.length <= at0 ->
  (subS T (fun _=>[]) nth all L i (at0,n,out)).2.2.length <= (subS T (fun _=>[]) nth all L i (at0,n,out)).1 /\ (subS T (fun _=>[]) nth all L i (at0,n,out)).1 <= T.length
 | [],i,at0,n,out,_,hat,ho=>⟨ho,hat⟩
 | c :: r,i,at0,n,out,h,hat,ho=>by
  obtain ⟨_,h2,h3,h4⟩:=h.ok c List.mem_cons_self;have h5:=cut_le T at0 (from0 c);unfold subS;split
  · exact short_run T nth all r (i + 1) at0 n out h.tail hat ho
  ·
   dsimp only;(have h6:(out ++ (cutT T at0 (from0 c) ++ [])).length <= to0 c:=by simp only [List.append_nil,List.length_append];omega);split
   · exact short_run T nth all r (i + 1) (to0 c) (n + 1) _ h.next h3 h6
   · exact ⟨h6,h3⟩
theorem sub_short {T:List UInt8} {L:List Caps} (hL:Row T.length L) (nth:Int) (all:Bool):(subP T (fun c=>fillP T c []) nth all L).1.length <= T.length:=by
 have h:=short_run T nth all L 0 0 0 [] hL.rest (Nat.zero_le _) (Nat.le_refl _);(have e:(fun c=>fillP T c []) = fun _=>[]:=by funext c;rfl);unfold subP;rw [e];dsimp only;rw [List.length_append,List.length_drop];omega
theorem sub_nth {T:List UInt8} {L:List Caps} (fl:Caps -> List UInt8) (n:Nat) (hn:1 <= n) :
  (subP T fl (n:Int) false L).2 = (if L.length < n then 0 else 1) /\ (subP T fl (n:Int) true L).2 = L.length - (n - 1) /\ (L.length < n -> (subP T fl (n:Int) true L).1 = T):=by
 refine ⟨?_,?_,fun h=>?_⟩
 ·
  unfold subP;dsimp only;rw [count_one];by_cases h:L.length < n
  · rw [if_pos h,if_pos (by omega)]
  · rw [if_neg h,if_neg (by omega)]
 · unfold subP;dsimp only;rw [count_all];simp
 · unfold subP;rw [few_stay T fl n true L 0 _ (by omega)];simp
open St (Wf word mem SV SV_eq ofL wf_ofL bytesL)
def T9:Tr:=.times 0 (-1) (.set (ofL [120]))
theorem bytes_120:bytesL (ofL [120]) = [120]:=by decide +kernel
theorem t9_text:textT T9 = [42,48,44,45,49,59,91,55,56,93]:=by
 (have e0:Lib.itoa 0 = [48]:=by rw [itoa_digit (by decide) (by decide)];rfl);have e1:Lib.itoa (-1) = [45,49]:=by
  unfold Lib.itoa;rw [if_pos (by decide),show Int.natAbs (-1) = 1 from rfl,Lib.decDigits,dif_pos (by decide)];rfl
 simp only [T9,textT];rw [e0,e1,bytes_120];rfl
theorem t9_good:Rx.Good T9:=by
 refine ⟨?_,by decide,by decide⟩;unfold Rx.Whole;simp only [T9,Fine,Tr.rk];decide
theorem t9_sets:SetsOk T9:=wf_ofL _
def R9:List UInt8 × Nat:=([45,97,45,98,45,120,99,45],4)
def l9:List Pt:=[⟨[45],-1⟩,⟨[],0⟩]
theorem t9_sub:R9 = subP [97,98,120,99] (fun c=>fillP [97,98,120,99] c l9) 1 true (allF (longP [97,98,120,99] T9) 4):=by decide +kernel
theorem t9_par:parS [45,38] 0 [] [] = (some l9,0):=by
 rw [par_c (by decide) (by decide) (by decide),par_38,parS.eq_def];rfl
theorem t9_node:nodeA false 120 ⟨[42,48,44,45,49,59,91,55,56,93],[],0,false⟩ = true:=by decide +kernel
theorem t9_kinds:∀ (k:Nat) (h:k < (T9.nodes 0).length),((T9.nodes 0)[k].k = 1 /\ k = 0) \/ (T9.nodes 0)[k].k = 6:=by decide +kernel
theorem t9_len:(T9.nodes 0).length = 2:=rfl
theorem sshown_any (w:World) (hL:Lay w) :
  Calls Tryz.prog 29 #[] w fun e w'=>e = .returned (.bool true) /\ Below w.heap.size w w':=by
 have hp:=parse_text t9_good t9_sets;rw [t9_text] at hp;have HP0:=parse_any7 [42,48,44,45,49,59,91,55,56,93] w hL (by decide) T9 t9_good t9_text hp t9_node t9_kinds;unfold ParseR at HP0;rw [hp] at HP0;have HP:=Hd HP0;(have hpp:=fun W=>sparse_any [45,38] (by decide) W _ t9_par);unfold ParAns at hpp;dsimp only at hpp;have HPP:=Hd hpp;have HSU:=Hd (fun (g cap:Nat) (pa:Option Addr) (pc:Nat) (W:World) (h:Ns W (.slice (some ⟨g,0,none⟩) (T9.nodes 0).length cap) (T9.nodes 0)) (hpi:PIn W pa l9) =>
  sub_any (.slice (some ⟨g,0,none⟩) (T9.nodes 0).length cap) pa pc l9 [97,98,120,99] (by decide) 1 true (by decide) (by decide) (allF (longP [97,98,120,99] T9) 4) (row_all (fok_long _ _)) W hpi (fun W2 hb2=>all_any none_ok (some ⟨g,0,none⟩) (T9.nodes 0).length cap [97,98,120,99] (by decide) (longP [97,98,120,99] T9) (fok_long _ _) W2 (fun W3 i hW hi=>Longest_yes T9 t9_good t9_sets _ cap W3 ((h.below hb2).below hW) [97,98,120,99] (by decide) i hi _ rfl)) R9 t9_sub)
 have hln:=t9_len;generalize T9.nodes 0 = l at *;have HLN:=Hd hln;rw [hln] at HSU;clear hln HP0 hp hL hpp;go_enter Tryz.func29,Tryz.ntmps29;go_wp2_with (first
  | (go_at_call 37;refine HP.out.mono ?_;rintro e w1 ⟨hb,hr⟩;rcases hr with ⟨q,_⟩ | ⟨l',v,hq,rfl,ho⟩;exact absurd q (by intro q;cases q);obtain rfl:=Option.some.inj hq;have HB1:=Hd hb;have HNS:=Hd (own_ns ho);obtain ⟨g,cap,rfl,hcap⟩:∃ g cap,v = .slice (some ⟨g,0,none⟩) 2 cap /\ 2 <= cap:=(by rcases own_forms ho with ⟨_,h0⟩ | ⟨g,cap,hv,hc⟩;(have:=HLN.out;omega);(rw [HLN.out] at hv hc;exact ⟨g,cap,hv,hc⟩));clear hb ho hq hcap)
  | (go_at_call 33;refine (HPP.out _).mono ?_;rintro e w2 ⟨v2,rfl,ho,hb⟩;obtain ⟨pa,pc,rfl,hpi⟩:=pin_own ho;have HB2:=Hd (HB1.out.trans (hb.mono HB1.out.size));have HNS2:=Hd (HNS.out.below hb);have HPI:=Hd hpi;rw [show l9.length = 2 from rfl];clear hb ho hpi)
  | (go_at_call 31;refine (HSU.out g cap pa pc _ HNS2.out HPI.out).mono ?_;rintro e w3 ⟨rfl,hb⟩;have HB3:=Hd (HB2.out.trans (hb.mono HB2.out.size));rw [show R9.1 = [45,97,45,98,45,120,99,45] from rfl,show R9.2 = 4 from rfl];clear hb))
 go_ret;exact ⟨rfl,HB3.out⟩
end Go.Proofs.YtinallojhkaogaaGreatDoor.Mt
