/- The texts RxS MtB0 RxSh SnR SnB SnS SnM. -/
import Derived.ProofKit
import Derived.OpenShut
import Derived.Carry
import Derived.Deep.Grids
import Derived.Laws.IdiomArrays
import Derived.Lib.LaidTab
import Derived.Test.YtinallojhkaogaaGreatDoorHk10
set_option linter.unusedVariables false
set_option linter.unusedSimpArgs false
set_option maxHeartbeats 3200000
set_option maxRecDepth 100000
namespace Go.Proofs.YtinallojhkaogaaGreatDoor.Rx
open Go.RowKit Go.Shelf
open St (Wf word zeroW)
theorem run_eq4r (a b c d a' b' c' d':Nat) (q:Nat) (w:World):(Op.equalIn (q + 2) 69 (.agg #[U a,U b,U c,U d]) (.agg #[U a',U b',U c',U d'])).run Tryz.prog w = .ok (decide (a = a' /\ b = b' /\ c = c' /\ d = d')) w:=by
 have u3:=Tryz.underlying68;have a3:=Tryz.isAgg68;have z3:=Tryz.sizeOf68;rw [show (q + 2:Nat) = (q + 1) + 1 from rfl,Op.equalIn];simp only [Sem.run_bind,run_underlying Tryz.underlying69,Result.andThen_ok];simp only [Std.Legacy.Range.forIn_eq_forIn_range',Std.Legacy.Range.size,Nat.sub_zero,Nat.add_sub_cancel,Nat.div_one,List.range'_succ,List.range'_zero,List.forIn_cons,List.forIn_nil];by_cases ha:a = a'
 ·
  subst ha;by_cases hb:b = b'
  ·
   subst hb;by_cases hc:c = c'
   ·
    subst hc;by_cases hd:d = d'
    · subst hd;go_simp
    · (have hdB:((d:Int) == d') = false:=by simp;omega);go_simp
   · (have hdB:((c:Int) == c') = false:=by simp;omega);go_simp
  · (have hdB:((b:Int) == b') = false:=by simp;omega);go_simp
 · (have hdB:((a:Int) == a') = false:=by simp;omega);go_simp
theorem run_eqR (n m:Nd) (hn:Wf n.s) (hm:Wf m.s) (w:World):(Op.equalIn 10000 87 (NV n) (NV m)).run Tryz.prog w = .ok (decide (n = m)) w:=by
 obtain ⟨k,s,a,b,mn,mx,x⟩:=n;obtain ⟨k',s',a',b',mn',mx',x'⟩:=m;dsimp only at hn hm;(have H4:=fun W=>run_eq4r (word s 0) (word s 1) (word s 2) (word s 3) (word s' 0) (word s' 1) (word s' 2) (word s' 3) 9997 W);(have ne:∀ {p q:Int},p ≠ q -> (p == q) = false:=fun h=>by simpa using h);by_cases hk:k = k'
 ·
  subst hk;by_cases hs:s = s'
  ·
   subst hs;simp only [true_and,decide_true] at H4;by_cases ha:a = a'
   ·
    subst ha;by_cases hb:b = b'
    ·
     subst hb;by_cases hmn:mn = mn'
     ·
      subst hmn;by_cases hmx:mx = mx'
      ·
       subst hmx;by_cases hx:x = x'
       · subst hx;go_simp
       · have hB:=ne hx;rw [decide_eq_false (by simpa using hx)];go_simp
      · have hB:=ne hmx;rw [decide_eq_false (by simp [hmx])];go_simp
     · have hB:=ne hmn;rw [decide_eq_false (by simp [hmn])];go_simp
    · have hB:=ne hb;rw [decide_eq_false (by simp [hb])];go_simp
   · have hB:=ne ha;rw [decide_eq_false (by simp [ha])];go_simp
  ·
   have h4:(decide (word s 0 = word s' 0 /\ word s 1 = word s' 1 /\ word s 2 = word s' 2 /\ word s 3 = word s' 3)) = false:=by
    rw [decide_eq_false_iff_not,<- word_eq hn hm];exact hs
   simp only [h4] at H4;rw [decide_eq_false (by simp [hs])];go_simp
 · have hB:=ne hk;rw [decide_eq_false (by simp [hk])];go_simp
theorem own_nsR {w:World} {B:Nat} {v:Value} {l:List Nd} (h:w.ownsRow B 87 10 v l.length (flat l)):Ns w v l:=by
 rcases h.2 with ⟨rfl,h0⟩ | ⟨g,cap,cur,rfl,h1,h2,h3,h4,h5,h6⟩
 · refine ⟨none,0,by rw [h0],fun i hi=>?_⟩;omega
 · refine ⟨some ⟨g,0,none⟩,cap,rfl,fun i hi=>⟨g,0,rfl,ncell_flat hi fun r hr=>?_⟩⟩;rw [Lib.cell_of_heap h2,<- h6,Nat.zero_add,List.getElem?_take_of_lt (by omega)];simp
end Go.Proofs.YtinallojhkaogaaGreatDoor.Rx
namespace Go.Proofs.YtinallojhkaogaaGreatDoor.Mt
open Go.RowKit Go.Shelf
open Rx
def cntK (l:List Nd) (q:Int) (k:Nat):Nat:=((l.take k).filter fun n=>decide (n.k = q)).length
theorem cnt_next (l:List Nd) (q:Int) {k:Nat} (hk:k < l.length):cntK l q (k + 1) = cntK l q k + (if l[k].k = q then 1 else 0):=by
 unfold cntK;rw [List.take_succ_eq_append_getElem hk,List.filter_append,List.length_append,List.filter_cons,List.filter_nil];by_cases h:l[k].k = q
 · rw [if_pos h,decide_eq_true h];rfl
 · rw [if_neg h,decide_eq_false h];rfl
theorem cnt_le (l:List Nd) (q:Int) (k:Nat):cntK l q k <= k:=by
 unfold cntK;exact Nat.le_trans (List.length_filter_le _ _) (by simp;omega)
def boundedL (a b c:Nat) (l:List Nd) (m:Nat):Bool:=decide (l.length <= a) && (decide (m <= b) && (decide (cntK l 8 l.length = 0) || (decide (cntK l 6 l.length <= 2) && decide (m <= c))))
theorem u8_nat {a:Int} (h:(Lit.int .u8 a).wf = true):∃ x:Nat,a = (x:Int) /\ x < 256:=by
 have hb:0 <= a /\ a < 256:=by
  simp [Lit.wf,IntKind.min,IntKind.max,IntKind.signed,IntKind.bits] at h;omega
 exact ⟨a.toNat,by omega,by omega⟩
end Go.Proofs.YtinallojhkaogaaGreatDoor.Mt
namespace Go.Proofs.YtinallojhkaogaaGreatDoor.Rx
open Go.RowKit Go.Shelf
open Tr
open St (Wf word zeroW SV SV_eq ofL wf_ofL of_any bytesL)
structure SH (w:World) (sa:List Nat) (l:List Nd) (g cap:Nat) (w':World):Prop where
 ns:Ns w' (.slice (some ⟨g,0,none⟩) 4 cap) l
 bel:Below w.heap.size w w'
 n0:l[0]? = some ⟨1,sa,0,0,0,0,0⟩
 l4:l.length = 4
theorem SH.below {w w1 w2:World} {sa:List Nat} {l:List Nd} {g cap:Nat} (h:SH w sa l g cap w1) (hb:Below w1.heap.size w1 w2):SH w sa l g cap w2 :=
 ⟨h.ns.below hb,h.bel.trans (hb.mono h.bel.size),h.n0,h.l4⟩
theorem SH.cells {w w':World} {sa:List Nat} {l:List Nd} {g cap:Nat} (h:SH w sa l g cap w') :
  w'.cell? ⟨g,1,none⟩ = some (U (word sa 0)) /\ w'.cell? ⟨g,2,none⟩ = some (U (word sa 1)) /\ w'.cell? ⟨g,3,none⟩ = some (U (word sa 2)) /\ w'.cell? ⟨g,4,none⟩ = some (U (word sa 3)):=by
 have h4:=h.l4;obtain ⟨B,o,hq,q0,q1,q2,q3,q4,_⟩:=h.ns.at (i:=0) (by omega);simp only [Option.some.injEq,Addr.mk.injEq,and_true] at hq;obtain ⟨rfl,rfl⟩:=hq;have e:l[0]'(by omega) = ⟨1,sa,0,0,0,0,0⟩:=by
  have:=h.n0;rw [List.getElem?_eq_getElem (by omega)] at this;exact Option.some.inj this
 rw [e] at q1 q2 q3 q4;simp only [Nat.zero_mul,Nat.zero_add] at q1 q2 q3 q4;exact ⟨q1,q2,q3,q4⟩
open Go.RowKit Go.ChangeShapes Go.WideShapes Go.Joins Go.Deep
open St (Wf word Tab)
theorem laidOut:laidOutB Tryz.prog = true:=by kernel_rfl
theorem carryAll {H:Type} {enc:TypeId × Value -> H} {W W':World} (hb:Below W.heap.size W W'):∀ {ts:List TypeId} {vs:List Value} {ds:List (DataW H)} {ps:List MemPlace},
  (∀ t ∈ ts,Tryz.prog.readableRec t = true /\ t < Tryz.prog.types.size) -> DataW.TrodAll enc Tryz.prog W 0 (fun _=>true) true ts vs ds ps -> (∀ x ∈ ps,x.block < W.heap.size) ->
  DataW.TrodAll enc Tryz.prog W' 0 (fun b=>decide (b < W.heap.size)) true ts vs ds ps
 | [],vs,ds,ps,_,h,_=>by
  obtain ⟨rfl,rfl,rfl⟩:=trodAll_nil h;exact trodAll_mk0
 | t :: ts,vs,ds,ps,hr,h,hl=>by
  obtain ⟨v,vs',d,ds',p,q,rfl,rfl,rfl,h0,hs⟩:=trodAll_cons h;exact trodAll_cons_mk (Below.trod laidOut (hr t (by simp)).1 (hr t (by simp)).2 h0 hb (fun x hx=>hl x (by simp [hx])))
   (carryAll hb (fun u hu=>hr u (by simp [hu])) hs (fun x hx=>hl x (by simp [hx])))
theorem cellsNd:Tryz.prog.cellsOf 72 = 10:=by kernel_rfl
theorem cellsIn:Tryz.prog.cellsOf 3 = 1:=by kernel_rfl
theorem cellsU64:Tryz.prog.cellsOf 68 = 1:=by kernel_rfl
theorem cellsSet:Tryz.prog.cellsOf 70 = 4:=by kernel_rfl
theorem u64_nat {a:Int} (h:(Lit.int .u64 a).wf = true):∃ n:Nat,a = (n:Int) /\ n < 2 ^ 64:=by
 simp [Lit.wf,IntKind.min,IntKind.max,IntKind.signed,IntKind.bits] at h;exact ⟨a.toNat,by omega,by omega⟩
section
variable {H:Type} {enc:TypeId × Value -> H} {w:World} {base:Nat} {held:Bool} {r:Reach} {b0:Nat} {v:Value} {d:DataW H} {ps:List MemPlace}
theorem trod_set {spare:Nat -> Bool} {n:Nat} {c0 c1 c2 c3:Value} {x:DataW H × List MemPlace} (h:DataW.trod enc Tryz.prog w base spare held n 70 [c0,c1,c2,c3] = some x):∃ s:List Nat,Wf s /\ c0 = U (word s 0) /\ c1 = U (word s 1) /\ c2 = U (word s 2) /\ c3 = U (word s 3):=by
 obtain ⟨y0,y1,y2,y3,n,hx,h0,h1,h2,h3⟩:=trod_array4 Tryz.underlying70 cellsU64 h;obtain ⟨n0,e0,rfl,w0⟩:=DataW.trod_int Tryz.underlying68 h0;obtain ⟨n1,e1,rfl,w1⟩:=DataW.trod_int Tryz.underlying68 h1;obtain ⟨n2,e2,rfl,w2⟩:=DataW.trod_int Tryz.underlying68 h2;obtain ⟨n3,e3,rfl,w3⟩:=DataW.trod_int Tryz.underlying68 h3;obtain ⟨n0,rfl,b0⟩:=u64_nat w0;obtain ⟨n1,rfl,b1⟩:=u64_nat w1;obtain ⟨n2,rfl,b2⟩:=u64_nat w2;obtain ⟨n3,rfl,b3⟩:=u64_nat w3;(obtain rfl:c0 = _:=by simpa using e0);(obtain rfl:c1 = _:=by simpa using e1);(obtain rfl:c2 = _:=by simpa using e2);(obtain rfl:c3 = _:=by simpa using e3);exact ⟨[n0,n1,n2,n3],⟨rfl,by simp [b0,b1,b2,b3]⟩,rfl,rfl,rfl,rfl⟩
instance:Inhabited Nd:=⟨⟨0,z4,0,0,0,0,0⟩⟩
theorem open_nodes (hv:Value.okWide Tryz.prog w r b0 22 v) (hd:DataW.Trod enc Tryz.prog w base (fun _=>true) held 22 v d ps):∃ (ao:Option Addr) (c:Nat) (l:List Nd),v = .slice ao l.length c /\ l.length <= maxLen /\ Ns w (.slice ao l.length c) l /\ ∀ n ∈ l,Wf n.s:=by
 obtain ⟨a0,l0,c0,rfl⟩:=okWide_slice Tryz.underlying22 hv;obtain ⟨fuel,hf⟩:=hd;rcases open_slice Tryz.underlying22 hf with ⟨e,_⟩ | ⟨a,len,cap,m,n,D,Pl,hcs,hb,hl,hm,hmm,hx,hi⟩
 · simp only [Value.cells,List.cons.injEq,and_true] at e;(obtain ⟨rfl,rfl,rfl⟩:a0 = none /\ l0 = 0 /\ c0 = 0:=by simpa using e);exact ⟨none,0,[],rfl,by simp,⟨none,0,rfl,fun i hi=>absurd hi (by simp)⟩,by simp⟩
 ·
  (obtain ⟨rfl,rfl,rfl⟩:a0 = some a /\ l0 = len /\ c0 = cap:=by simpa [Value.cells] using hcs);have hsp0:0 < l0 -> a.spot = none:=fun h0=>by
   obtain ⟨cs',hc,_⟩:=hi 0 (by simp at hmm;omega);rw [cellsNd] at hc;obtain ⟨_,hcl,hat⟩:=World.cells?_some hc;have g:=World.cell?_spot ((hat 0 (by omega)).trans (List.getElem?_eq_getElem (by rw [hcl];omega)));simpa [Addr.add] using g
  obtain ⟨f,hF⟩:=choose_lt (α:=Nd) (n:=l0) (p:=fun i q=>a.spot = none /\ NCell w a.block (a.off + i * 10) q /\ Wf q.s) (fun i hlt=>by
   obtain ⟨cs',hc,ht'⟩:=hi i (by simp at hmm;omega);rw [cellsNd] at hc;obtain ⟨ys,n',_,_,hlen,hyl,hf⟩:=DataW.trod_struct Tryz.underlying72 ht';(have hz:∀ i:Nat,i < 7 -> ∃ y,ys[i]? = some y:=fun i hi=>⟨_,List.getElem?_eq_getElem (by rw [hyl];exact hi)⟩);obtain ⟨z0,hz0⟩:=hz 0 (by omega);obtain ⟨z1,hz1⟩:=hz 1 (by omega);obtain ⟨z2,hz2⟩:=hz 2 (by omega);obtain ⟨z3,hz3⟩:=hz 3 (by omega);obtain ⟨z4',hz4⟩:=hz 4 (by omega);obtain ⟨z5,hz5⟩:=hz 5 (by omega);obtain ⟨z6,hz6⟩:=hz 6 (by omega);obtain ⟨_,hcl,hat⟩:=World.cells?_some hc;rw [cellsNd] at hlen
   match cs',hlen with
   | [v0,v1,v2,v3,v4,v5,v6,v7,v8,v9],_ =>
    obtain ⟨x0,e0,_,w0⟩:=DataW.trod_int Tryz.underlying3 ((hf 0 _ rfl).trans hz0);have h1:=(hf 1 _ rfl).trans hz1;obtain ⟨x2,e2,_,w2⟩:=DataW.trod_int Tryz.underlying3 ((hf 2 _ rfl).trans hz2);obtain ⟨x3,e3,_,w3⟩:=DataW.trod_int Tryz.underlying3 ((hf 3 _ rfl).trans hz3);obtain ⟨x4,e4,_,w4⟩:=DataW.trod_int Tryz.underlying3 ((hf 4 _ rfl).trans hz4);obtain ⟨x5,e5,_,w5⟩:=DataW.trod_int Tryz.underlying3 ((hf 5 _ rfl).trans hz5);obtain ⟨x6,e6,_,w6⟩:=DataW.trod_int Tryz.underlying3 ((hf 6 _ rfl).trans hz6);simp [cellsIn] at e0 e2 e3 e4 e5 e6;subst e0 e2 e3 e4 e5 e6;simp [cellsSet] at h1;obtain ⟨s,hs,rfl,rfl,rfl,rfl⟩:=trod_set h1;have hsp:=hsp0 (by omega);refine ⟨⟨x0,s,x2,x3,x4,x5,x6⟩,hsp,?_,hs⟩;obtain ⟨ab,ao,asp⟩:=a;dsimp only at hsp;subst hsp;(have hg:∀ j,j < 10 -> (((⟨ab,ao,none⟩:Addr).add (i * 10)).add j) = ⟨ab,ao + i * 10 + j,none⟩:=fun j _=>by rw [Addr.add_lit,Addr.add_lit]);(have k:∀ (j:Nat),j < 10 -> w.cell? ⟨ab,ao + i * 10 + j,none⟩ = w.cell? (((⟨ab,ao,none⟩:Addr).add (i * 10)).add j):=fun j hj=>by rw [hg j hj]);exact ⟨(k 0 (by decide)).trans (hat 0 (by omega)),(k 1 (by decide)).trans (hat 1 (by omega)),(k 2 (by decide)).trans (hat 2 (by omega)),(k 3 (by decide)).trans (hat 3 (by omega)),(k 4 (by decide)).trans (hat 4 (by omega)),(k 5 (by decide)).trans (hat 5 (by omega)),(k 6 (by decide)).trans (hat 6 (by omega)),(k 7 (by decide)).trans (hat 7 (by omega)),(k 8 (by decide)).trans (hat 8 (by omega)),(k 9 (by decide)).trans (hat 9 (by omega))⟩)
  (have hsz:((List.range l0).map f).length = l0:=by simp);refine ⟨some a,c0,(List.range l0).map f,by simp,by simp;omega,?_,?_⟩
  · refine ⟨some a,c0,rfl,fun i hi'=>?_⟩;(have hil:i < l0:=by simpa using hi');(have e:((List.range l0).map f)[i] = f i:=by simp);rw [e];obtain ⟨hs,hn,_⟩:=hF i hil;obtain ⟨ab,ao,asp⟩:=a;dsimp only at hs;subst hs;exact ⟨ab,ao,rfl,hn⟩
  · intro n hn;obtain ⟨i,hi',rfl⟩:=List.mem_map.1 hn;exact (hF i (by simpa using hi')).2.2
end
theorem lt_of_cell {W:World} {g j:Nat} {v:Value} (h:W.cell? ⟨g,j,none⟩ = some v):g < W.heap.size:=by
 rcases Nat.lt_or_ge g W.heap.size with hl | hl
 · exact hl
 · exfalso;have hn:W.heap[g]? = none:=Array.getElem?_eq_none hl;simp [World.cell?,hn] at h
theorem tab_of {W:World} (h:Go.Lib.TabIs Tryz.prog W "math/bits.deBruijn64tab" .u8 (Go.Lib.deBruijn64tab.map fun n:Nat=>(n:Int))) (hg:Tryz.prog.globalNamed "math/bits.deBruijn64tab" = some 2):Tab W /\ 2 < W.heap.size:=by
 have hc:∀ j,j < Go.Lib.deBruijn64tab.length -> W.cell? ⟨2,j,none⟩ = some (.int .u8 (Go.Lib.deBruijn64tab.getD j 0:Nat)):=by
  intro j hj;rw [h.cell hg j (by simpa using hj)];simp [List.getD,hj]
 exact ⟨hc,lt_of_cell (hc 0 (by decide))⟩
theorem errs_of {W:World} {a b:Value} (h1:W.cell? ⟨3,0,none⟩ = some a) (h2:W.cell? ⟨4,0,none⟩ = some b)
  (e1:a = .nilIface \/ ∃ te pe,a = .iface te pe) (e2:b = .nilIface \/ ∃ te pe,b = .iface te pe):Errs W :=
 ⟨⟨a,h1,e1⟩,⟨b,h2,e2⟩,lt_of_cell h1,lt_of_cell h2⟩
open St (Wf word zeroW Tab SV SV_eq)
theorem may_none {l:List Nd} (h:mayL l = false):textL l = []:=by
 unfold mayL at h;have:patOf l = none:=by
  cases hp:patOf l with
  | none=>rfl
  | some t=>rw [hp] at h;cases h
 unfold textL;rw [this]
open St (Wf word zeroW Tab SV SV_eq wf_two wf_orL wf_ofL wf_zero orL ofL)
open Ad (cutB atoiV)
def okP:List UInt8 -> Bool
 | c :: d :: r=>(pairV c d).2 && okP r
 | _=>true
theorem ok_pair {c d:UInt8} {t:List UInt8} (h:okP (c :: d :: t) = true):(pairV c d).2 = true /\ okP t = true:=by
 unfold okP at h
 rwa [Bool.and_eq_true] at h
def nodeA (B:Bool):Nat -> Rd -> Bool
 | 0,_=>false
 | left + 1,r=>!r.bad && decide (r.l.length <= 120) && match r.rest with
  | []=>false
  | c :: t =>
   if c = 91 then !(untilP 93 ⟨t,r.l,r.g,false⟩).1.bad && okP (untilP 93 ⟨t,r.l,r.g,false⟩).2
   else if c = 42 then nodeA B left (numP 59 (numP 44 ⟨t,r.l,r.g,false⟩).1).1
   else if c = 38 then B && (nodeA B left ⟨t,r.l,r.g,false⟩ && nodeA B left (nodeP left ⟨t,r.l,r.g,false⟩).1)
   else if c = 40 then B && (nodeA B left ⟨t,r.l,r.g + 1,false⟩ && (!(nodeP left ⟨t,r.l,r.g + 1,false⟩).1.bad && Lib.hasPrefix (nodeP left ⟨t,r.l,r.g + 1,false⟩).1.rest [41]))
   else false
theorem nodeA_out {B:Bool} {left:Nat} {s:List UInt8} {l:List Nd} {g:Int} {bad:Bool} (h:nodeA B (left + 1) ⟨s,l,g,bad⟩ = true):bad = false /\ l.length <= 120 /\ ∃ c t,s = c :: t /\ (c = 91 \/ c = 42 \/ (B = true /\ (c = 38 \/ c = 40))):=by
 unfold nodeA at h;rw [Bool.and_eq_true,Bool.and_eq_true] at h;obtain ⟨⟨h1,h2⟩,h3⟩:=h;refine ⟨by simpa using h1,of_decide_eq_true h2,?_⟩;cases s with
 | nil=>cases h3
 | cons c t =>
  refine ⟨c,t,rfl,?_⟩;dsimp only at h3;by_cases e1:c = 91
  · exact Or.inl e1
  rw [if_neg e1] at h3;by_cases e2:c = 42
  · exact Or.inr (Or.inl e2)
  rw [if_neg e2] at h3;by_cases e3:c = 38
  · rw [if_pos e3,Bool.and_eq_true] at h3;exact Or.inr (Or.inr ⟨h3.1,Or.inl e3⟩)
  rw [if_neg e3] at h3;by_cases e4:c = 40
  · rw [if_pos e4,Bool.and_eq_true] at h3;exact Or.inr (Or.inr ⟨h3.1,Or.inr e4⟩)
  rw [if_neg e4] at h3;cases h3
theorem nodeA_s {B:Bool} {left:Nat} {t:List UInt8} {l:List Nd} {g:Int} (h:nodeA B (left + 1) ⟨91 :: t,l,g,false⟩ = true):(untilP 93 ⟨t,l,g,false⟩).1.bad = false /\ okP (untilP 93 ⟨t,l,g,false⟩).2 = true:=by
 unfold nodeA at h;rw [Bool.and_eq_true] at h;have h3:=h.2;dsimp only at h3;rw [if_pos rfl,Bool.and_eq_true] at h3;exact ⟨by simpa using h3.1,h3.2⟩
theorem nodeA_m {B:Bool} {left:Nat} {t:List UInt8} {l:List Nd} {g:Int} (h:nodeA B (left + 1) ⟨42 :: t,l,g,false⟩ = true):nodeA B left (numP 59 (numP 44 ⟨t,l,g,false⟩).1).1 = true:=by
 unfold nodeA at h;rw [Bool.and_eq_true] at h;exact h.2
def Below2 (B:Bool) (w0:World) (b left:Nat):Prop:=∀ (r:Rd) (v:Value) (w:World),RW w0 b r v w -> Rin r -> nodeA B left r = true -> Calls Tryz.prog 65 #[PT b,E (left:Nat)] w (NodeAns w0 b left r v w)
theorem below_any1 {B:Bool} {w0 w1 w:World} {b left:Nat} {v1 v:Value} {n:Nd} {r:Rd} {lf:Int} (IH:Below2 B w0 b left) (hlf:lf = ((left + 1:Nat):Int)) (hle:left <= 1000) (h:ST w0 b w1 v1 lf n r v w) (hr:Rin r) (hA:nodeA B left r = true) :
  Calls Tryz.prog 85 #[PT w1.heap.size,PT (w1.heap.size + 1)] w fun e w'=>∃ v',e = .returned (E ((nodeP left r).2:Nat)) /\ ST w0 b w1 v1 lf n (nodeP left r).1 v' w':=by
 have HI:=Hd (IH r v w h.rw hr hA);(have hsub:IntKind.i64.wrap (lf - 1) = ((left:Nat):Int):=by rw [IntKind.wrap_i64];omega);have HS:=Hd h;obtain ⟨⟨d0,d1⟩,_,_⟩:=HS.out.facts;clear h hlf IH;go_enter Tryz.func85,Tryz.ntmps85;go_wp2_with (go_at_call 65;refine HI.out.mono ?_;rintro e w2 ⟨v2,rfl,hr2,hk2⟩;have HS2:=Hd (HS.out.step hr2 hk2);clear hr2 hk2);go_ret;exact ⟨_,rfl,HS2.out⟩
open St (Wf word zeroW Tab SV SV_eq SB put4 ls2 wf_two or_any of_any orL ofL wf_ofL orL_spec wf_orL Ls wf_zero wc_eq put4_below)
theorem rbytes_any1 (w0:World) (b:Nat) (r:Rd) (v:Value) (w:World) (h:RW w0 b r v w) (hL:Lay w0) (hl:r.rest.length <= 100000) (hB:(untilP 93 r).1.bad = false) (hP:okP (untilP 93 r).2 = true) :
  Calls Tryz.prog 86 #[PT b] w fun e w'=>e = .returned (SV (setP r).2) /\ Rel w0 b w v (setP r).1 w':=by
 have HLL:=Hd hL;have hsz0:=h.bel.size;have HSZ0:=Hd hsz0;have HA:=(Below.refl w.heap.size w).alloc (Nat.le_refl _) (.cells #[.int .u64 0,.int .u64 0,.int .u64 0,.int .u64 0] 70);have HRa:=h.below HA;have HKa:=(Kr.refl b w v).below HA;have HU:=Hd (until_any w0 b r v 93 _ HRa hl);have HSB:=Hd (show SB (w.alloc (.cells #[.int .u64 0,.int .u64 0,.int .u64 0,.int .u64 0] 70)) w.heap.size zeroW from heap_alloc_new _ _);have HKa:=Hd HKa;(have hkb:w.heap.size ≠ b:=by have:=h.lt;omega);have hkv:v.ownBlock ≠ some w.heap.size:=by
  intro q;rcases own_forms h.own with ⟨rfl,_⟩ | ⟨g,cap,rfl,_⟩
  · cases q
  · have h1:=(h.own.lt g rfl).2;simp only [Value.ownBlock,Option.some.injEq] at q;omega
 have HKB:=Hd hkb;have HKV:=Hd hkv;have hlen:=until_rest 93 r;obtain ⟨y,l,g,bad0,x0,hu⟩:∃ y l g bad x,untilP 93 r = (⟨y,l,g,bad⟩,x):=⟨_,_,_,_,_,rfl⟩;have hlg:l = r.l /\ g = r.g:=by
  have:=congrArg Prod.fst hu;unfold untilP at this;simp only [Rd.mk.injEq] at this;exact ⟨this.2.1.symm,this.2.2.1.symm⟩
 rw [hu] at HU hlen hB hP;dsimp only at hlen hB hP;subst hB;have HO:=Hd (show setP r = (⟨y,l,g,(pairsP x0 zeroW false).2⟩,(pairsP x0 zeroW false).1) from by unfold setP;rw [hu];rw [hlg.1,hlg.2]);(have hx0:x0.length <= 100000:=by omega);have hn93:(93:UInt8) = 93:=rfl;clear hu h hL hlg HA HRa hkb hkv hsz0 hlen hn93;go_enter Tryz.func86,Tryz.ntmps86;go_wp2_with (go_at_call 112;refine HU.out.mono ?_;rintro e w1 ⟨rfl,hr,hkr⟩;have HS1:=Hd (RS.mk hr (HKa.out.trans hkr) ((hkr.far w.heap.size (by simp) HKB.out HKV.out).1.trans HSB.out) HKB.out HKV.out (Nat.le_refl _));clear hr hkr);go_loopw [3] (fun d wr=>∃ (ds:List UInt8) (s:List Nat),okP ds = true /\ d = S ds /\ ds.length <= 100000 /\ Hid (pairsP x0 zeroW false = pairsP ds s false) /\ Hid (RS w0 b ⟨y,l,g,false⟩ v w.heap.size s w wr) /\ Hid (Wf s)) (fun d _=>(match d with | .string s=>s.size | _=>0));(case atStart=>exact ⟨x0,zeroW,hP,rfl,hx0,Hd rfl,HS1,Hd wf_zero⟩);case round =>
  clear HS1;clear hP;obtain ⟨ds,s,hPk,rfl,hdl,HP,HS,HW⟩:=hrel;(have hsz:(ByteArray.mk ds.toArray).size = ds.length:=by simp [ByteArray.size]);have hws:=HW.out;obtain ⟨⟨c0,c1,c2,c3⟩,f0,f1,f2,f3⟩:=HS.out.facts hws;by_cases h2:1 < ds.length
  ·
   obtain ⟨c,d,t,rfl⟩:∃ c d t,ds = c :: d :: t:=by
    match ds,h2 with
    | c :: d :: t,_=>exact ⟨c,d,t,rfl⟩
    | [_],h2=>simp at h2
    | [],h2=>simp at h2
   (have h2':(1:Int) < (((c :: d :: t).length:Nat):Int):=by omega);(have h2'':(2:Int) <= (((c :: d :: t).length:Nat):Int):=by omega);have e1:=ex_take (l:=c :: d :: t) 2;have e2:=ex_drop (l:=c :: d :: t) 2;simp only [List.take_succ_cons,List.take_zero] at e1;simp only [List.drop_succ_cons,List.drop_zero] at e2;have hle:(c :: d :: t).length = t.length + 2:=rfl;have HN0:=Hd (show pairsP (c :: d :: t) s false = pairsP t (orL [s,ofL [UInt8.ofNat (pairV c d).1]]) (false || !(pairV c d).2) from rfl);obtain ⟨hok,hPt⟩:=ok_pair hPk;clear hPk;generalize c :: d :: t = ds at e1 e2 h2' h2'' hsz hle HP HN0 hdl h2 ⊢;have CPU:=Hd (fun (W:World) (hW:Errs W)=>pub_pair c d W hW);obtain ⟨q,hq⟩:∃ q:UInt8,(pairV c d).1 = q.toNat:=⟨UInt8.ofNat (pairV c d).1,by have:=pairV_lt c d;simp;omega⟩;(have hqn:UInt8.ofNat (pairV c d).1 = q:=by rw [hq];simp);rw [hqn] at HN0;rw [hq] at CPU;clear hqn hq;(have hqw:IntKind.u8.wrap (q.toNat:Int) = (q.toNat:Int):=by have:=UInt8.toNat_lt q;rw [IntKind.wrap_u8];omega);have CO:=Hd (fun (W:World)=>by
    have h1:=of_any [q] W (by simp);rw [SV_eq (wf_ofL [q])] at h1;exact h1)
   have hos:=wf_orL (wf_two hws (wf_ofL [q]));have HOS:=Hd hos;have COR:=Hd (fun (W:World) (bk:Nat) (h1:bk < W.heap.size) (h2:Ls W bk [s,ofL [q]])=>by
    have h3:=or_any [s,ofL [q]] bk W (wf_two hws (wf_ofL [q])) (by simp) h1 h2;rw [SV_eq hos] at h3;exact h3)
   (have hcv:=fun W=>conv1 q W);clear hos;rw [hok] at CPU HN0;unfold ErrIs at CPU;simp only [Bool.false_eq_true,if_false,if_true] at CPU;clear hok;go_wp2_with (go_at_call 113;refine (CPU.out _ (HS.out.rw.lay HLL.out).err).mono ?_;rintro e w3 ⟨ev,hev,rfl,hb⟩;(first | subst hev | (obtain ⟨te,pe,rfl⟩:=hev));have HS3:=Hd (HS.out.below hb);clear hb;obtain ⟨⟨d0,d1,d2,d3⟩,g0,g1,g2,g3⟩:=HS3.out.rw.cells;dsimp only at d0 d1 d2 d3);have HX5:=Hd ((HS3.out.setBad false).rx.below (Below.refl _ _).drew);have HZ:=Hd (sb_below (HS3.out.setBad false).sb (Below.refl _ _).drew);clear HS3 d0 d1 d2 d3 g0 g1 g2 g3 HS c0 c1 c2 c3 f0 f1 f2 f3;(refine Tk.g (fun w'=>RX w0 b ⟨y,l,g,false⟩ v w.heap.size w w') (by exact HX5.out) fun hH=>?_);clear HX5;(try dsimp only at HZ hH);generalize (w3.setCell ⟨b,3,none⟩ (.bool false)).drew = w5 at hH HZ ⊢;refine Tk.t 1 ?_;refine Tk.t 2 ?_;refine Tk.y 0 3 (fun K hK=>?st0_48) (fun K hK=>?st3_48);case st0_48 =>
    have hPrev:=hH;obtain ⟨⟨y0,y1,y2,y3⟩,z0,z1,z2,z3⟩:=sb_facts HZ.out hws;go_simp;(refine hK.out _ _ (by exact hPrev) fun hH=>Tk.w ?_);clear hK K hPrev;clear y0 y1 y2 y3 z0 z1 z2 z3;refine Tk.o 3 (fun K hK=>?st3_49);case st3_49 =>
     have hPrev:=hH;go_simp;(refine hK.out _ _ (by exact hPrev.below (Go.Joins.below_alloc1 _ _)) fun hH=>Tk.w ?_);have HZ:=Hd (sb_below HZ.out (Go.Joins.below_alloc1 _ (Obj.cells #[Value.int IntKind.u8 (q.toNat:Int)] 5)));clear hK K hPrev;refine Tk.o 4 (fun K hK=>?st4_50);case st4_50 =>
      have hPrev:=hH;go_simp;(refine hK.out _ _ (by exact hPrev) fun hH=>Tk.w ?_);clear hK K hPrev;refine Tk.o 5 (fun K hK=>?st5_51);case st5_51 =>
       have hPrev:=hH;go_simp
       (go_at_call 115;refine (CO.out _).mono ?_;rintro e v51 ⟨rfl,hbl⟩)
       (refine hK.out _ _ (by exact hPrev.below hbl) fun hH=>Tk.w ?_);have HZ:=Hd (sb_below HZ.out hbl);clear hK K hPrev;refine Tk.o 6 (fun K hK=>?st6_52);case st6_52 =>
        have hPrev:=hH;go_simp;(refine hK.out _ _ (by exact hPrev.below (Go.Joins.below_alloc1 _ _)) fun hH=>Tk.w ?_);have HZ:=Hd (sb_below HZ.out (Go.Joins.below_alloc1 _ (Obj.cells #[U (word s 0),U (word s 1),U (word s 2),U (word s 3),U (word (ofL [q]) 0),U (word (ofL [q]) 1),U (word (ofL [q]) 2),U (word (ofL [q]) 3)] 70)));clear hK K hPrev;refine Tk.o 7 (fun K hK=>?st7_53);case st7_53 =>
         have hPrev:=hH;go_simp
         (go_at_call 114;refine (COR.out _ _ (by simp) (ls2 (heap_alloc_new _ _))).mono ?_;rintro e v53 ⟨rfl,hbl⟩)
         (refine hK.out _ _ (by exact hPrev.below hbl) fun hH=>Tk.w ?_);have HZ:=Hd (sb_below HZ.out hbl);clear hK K hPrev;have HS8:=Hd (hH.rs HZ.out);have hPrev:=hH;obtain ⟨⟨y0,y1,y2,y3⟩,z0,z1,z2,z3⟩:=sb_facts HZ.out hws;refine Tk.o 8 (fun K hK=>?_);go_simp;(refine hK.out _ _ (by exact (HS8.out.put HSZ0.out hws HOS.out).rx) fun hH=>Tk.w ?_);clear hK K;have HS9:=Hd (HS8.out.put HSZ0.out hws HOS.out);clear HS8 hH hPrev HZ y0 y1 y2 y3 z0 z1 z2 z3;refine Tk.d ?_;go_wp2;go_roundw;(case rel=>exact ⟨t,_,hPt,(by rw [<- hle];exact congrArg Value.string e2),by omega,Hd (HP.out.trans HN0.out),HS9,HOS⟩);case measure=>simp;omega
   case st3_48 =>
    have hPrev:=hH;go_simp;(refine hK.out _ _ (by exact hPrev.below (Go.Joins.below_alloc1 _ _)) fun hH=>Tk.w ?_);have HZ:=Hd (sb_below HZ.out (Go.Joins.below_alloc1 _ (Obj.cells #[Value.int IntKind.u8 (q.toNat:Int)] 5)));clear hK K hPrev;refine Tk.y 0 4 (fun K hK=>?st0_55) (fun K hK=>?st4_55);case st0_55 =>
     have hPrev:=hH;obtain ⟨⟨y0,y1,y2,y3⟩,z0,z1,z2,z3⟩:=sb_facts HZ.out hws;go_simp;(refine hK.out _ _ (by exact hPrev) fun hH=>Tk.w ?_);clear hK K hPrev;clear y0 y1 y2 y3 z0 z1 z2 z3;refine Tk.o 4 (fun K hK=>?st4_56);case st4_56 =>
      have hPrev:=hH;go_simp;(refine hK.out _ _ (by exact hPrev) fun hH=>Tk.w ?_);clear hK K hPrev;refine Tk.o 5 (fun K hK=>?st5_57);case st5_57 =>
       have hPrev:=hH;go_simp
       (go_at_call 115;refine (CO.out _).mono ?_;rintro e v57 ⟨rfl,hbl⟩)
       (refine hK.out _ _ (by exact hPrev.below hbl) fun hH=>Tk.w ?_);have HZ:=Hd (sb_below HZ.out hbl);clear hK K hPrev;refine Tk.o 6 (fun K hK=>?st6_58);case st6_58 =>
        have hPrev:=hH;go_simp;(refine hK.out _ _ (by exact hPrev.below (Go.Joins.below_alloc1 _ _)) fun hH=>Tk.w ?_);have HZ:=Hd (sb_below HZ.out (Go.Joins.below_alloc1 _ (Obj.cells #[U (word s 0),U (word s 1),U (word s 2),U (word s 3),U (word (ofL [q]) 0),U (word (ofL [q]) 1),U (word (ofL [q]) 2),U (word (ofL [q]) 3)] 70)));clear hK K hPrev;refine Tk.o 7 (fun K hK=>?st7_59);case st7_59 =>
         have hPrev:=hH;go_simp
         (go_at_call 114;refine (COR.out _ _ (by simp) (ls2 (heap_alloc_new _ _))).mono ?_;rintro e v59 ⟨rfl,hbl⟩)
         (refine hK.out _ _ (by exact hPrev.below hbl) fun hH=>Tk.w ?_);have HZ:=Hd (sb_below HZ.out hbl);clear hK K hPrev;have HS8:=Hd (hH.rs HZ.out);have hPrev:=hH;obtain ⟨⟨y0,y1,y2,y3⟩,z0,z1,z2,z3⟩:=sb_facts HZ.out hws;refine Tk.o 8 (fun K hK=>?_);go_simp;(refine hK.out _ _ (by exact (HS8.out.put HSZ0.out hws HOS.out).rx) fun hH=>Tk.w ?_);clear hK K;have HS9:=Hd (HS8.out.put HSZ0.out hws HOS.out);clear HS8 hH hPrev HZ y0 y1 y2 y3 z0 z1 z2 z3;refine Tk.d ?_;go_wp2;go_roundw;(case rel=>exact ⟨t,_,hPt,(by rw [<- hle];exact congrArg Value.string e2),by omega,Hd (HP.out.trans HN0.out),HS9,HOS⟩);case measure=>simp;omega
    case st4_55 =>
     have hPrev:=hH;go_simp;(refine hK.out _ _ (by exact hPrev) fun hH=>Tk.w ?_);clear hK K hPrev;refine Tk.y 0 5 (fun K hK=>?st0_61) (fun K hK=>?st5_61);case st0_61 =>
      have hPrev:=hH;obtain ⟨⟨y0,y1,y2,y3⟩,z0,z1,z2,z3⟩:=sb_facts HZ.out hws;go_simp;(refine hK.out _ _ (by exact hPrev) fun hH=>Tk.w ?_);clear hK K hPrev;clear y0 y1 y2 y3 z0 z1 z2 z3;refine Tk.o 5 (fun K hK=>?st5_62);case st5_62 =>
       have hPrev:=hH;go_simp
       (go_at_call 115;refine (CO.out _).mono ?_;rintro e v62 ⟨rfl,hbl⟩)
       (refine hK.out _ _ (by exact hPrev.below hbl) fun hH=>Tk.w ?_);have HZ:=Hd (sb_below HZ.out hbl);clear hK K hPrev;refine Tk.o 6 (fun K hK=>?st6_63);case st6_63 =>
        have hPrev:=hH;go_simp;(refine hK.out _ _ (by exact hPrev.below (Go.Joins.below_alloc1 _ _)) fun hH=>Tk.w ?_);have HZ:=Hd (sb_below HZ.out (Go.Joins.below_alloc1 _ (Obj.cells #[U (word s 0),U (word s 1),U (word s 2),U (word s 3),U (word (ofL [q]) 0),U (word (ofL [q]) 1),U (word (ofL [q]) 2),U (word (ofL [q]) 3)] 70)));clear hK K hPrev;refine Tk.o 7 (fun K hK=>?st7_64);case st7_64 =>
         have hPrev:=hH;go_simp
         (go_at_call 114;refine (COR.out _ _ (by simp) (ls2 (heap_alloc_new _ _))).mono ?_;rintro e v64 ⟨rfl,hbl⟩)
         (refine hK.out _ _ (by exact hPrev.below hbl) fun hH=>Tk.w ?_);have HZ:=Hd (sb_below HZ.out hbl);clear hK K hPrev;have HS8:=Hd (hH.rs HZ.out);have hPrev:=hH;obtain ⟨⟨y0,y1,y2,y3⟩,z0,z1,z2,z3⟩:=sb_facts HZ.out hws;refine Tk.o 8 (fun K hK=>?_);go_simp;(refine hK.out _ _ (by exact (HS8.out.put HSZ0.out hws HOS.out).rx) fun hH=>Tk.w ?_);clear hK K;have HS9:=Hd (HS8.out.put HSZ0.out hws HOS.out);clear HS8 hH hPrev HZ y0 y1 y2 y3 z0 z1 z2 z3;refine Tk.d ?_;go_wp2;go_roundw;(case rel=>exact ⟨t,_,hPt,(by rw [<- hle];exact congrArg Value.string e2),by omega,Hd (HP.out.trans HN0.out),HS9,HOS⟩);case measure=>simp;omega
     case st5_61 =>
      have hPrev:=hH;go_simp
      (go_at_call 115;refine (CO.out _).mono ?_;rintro e v61 ⟨rfl,hbl⟩)
      (refine hK.out _ _ (by exact hPrev.below hbl) fun hH=>Tk.w ?_);have HZ:=Hd (sb_below HZ.out hbl);clear hK K hPrev;refine Tk.o 0 (fun K hK=>?st0_66);case st0_66 =>
       have hPrev:=hH;obtain ⟨⟨y0,y1,y2,y3⟩,z0,z1,z2,z3⟩:=sb_facts HZ.out hws;go_simp;(refine hK.out _ _ (by exact hPrev) fun hH=>Tk.w ?_);clear hK K hPrev;clear y0 y1 y2 y3 z0 z1 z2 z3;refine Tk.o 6 (fun K hK=>?st6_67);case st6_67 =>
        have hPrev:=hH;go_simp;(refine hK.out _ _ (by exact hPrev.below (Go.Joins.below_alloc1 _ _)) fun hH=>Tk.w ?_);have HZ:=Hd (sb_below HZ.out (Go.Joins.below_alloc1 _ (Obj.cells #[U (word s 0),U (word s 1),U (word s 2),U (word s 3),U (word (ofL [q]) 0),U (word (ofL [q]) 1),U (word (ofL [q]) 2),U (word (ofL [q]) 3)] 70)));clear hK K hPrev;refine Tk.o 7 (fun K hK=>?st7_68);case st7_68 =>
         have hPrev:=hH;go_simp
         (go_at_call 114;refine (COR.out _ _ (by simp) (ls2 (heap_alloc_new _ _))).mono ?_;rintro e v68 ⟨rfl,hbl⟩)
         (refine hK.out _ _ (by exact hPrev.below hbl) fun hH=>Tk.w ?_);have HZ:=Hd (sb_below HZ.out hbl);clear hK K hPrev;have HS8:=Hd (hH.rs HZ.out);have hPrev:=hH;obtain ⟨⟨y0,y1,y2,y3⟩,z0,z1,z2,z3⟩:=sb_facts HZ.out hws;refine Tk.o 8 (fun K hK=>?_);go_simp;(refine hK.out _ _ (by exact (HS8.out.put HSZ0.out hws HOS.out).rx) fun hH=>Tk.w ?_);clear hK K;have HS9:=Hd (HS8.out.put HSZ0.out hws HOS.out);clear HS8 hH hPrev HZ y0 y1 y2 y3 z0 z1 z2 z3;refine Tk.d ?_;go_wp2;go_roundw;(case rel=>exact ⟨t,_,hPt,(by rw [<- hle];exact congrArg Value.string e2),by omega,Hd (HP.out.trans HN0.out),HS9,HOS⟩);case measure=>simp;omega
  ·
   (have hle2:¬ (1:Int) < ((ds.length:Nat):Int):=by omega);have HP2:=Hd (show pairsP ds s false = (s,false) from by
    match ds,h2 with
    | [],_=>rfl
    | [_],_=>rfl
    | _ :: _ :: _,h2=>simp at h2)
   clear h2;have HF:=Hd (HS.out.put HSZ0.out hws hws);have HQ:=Hd (HO.out.trans (by rw [HP.out,HP2.out]:_ = ((⟨y,l,g,false⟩:Rd),s)));clear HO;go_wp2;refine bodyPost_ret (v:=SV s) (ansS rfl rfl HF.out.sb hws) rfl ⟨by rw [HQ.out],?_⟩;rw [HQ.out];exact ⟨HF.out.rw,HF.out.kr⟩
theorem node_s1 (B:Bool) (w0:World) (b left:Nat) (lf:Int) (c:UInt8) (t s:List UInt8) (l:List Nd) (g:Int) (v:Value) (w:World) (hs:s = c :: t) (h:RW w0 b ⟨s,l,g,false⟩ v w) (hL:Lay w0) (hlen:s.length + l.length <= 100000) (hl:l.length <= 120) (hg0:0 <= g) (hg1:g + s.length <= 100000) (hlf:lf = ((left + 1:Nat):Int)) (hle:left <= 1000) (IH:Below2 B w0 b left) (hA:nodeA B (left + 1) ⟨s,l,g,false⟩ = true)
  (hc:c = 91) :
  Calls Tryz.prog 65 #[PT b,E lf] w (NodeAns w0 b (left + 1) ⟨s,l,g,false⟩ v w):=by
 obtain ⟨ao,cap,rfl⟩:∃ ao cap,v = .slice ao l.length cap:=own_slice h.own;obtain ⟨i0,hi,hz0,hz1,hz2⟩:=info_parts infoNd;have HO:=Hd (show nodeP (left + 1) ⟨s,l,g,false⟩ = pushP (setP ⟨t,l,g,false⟩).1 ⟨1,(setP ⟨t,l,g,false⟩).2,0,0,0,0,0⟩ from by
  rw [hs];rw [node_step hl];subst hc;rfl)
 have HA1:=Hd (nodeA_s (by rw [hs,hc] at hA;exact hA));clear hA;(have hne:(s == []) = false:=by rw [hs];rfl);(have hlt:0 < s.length:=by rw [hs];simp);(have hx:((ByteArray.mk s.toArray)[0]'hlt) = c:=by subst hs;rfl);(have hsz:(ByteArray.mk s.toArray).size = s.length:=by simp [ByteArray.size]);(have hlt':(0:Int) < ((s.length:Nat):Int):=by omega);have e2:=ex_drop (l:=s) 1;(have hr:s.drop 1 = t:=by rw [hs];rfl);(have htl:t.length + 1 = s.length:=by rw [hs];rfl);rw [hr] at e2;(have h1':(1:Int) <= ((s.length:Nat):Int):=by omega);(have h0:(lf == 0) = false:=by rw [beq_eq_false_iff_ne];omega);(have hgt:¬ (120:Int) < ((l.length:Nat):Int):=by omega);have HL:=Hd hL;have HR0:=Hd h;have HS0:=Hd (st_start HR0.out lf t N0);dsimp only at HS0;obtain ⟨⟨c0,c1,c2,c3⟩,f0,f1,f2,f3⟩:=HR0.out.cells
 skip
 dsimp only at c0 c1 c2 c3;have hlb:=HR0.out.lt;have HLF:=Hd hlf;clear hs h hL hr hlf;subst hc
 skip
 go_enter Tryz.func65,Tryz.ntmps65
 skip
 go_wp2;go_region;have HB:=Hd (rbytes_any1 w0 b ⟨t,l,g,false⟩ _ _ HS0.out.rw HL.out (by dsimp only;omega) HA1.out.1 HA1.out.2);clear HA1;have HLL:=Hd (show (setP ⟨t,l,g,false⟩).1.l = l from rfl);have hsv:=St.SV_eq (wf_set ⟨t,l,g,false⟩);generalize setP ⟨t,l,g,false⟩ = q at *;obtain ⟨r,z⟩:=q;dsimp only at HB HLL hsv HO;rw [hsv] at HB;clear hsv;go_wp2_with (go_at_call 86;refine HB.out.mono ?_;rintro e w2 ⟨rfl,hr2,hk2⟩;have HS2:=Hd (HS0.out.step hr2 hk2);clear hr2 hk2;obtain ⟨⟨x2p,x2l⟩,⟨x20,x21,x22,x23,x24,x25,x26,x27,x28,x29⟩,x2z⟩:=HS2.out.facts;obtain ⟨⟨x2a,x2b,x2c,x2d⟩,x2e,x2f,x2g,x2h⟩:=HS2.out.rw.cells;(try dsimp only at x2a x2b x2c x2d));have HSa:=Hd ((((((((((HS2.out.node (i:=0) (u:=E 1) (m:=⟨1,[0,0,0,0],0,0,0,0,0⟩) rfl).node (i:=1) (u:=U (word z 0)) (m:=⟨1,[word z 0,0,0,0],0,0,0,0,0⟩) rfl).node (i:=2) (u:=U (word z 1)) (m:=⟨1,[word z 0,word z 1,0,0],0,0,0,0,0⟩) rfl).node (i:=3) (u:=U (word z 2)) (m:=⟨1,[word z 0,word z 1,word z 2,0],0,0,0,0,0⟩) rfl).node (i:=4) (u:=U (word z 3)) (m:=⟨1,z,0,0,0,0,0⟩) rfl).node (i:=5) (u:=E 0) (m:=⟨1,z,0,0,0,0,0⟩) rfl).node (i:=6) (u:=E 0) (m:=⟨1,z,0,0,0,0,0⟩) rfl).node (i:=7) (u:=E 0) (m:=⟨1,z,0,0,0,0,0⟩) rfl).node (i:=8) (u:=E 0) (m:=⟨1,z,0,0,0,0,0⟩) rfl).node (i:=9) (u:=E 0) (m:=⟨1,z,0,0,0,0,0⟩) rfl);clear x2p x2l x20 x21 x22 x23 x24 x25 x26 x27 x28 x29 x2z x2a x2b x2c x2d x2e x2f x2g x2h;have HLEN:=Hd (show r.l.length <= 200000 by rw [HLL.out];omega);refine at_world (p:=fun W=>ST w0 b w _ lf ⟨1,z,0,0,0,0,0⟩ _ _ W) HSa.out (fun W hW=>?_);have HSD:=Hd (hW.below (Below.refl _ _).drew);clear hW;(refine Tk.g (fun w'=>SQ w b ⟨1,z,0,0,0,0,0⟩ w') (by exact sq_of HSD.out) fun hH=>?_);revert HSD hH;generalize World.drew _ = W8;intro HSD hH;refine Tk.k (fun _ h=>(sq_cells h)) 0 ?_;refine Tk.k (fun _ h=>(sq_cells h)) 1 ?_;refine Tk.k (fun _ h=>(sq_cells h)) 2 ?_;refine Tk.k (fun _ h=>(sq_cells h)) 3 ?_;refine Tk.k (fun _ h=>(sq_cells h)) 5 ?_;refine Tk.y 4 6 (fun K hK=>?st4t5) (fun K hK=>?st6t5);case st4t5 =>
  have hPrev:=hH;have hcl:=HSD.out.rw.cells.1.2.1;(try dsimp only at hcl);go_simp;(refine hK.out _ _ (by exact hPrev) fun hH=>Tk.w ?_);clear hK K hcl;refine Tk.o 6 (fun K hK=>?_);go_simp;have HSA:=Hd (HSD.out.below ((Below.refl _ _).alloc (Nat.le_refl _) (.cells (NC ⟨1,z,0,0,0,0,0⟩) 72)));(refine hK.out _ _ (by exact sq_of HSA.out) fun hH=>Tk.w ?_);clear hK K;have HNW:=Hd (@news_row W8 ⟨1,z,0,0,0,0,0⟩);revert HSA hH HNW;generalize World.alloc _ _ = W9;intro HSA hH HNW;refine Tk.o 7 (fun K hK=>?_);(refine step_append_lies _ rfl _ _ 22 rfl w0.heap.size 72 i0 _ 10 80 Tryz.underlying22 hi hz0 hz1 hz2 rfl (by decide) _ _ _ rfl HSA.out.rw.own ⟨_,0,none⟩ 1 1 (NC ⟨1,z,0,0,0,0,0⟩).toList rfl rfl HNW.out (one_row _) (by decide) (by have:=HLEN.out;(try dsimp only at this ⊢);unfold maxLen;omega) (by have:=HLEN.out;(try dsimp only at this ⊢);omega) HSA.out.rw.bel.size _ rfl ?_;intro gg gcap w4 hown hgrow hat hlt4);have HP0:=rw_push HSA.out.rw hown hgrow hat;have HP:=Hd HP0;clear HP0;have hq8:=sq_grown HSA.out hgrow;(refine hK.out _ _ (by exact hq8) fun hH=>Tk.w ?_);clear hK K hq8;refine Tk.k (fun _ h=>(sq_cells h)) 8 ?_;refine Tk.k (fun _ h=>(sq_cells h)) 9 ?_;refine Tk.o 10 (fun K hK=>?_);have hf4:=fz_grown HSA.out hgrow 1;have hc4:=cell_grown HSA.out hgrow;go_simp;have HZ:=Hd (HSA.out.step HP.out.1 HP.out.2);(refine hK.out _ _ (by exact sq_of HZ.out) fun hH=>Tk.w ?_);clear hK K hf4 hc4;refine Tk.d ?_;clear hH hgrow hown hat hlt4 HP HSA HSD HNW;revert HZ;generalize World.setCell _ _ _ = W10;intro HZ;obtain ⟨⟨p0,p1⟩,_,_⟩:=HZ.out.facts;obtain ⟨⟨y0,y1,y2,y3⟩,_,_,_,_⟩:=HZ.out.rw.cells;(try dsimp only at y0 y1 y2 y3);(have hw1:IntKind.i64.wrap ((((r.l).length + 1:Nat):Int) - 1) = (((r.l).length:Nat):Int):=by have:=HLEN.out;rw [IntKind.wrap_i64];omega);have hlen9:=HLEN.out;go_wp2;go_ret;refine ⟨_,?_,?_,HZ.out.kr⟩
  · rw [HO.out];rfl
  · rw [HO.out];exact HZ.out.rw
 case st6t5 =>
  go_simp;have HSA:=Hd (HSD.out.below ((Below.refl _ _).alloc (Nat.le_refl _) (.cells (NC ⟨1,z,0,0,0,0,0⟩) 72)));(refine hK.out _ _ (by exact sq_of HSA.out) fun hH=>Tk.w ?_);clear hK K;have HNW:=Hd (@news_row W8 ⟨1,z,0,0,0,0,0⟩);revert HSA hH HNW;generalize World.alloc _ _ = W9;intro HSA hH HNW;have hPrev:=hH;refine Tk.o 4 (fun K hK=>?_);have hcl:=HSA.out.rw.cells.1.2.1;(try dsimp only at hcl);go_simp;(refine hK.out _ _ (by exact hPrev) fun hH=>Tk.w ?_);clear hK K hcl;refine Tk.o 7 (fun K hK=>?_);(refine step_append_lies _ rfl _ _ 22 rfl w0.heap.size 72 i0 _ 10 80 Tryz.underlying22 hi hz0 hz1 hz2 rfl (by decide) _ _ _ rfl HSA.out.rw.own ⟨_,0,none⟩ 1 1 (NC ⟨1,z,0,0,0,0,0⟩).toList rfl rfl HNW.out (one_row _) (by decide) (by have:=HLEN.out;(try dsimp only at this ⊢);unfold maxLen;omega) (by have:=HLEN.out;(try dsimp only at this ⊢);omega) HSA.out.rw.bel.size _ rfl ?_;intro gg gcap w4 hown hgrow hat hlt4);have HP0:=rw_push HSA.out.rw hown hgrow hat;have HP:=Hd HP0;clear HP0;have hq8:=sq_grown HSA.out hgrow;(refine hK.out _ _ (by exact hq8) fun hH=>Tk.w ?_);clear hK K hq8;refine Tk.k (fun _ h=>(sq_cells h)) 8 ?_;refine Tk.k (fun _ h=>(sq_cells h)) 9 ?_;refine Tk.o 10 (fun K hK=>?_);have hf4:=fz_grown HSA.out hgrow 1;have hc4:=cell_grown HSA.out hgrow;go_simp;have HZ:=Hd (HSA.out.step HP.out.1 HP.out.2);(refine hK.out _ _ (by exact sq_of HZ.out) fun hH=>Tk.w ?_);clear hK K hf4 hc4;refine Tk.d ?_;clear hH hgrow hown hat hlt4 HP HSA HSD HNW;revert HZ;generalize World.setCell _ _ _ = W10;intro HZ;obtain ⟨⟨p0,p1⟩,_,_⟩:=HZ.out.facts;obtain ⟨⟨y0,y1,y2,y3⟩,_,_,_,_⟩:=HZ.out.rw.cells;(try dsimp only at y0 y1 y2 y3);(have hw1:IntKind.i64.wrap ((((r.l).length + 1:Nat):Int) - 1) = (((r.l).length:Nat):Int):=by have:=HLEN.out;rw [IntKind.wrap_i64];omega);have hlen9:=HLEN.out;go_wp2;go_ret;refine ⟨_,?_,?_,HZ.out.kr⟩
  · rw [HO.out];rfl
  · rw [HO.out];exact HZ.out.rw
theorem node_m1 (B:Bool) (w0:World) (b left:Nat) (lf:Int) (c:UInt8) (t s:List UInt8) (l:List Nd) (g:Int) (v:Value) (w:World) (hs:s = c :: t) (h:RW w0 b ⟨s,l,g,false⟩ v w) (hL:Lay w0) (hlen:s.length + l.length <= 100000) (hl:l.length <= 120) (hg0:0 <= g) (hg1:g + s.length <= 100000) (hlf:lf = ((left + 1:Nat):Int)) (hle:left <= 1000) (IH:Below2 B w0 b left) (hA:nodeA B (left + 1) ⟨s,l,g,false⟩ = true)
  (hc:c = 42) :
  Calls Tryz.prog 65 #[PT b,E lf] w (NodeAns w0 b (left + 1) ⟨s,l,g,false⟩ v w):=by
 obtain ⟨ao,cap,rfl⟩:∃ ao cap,v = .slice ao l.length cap:=own_slice h.own;obtain ⟨i0,hi,hz0,hz1,hz2⟩:=info_parts infoNd;have HO:=Hd (show nodeP (left + 1) ⟨s,l,g,false⟩ = pushP (nodeP left (numP 59 (numP 44 ⟨t,l,g,false⟩).1).1).1 ⟨6,z4,(nodeP left (numP 59 (numP 44 ⟨t,l,g,false⟩).1).1).2,0,(numP 44 ⟨t,l,g,false⟩).2,(numP 59 (numP 44 ⟨t,l,g,false⟩).1).2,0⟩ from by
  rw [hs];rw [node_step hl];subst hc;rfl)
 have hA2:=nodeA_m (by rw [hs,hc] at hA;exact hA);clear hA;(have hne:(s == []) = false:=by rw [hs];rfl);(have hlt:0 < s.length:=by rw [hs];simp);(have hx:((ByteArray.mk s.toArray)[0]'hlt) = c:=by subst hs;rfl);(have hsz:(ByteArray.mk s.toArray).size = s.length:=by simp [ByteArray.size]);(have hlt':(0:Int) < ((s.length:Nat):Int):=by omega);have e2:=ex_drop (l:=s) 1;(have hr:s.drop 1 = t:=by rw [hs];rfl);(have htl:t.length + 1 = s.length:=by rw [hs];rfl);rw [hr] at e2;(have h1':(1:Int) <= ((s.length:Nat):Int):=by omega);(have h0:(lf == 0) = false:=by rw [beq_eq_false_iff_ne];omega);(have hgt:¬ (120:Int) < ((l.length:Nat):Int):=by omega);have HL:=Hd hL;have HR0:=Hd h;have HS0:=Hd (st_start HR0.out lf t ⟨6,z4,0,0,0,0,0⟩);dsimp only at HS0;obtain ⟨⟨c0,c1,c2,c3⟩,f0,f1,f2,f3⟩:=HR0.out.cells
 skip
 dsimp only at c0 c1 c2 c3;have hlb:=HR0.out.lt;have HLF:=Hd hlf;clear hs h hL hr hlf;subst hc
 skip
 go_enter Tryz.func65,Tryz.ntmps65
 skip
 go_wp2;go_region;have hri:Rin ⟨t,l,g,false⟩:=⟨by dsimp only;omega,hg0,by dsimp only;omega⟩;have hle1:=le_num 44 ⟨t,l,g,false⟩;obtain ⟨r1,na,hq⟩:∃ r1 na,numP 44 ⟨t,l,g,false⟩ = (r1,na):=⟨_,_,rfl⟩;rw [hq] at hle1 HO hA2;have HN1:=Hd hq;clear hq;dsimp only at hle1 HO hA2;have hri1:=hle1.rin hri;have hle2:=le_num 59 r1;obtain ⟨r2,nb,hq⟩:∃ r2 nb,numP 59 r1 = (r2,nb):=⟨_,_,rfl⟩;rw [hq] at hle2 HO hA2;have HN2:=Hd hq;clear hq;dsimp only at hle2 HO hA2;have HA2:=Hd hA2;clear hA2;have hri2:=hle2.rin hri1;have hle3:=le_node left r2;obtain ⟨r3,p3,hq⟩:∃ r3 p3,nodeP left r2 = (r3,p3):=⟨_,_,rfl⟩;rw [hq] at hle3 HO;have HN3:=Hd hq;clear hq;dsimp only at hle3 HO;have hri3:=hle3.rin hri2;have HLEN:=Hd (show r3.l.length <= 200000 from by have:=hri3.len;omega);clear hle1 hle2 hle3 hri3;have HU1:=Hd (number_any w0 b _ _ 44 _ HS0.out.rw HL.out (by have:=hri.len;dsimp only at this ⊢;omega));go_wp2_with (first
  | (go_at_call 87;have hb0:=HU1.out;clear HU1;refine hb0.mono ?_;clear hb0;rintro e w1 ⟨he,hr,hk⟩;rw [HN1.out] at he hr;subst he;have HS1:=Hd ((HS0.out).step hr hk);clear hr hk;obtain ⟨⟨x1p,x1l⟩,⟨x10,x11,x12,x13,x14,x15,x16,x17,x18,x19⟩,x1z⟩:=HS1.out.facts;obtain ⟨⟨x1a,x1b,x1c,x1d⟩,x1e,x1f,x1g,x1h⟩:=HS1.out.rw.cells;(try dsimp only at x1a x1b x1c x1d))
  | (go_at_call 87;refine (number_any w0 b _ _ 59 _ (HS1.out.node (i:=7) (u:=E na) (m:=⟨6,z4,0,0,na,0,0⟩) rfl).rw HL.out (by have:=hri1.len;omega)).mono ?_;rintro e w2 ⟨he,hr,hk⟩;rw [HN2.out] at he hr;subst he;have HS2:=Hd ((HS1.out.node (i:=7) (u:=E na) (m:=⟨6,z4,0,0,na,0,0⟩) rfl).step hr hk);clear hr hk;obtain ⟨⟨x2p,x2l⟩,⟨x20,x21,x22,x23,x24,x25,x26,x27,x28,x29⟩,x2z⟩:=HS2.out.facts;obtain ⟨⟨x2a,x2b,x2c,x2d⟩,x2e,x2f,x2g,x2h⟩:=HS2.out.rw.cells;(try dsimp only at x2a x2b x2c x2d))
  | (go_at_call 85;refine (below_any1 IH HLF.out hle (HS2.out.node (i:=8) (u:=E nb) (m:=⟨6,z4,0,0,na,nb,0⟩) rfl) hri2 HA2.out).mono ?_;rintro e w3 ⟨v3,he,hst⟩;rw [HN3.out] at he hst;subst he;have HS3:=Hd hst;clear hst;obtain ⟨⟨x3p,x3l⟩,⟨x30,x31,x32,x33,x34,x35,x36,x37,x38,x39⟩,x3z⟩:=HS3.out.facts;obtain ⟨⟨x3a,x3b,x3c,x3d⟩,x3e,x3f,x3g,x3h⟩:=HS3.out.rw.cells;(try dsimp only at x3a x3b x3c x3d)))
 have HSa:=Hd (HS3.out.node (i:=5) (u:=E (p3:Nat)) (m:=⟨6,z4,(p3:Nat),0,na,nb,0⟩) rfl);clear x3p x3l x30 x31 x32 x33 x34 x35 x36 x37 x38 x39 x3z x3a x3b x3c x3d x3e x3f x3g x3h;refine at_world (p:=fun W=>ST w0 b w _ lf ⟨6,z4,(p3:Nat),0,na,nb,0⟩ _ _ W) HSa.out (fun W hW=>?_);have HSD:=Hd (hW.below (Below.refl _ _).drew);clear hW;(refine Tk.g (fun w'=>SQ w b ⟨6,z4,(p3:Nat),0,na,nb,0⟩ w') (by exact sq_of HSD.out) fun hH=>?_);revert HSD hH;generalize World.drew _ = W8;intro HSD hH;refine Tk.k (fun _ h=>(sq_cells h)) 0 ?_;refine Tk.k (fun _ h=>(sq_cells h)) 1 ?_;refine Tk.k (fun _ h=>(sq_cells h)) 2 ?_;refine Tk.k (fun _ h=>(sq_cells h)) 3 ?_;refine Tk.k (fun _ h=>(sq_cells h)) 5 ?_;refine Tk.y 4 6 (fun K hK=>?st4t8) (fun K hK=>?st6t8);case st4t8 =>
  have hPrev:=hH;have hcl:=HSD.out.rw.cells.1.2.1;(try dsimp only at hcl);go_simp;(refine hK.out _ _ (by exact hPrev) fun hH=>Tk.w ?_);clear hK K hcl;refine Tk.o 6 (fun K hK=>?_);go_simp;have HSA:=Hd (HSD.out.below ((Below.refl _ _).alloc (Nat.le_refl _) (.cells (NC ⟨6,z4,(p3:Nat),0,na,nb,0⟩) 72)));(refine hK.out _ _ (by exact sq_of HSA.out) fun hH=>Tk.w ?_);clear hK K;have HNW:=Hd (@news_row W8 ⟨6,z4,(p3:Nat),0,na,nb,0⟩);revert HSA hH HNW;generalize World.alloc _ _ = W9;intro HSA hH HNW;refine Tk.o 7 (fun K hK=>?_);(refine step_append_lies _ rfl _ _ 22 rfl w0.heap.size 72 i0 _ 10 80 Tryz.underlying22 hi hz0 hz1 hz2 rfl (by decide) _ _ _ rfl HSA.out.rw.own ⟨_,0,none⟩ 1 1 (NC ⟨6,z4,(p3:Nat),0,na,nb,0⟩).toList rfl rfl HNW.out (one_row _) (by decide) (by have:=HLEN.out;(try dsimp only at this ⊢);unfold maxLen;omega) (by have:=HLEN.out;(try dsimp only at this ⊢);omega) HSA.out.rw.bel.size _ rfl ?_;intro gg gcap w4 hown hgrow hat hlt4);have HP0:=rw_push HSA.out.rw hown hgrow hat;have HP:=Hd HP0;clear HP0;have hq8:=sq_grown HSA.out hgrow;(refine hK.out _ _ (by exact hq8) fun hH=>Tk.w ?_);clear hK K hq8;refine Tk.k (fun _ h=>(sq_cells h)) 8 ?_;refine Tk.k (fun _ h=>(sq_cells h)) 9 ?_;refine Tk.o 10 (fun K hK=>?_);have hf4:=fz_grown HSA.out hgrow 1;have hc4:=cell_grown HSA.out hgrow;go_simp;have HZ:=Hd (HSA.out.step HP.out.1 HP.out.2);(refine hK.out _ _ (by exact sq_of HZ.out) fun hH=>Tk.w ?_);clear hK K hf4 hc4;refine Tk.d ?_;clear hH hgrow hown hat hlt4 HP HSA HSD HNW;revert HZ;generalize World.setCell _ _ _ = W10;intro HZ;obtain ⟨⟨p0,p1⟩,_,_⟩:=HZ.out.facts;obtain ⟨⟨y0,y1,y2,y3⟩,_,_,_,_⟩:=HZ.out.rw.cells;(try dsimp only at y0 y1 y2 y3);(have hw1:IntKind.i64.wrap ((((r3.l).length + 1:Nat):Int) - 1) = (((r3.l).length:Nat):Int):=by have:=HLEN.out;rw [IntKind.wrap_i64];omega);have hlen9:=HLEN.out;go_wp2;go_ret;refine ⟨_,?_,?_,HZ.out.kr⟩
  · rw [HO.out];rfl
  · rw [HO.out];exact HZ.out.rw
 case st6t8 =>
  go_simp;have HSA:=Hd (HSD.out.below ((Below.refl _ _).alloc (Nat.le_refl _) (.cells (NC ⟨6,z4,(p3:Nat),0,na,nb,0⟩) 72)));(refine hK.out _ _ (by exact sq_of HSA.out) fun hH=>Tk.w ?_);clear hK K;have HNW:=Hd (@news_row W8 ⟨6,z4,(p3:Nat),0,na,nb,0⟩);revert HSA hH HNW;generalize World.alloc _ _ = W9;intro HSA hH HNW;have hPrev:=hH;refine Tk.o 4 (fun K hK=>?_);have hcl:=HSA.out.rw.cells.1.2.1;(try dsimp only at hcl);go_simp;(refine hK.out _ _ (by exact hPrev) fun hH=>Tk.w ?_);clear hK K hcl;refine Tk.o 7 (fun K hK=>?_);(refine step_append_lies _ rfl _ _ 22 rfl w0.heap.size 72 i0 _ 10 80 Tryz.underlying22 hi hz0 hz1 hz2 rfl (by decide) _ _ _ rfl HSA.out.rw.own ⟨_,0,none⟩ 1 1 (NC ⟨6,z4,(p3:Nat),0,na,nb,0⟩).toList rfl rfl HNW.out (one_row _) (by decide) (by have:=HLEN.out;(try dsimp only at this ⊢);unfold maxLen;omega) (by have:=HLEN.out;(try dsimp only at this ⊢);omega) HSA.out.rw.bel.size _ rfl ?_;intro gg gcap w4 hown hgrow hat hlt4);have HP0:=rw_push HSA.out.rw hown hgrow hat;have HP:=Hd HP0;clear HP0;have hq8:=sq_grown HSA.out hgrow;(refine hK.out _ _ (by exact hq8) fun hH=>Tk.w ?_);clear hK K hq8;refine Tk.k (fun _ h=>(sq_cells h)) 8 ?_;refine Tk.k (fun _ h=>(sq_cells h)) 9 ?_;refine Tk.o 10 (fun K hK=>?_);have hf4:=fz_grown HSA.out hgrow 1;have hc4:=cell_grown HSA.out hgrow;go_simp;have HZ:=Hd (HSA.out.step HP.out.1 HP.out.2);(refine hK.out _ _ (by exact sq_of HZ.out) fun hH=>Tk.w ?_);clear hK K hf4 hc4;refine Tk.d ?_;clear hH hgrow hown hat hlt4 HP HSA HSD HNW;revert HZ;generalize World.setCell _ _ _ = W10;intro HZ;obtain ⟨⟨p0,p1⟩,_,_⟩:=HZ.out.facts;obtain ⟨⟨y0,y1,y2,y3⟩,_,_,_,_⟩:=HZ.out.rw.cells;(try dsimp only at y0 y1 y2 y3);(have hw1:IntKind.i64.wrap ((((r3.l).length + 1:Nat):Int) - 1) = (((r3.l).length:Nat):Int):=by have:=HLEN.out;rw [IntKind.wrap_i64];omega);have hlen9:=HLEN.out;go_wp2;go_ret;refine ⟨_,?_,?_,HZ.out.kr⟩
  · rw [HO.out];rfl
  · rw [HO.out];exact HZ.out.rw
end Go.Proofs.YtinallojhkaogaaGreatDoor.Rx
