/- The texts RxPlain StPlain StBits AdPlain RxText. -/
import Derived.Laws.BitsAllLaws
import Derived.Lib.TrailingZeros
import Derived.Lib.AtoiTie
import Derived.Lib.AtoiAllCases
import Derived.Lib.ItoaMem
import Derived.Lib.ItoaLen
import Derived.Lib.IndexMore
import Derived.Lib.Strings
import Derived.Lib.TrimByte
set_option linter.unusedVariables false
set_option linter.unusedSimpArgs false
namespace Go.Proofs.YtinallojhkaogaaGreatDoor.Rx
structure Nd where
 k:Int
 s:List Nat
 a:Int
 b:Int
 mn:Int
 mx:Int
 n:Int
 deriving DecidableEq,Repr
def z4:List Nat:=[0,0,0,0]
def parts (n:Nd):Nat:=if n.k = 4 \/ n.k = 5 then 2 else if n.k = 6 \/ n.k = 7 then 1 else 0
def OneN (n:Nd):Prop :=
 ((n.k = 0 \/ n.k = 2 \/ n.k = 3) /\ n.s = z4 /\ n.a = 0 /\ n.b = 0 /\ n.mn = 0 /\ n.mx = 0 /\ n.n = 0) \/
 (n.k = 1 /\ n.s ≠ z4 /\ n.a = 0 /\ n.b = 0 /\ n.mn = 0 /\ n.mx = 0 /\ n.n = 0) \/
 ((n.k = 4 \/ n.k = 5) /\ n.s = z4 /\ n.mn = 0 /\ n.mx = 0 /\ n.n = 0) \/
 (n.k = 6 /\ n.s = z4 /\ n.b = 0 /\ n.n = 0 /\ 0 <= n.mn /\ n.mn <= 255 /\ (n.mx = -1 \/ (n.mn <= n.mx /\ 1 <= n.mx /\ n.mx <= 255))) \/
 (n.k = 7 /\ n.s = z4 /\ n.b = 0 /\ n.mn = 0 /\ n.mx = 0 /\ 1 <= n.n /\ n.n <= 9) \/
 (n.k = 8 /\ n.s = z4 /\ n.a = 0 /\ n.b = 0 /\ n.mn = 0 /\ n.mx = 0 /\ 1 <= n.n /\ n.n <= 9)
instance (n:Nd):Decidable (OneN n):=by unfold OneN;infer_instance
def kindAt (l:List Nd) (j:Int):Int:=((l[j.toNat]?).map Nd.k).getD (-1)
def Fits (l:List Nd) (n:Nd):Prop :=
 if n.k = 4 then kindAt l n.a ≠ 4 /\ kindAt l n.a ≠ 5 /\ kindAt l n.b ≠ 5
 else if n.k = 5 then kindAt l n.a ≠ 5
 else if n.k = 6 then kindAt l n.a = 1 \/ kindAt l n.a = 7 \/ kindAt l n.a = 8
 else True
instance (l:List Nd) (n:Nd):Decidable (Fits l n):=by unfold Fits;infer_instance
def BelowOk (n:Nd):List Nat -> Prop
 | []=>True
 | [x]=>(x:Int) = n.a
 | x :: y :: _=>(x:Int) = n.a /\ (y:Int) = n.b
instance (n:Nd) (l:List Nat):Decidable (BelowOk n l):=by unfold BelowOk;split <;> infer_instance
def StepOk (l:List Nd) (n:Nd) (st:List Nat):Prop :=
 OneN n /\ parts n <= st.length /\ ¬ (n.k = 0 /\ 1 < l.length) /\ BelowOk n (st.drop (st.length - parts n)) /\ Fits l n
instance (l:List Nd) (n:Nd) (st:List Nat):Decidable (StepOk l n st):=by unfold StepOk;infer_instance
def push (n:Nd) (i:Nat) (st:List Nat):List Nat:=st.take (st.length - parts n) ++ [i]
def ordRun (l:List Nd):Nat -> Option (List Nat)
 | 0=>some []
 | i + 1=>(ordRun l i).bind fun st=>match l[i]? with
  | none=>none
  | some n=>if StepOk l n st then some (push n i st) else none
def Ordered (l:List Nd):Prop:=∃ i,ordRun l l.length = some [i]
inductive Tr where
 | e
 | set (s:List Nat)
 | beg
 | fin
 | cat (x y:Tr)
 | alt (x y:Tr)
 | times (mn mx:Int) (x:Tr)
 | grp (n:Int) (x:Tr)
 | ref (n:Int)
 deriving Repr
namespace Tr
def size:Tr -> Nat
 | cat x y=>x.size + y.size + 1
 | alt x y=>x.size + y.size + 1
 | times _ _ x=>x.size + 1
 | grp _ x=>x.size + 1
 | _=>1
def rk:Tr -> Int
 | e=>0
 | set _=>1
 | beg=>2
 | fin=>3
 | cat _ _=>4
 | alt _ _=>5
 | times _ _ _=>6
 | grp _ _=>7
 | ref _=>8
def root (t:Tr) (o:Nat):Nd:=match t with
 | e=>⟨0,z4,0,0,0,0,0⟩
 | set s=>⟨1,s,0,0,0,0,0⟩
 | beg=>⟨2,z4,0,0,0,0,0⟩
 | fin=>⟨3,z4,0,0,0,0,0⟩
 | cat x y=>⟨4,z4,(o + x.size - 1:Nat),(o + x.size + y.size - 1:Nat),0,0,0⟩
 | alt x y=>⟨5,z4,(o + x.size - 1:Nat),(o + x.size + y.size - 1:Nat),0,0,0⟩
 | times mn mx x=>⟨6,z4,(o + x.size - 1:Nat),0,mn,mx,0⟩
 | grp n x=>⟨7,z4,(o + x.size - 1:Nat),0,0,0,n⟩
 | ref n=>⟨8,z4,0,0,0,0,n⟩
def nodes (t:Tr) (o:Nat):List Nd:=match t with
 | cat x y=>x.nodes o ++ y.nodes (o + x.size) ++ [(cat x y).root o]
 | alt x y=>x.nodes o ++ y.nodes (o + x.size) ++ [(alt x y).root o]
 | times mn mx x=>x.nodes o ++ [(times mn mx x).root o]
 | grp n x=>x.nodes o ++ [(grp n x).root o]
 | t=>[t.root o]
def Fine (em:Prop):Tr -> Prop
 | e=>em
 | set s=>s ≠ z4
 | beg=>True
 | fin=>True
 | cat x y=>x.Fine em /\ y.Fine em /\ x.rk ≠ 4 /\ x.rk ≠ 5 /\ y.rk ≠ 5
 | alt x y=>x.Fine em /\ y.Fine em /\ x.rk ≠ 5
 | times mn mx x=>x.Fine em /\ 0 <= mn /\ mn <= 255 /\ (mx = -1 \/ (mn <= mx /\ 1 <= mx /\ mx <= 255)) /\ (x.rk = 1 \/ x.rk = 7 \/ x.rk = 8)
 | grp n x=>x.Fine em /\ 1 <= n /\ n <= 9
 | ref n=>1 <= n /\ n <= 9
theorem size_pos:∀ t:Tr,0 < t.size
 | e | set _ | beg | fin | ref _=>by simp [size]
 | cat _ _ | alt _ _ | times _ _ _ | grp _ _=>by simp [size]
theorem nodes_len:∀ (t:Tr) (o:Nat),(t.nodes o).length = t.size
 | e,o | set _,o | beg,o | fin,o | ref _,o=>by simp [nodes,size]
 | cat x y,o | alt x y,o=>by simp [nodes,size,nodes_len x,nodes_len y];omega
 | times _ _ x,o | grp _ x,o=>by simp [nodes,size,nodes_len x]
theorem root_k (t:Tr) (o:Nat):(t.root o).k = t.rk:=by cases t <;> rfl
theorem nodes_last (t:Tr) (o:Nat):(t.nodes o)[t.size - 1]? = some (t.root o):=by
 have h:∃ p,t.nodes o = p ++ [t.root o]:=by
  cases t with
  | cat x y=>exact ⟨x.nodes o ++ y.nodes (o + x.size),rfl⟩
  | alt x y=>exact ⟨x.nodes o ++ y.nodes (o + x.size),rfl⟩
  | times mn mx x=>exact ⟨x.nodes o,rfl⟩
  | grp n x=>exact ⟨x.nodes o,rfl⟩
  | e=>exact ⟨[],rfl⟩
  | set s=>exact ⟨[],rfl⟩
  | beg=>exact ⟨[],rfl⟩
  | fin=>exact ⟨[],rfl⟩
  | ref n=>exact ⟨[],rfl⟩
 obtain ⟨p,hp⟩:=h;have hl:=nodes_len t o;rw [hp] at hl ⊢;(have:t.size - 1 = p.length:=by simp at hl;omega);rw [this];simp
end Tr
open Tr
def nodesL:List Tr -> Nat -> List Nd
 | [],_=>[]
 | t :: ts,o=>t.nodes o ++ nodesL ts (o + t.size)
def sizeL:List Tr -> Nat
 | []=>0
 | t :: ts=>t.size + sizeL ts
def rootsL:List Tr -> Nat -> List Nat
 | [],_=>[]
 | t :: ts,o=>(o + t.size - 1) :: rootsL ts (o + t.size)
theorem nodesL_len:∀ (ts:List Tr) (o:Nat),(nodesL ts o).length = sizeL ts
 | [],o=>rfl
 | t :: ts,o=>by simp [nodesL,sizeL,nodes_len,nodesL_len ts]
theorem rootsL_len:∀ (ts:List Tr) (o:Nat),(rootsL ts o).length = ts.length
 | [],o=>rfl
 | t :: ts,o=>by simp [rootsL,rootsL_len ts]
theorem nodesL_append:∀ (ts us:List Tr) (o:Nat),nodesL (ts ++ us) o = nodesL ts o ++ nodesL us (o + sizeL ts)
 | [],us,o=>by simp [nodesL,sizeL]
 | t :: ts,us,o=>by simp [nodesL,sizeL,nodesL_append ts,Nat.add_assoc]
theorem rootsL_append:∀ (ts us:List Tr) (o:Nat),rootsL (ts ++ us) o = rootsL ts o ++ rootsL us (o + sizeL ts)
 | [],us,o=>by simp [rootsL,sizeL]
 | t :: ts,us,o=>by simp [rootsL,sizeL,rootsL_append ts,Nat.add_assoc]
theorem sizeL_append:∀ (ts us:List Tr),sizeL (ts ++ us) = sizeL ts + sizeL us
 | [],us=>by simp [sizeL]
 | t :: ts,us=>by simp [sizeL,sizeL_append ts,Nat.add_assoc]
theorem split_one {α:Type} {l:List α} {n:Nat} (h:l.length = n + 1):∃ p x,l = p ++ [x] /\ p.length = n:=by
 obtain rfl | ⟨p,x,rfl⟩:=List.eq_nil_or_concat l
 · simp at h
 · exact ⟨p,x,by simp,by simpa using h⟩
theorem kind_root {l:List Nd} {ts us:List Tr} {t:Tr} {i:Nat} (h:l.take i = nodesL (ts ++ t :: us) 0):kindAt l ((sizeL ts + t.size - 1:Nat):Int) = t.rk:=by
 unfold kindAt;have hp:=size_pos t;have e:(l.take i)[sizeL ts + t.size - 1]? = some (t.root (sizeL ts)):=by
  rw [h,nodesL_append,List.getElem?_append_right (by rw [nodesL_len];omega),nodesL_len];unfold nodesL;rw [List.getElem?_append_left (by rw [nodes_len];omega),Nat.zero_add];(have:sizeL ts + t.size - 1 - sizeL ts = t.size - 1:=by omega);rw [this];exact nodes_last t _
 have hi:sizeL ts + t.size - 1 < i:=by
  rcases Nat.lt_or_ge (sizeL ts + t.size - 1) i with h1 | h1
  · exact h1
  · rw [List.getElem?_eq_none (by rw [List.length_take];omega)] at e;cases e
 rw [List.getElem?_take_of_lt hi] at e;rw [Int.toNat_natCast,e];simp [root_k]
def build (n:Nd) (ts:List Tr):List Tr :=
 if n.k = 0 then ts ++ [.e] else if n.k = 1 then ts ++ [.set n.s] else if n.k = 2 then ts ++ [.beg] else if n.k = 3 then ts ++ [.fin] else if n.k = 8 then ts ++ [.ref n.n]
 else match ts.reverse with
  | []=>ts
  | y :: us=>if n.k = 6 then us.reverse ++ [.times n.mn n.mx y] else if n.k = 7 then us.reverse ++ [.grp n.n y]
   else match us with
    | []=>ts
    | x :: vs=>if n.k = 4 then vs.reverse ++ [.cat x y] else vs.reverse ++ [.alt x y]
theorem step_trees {l:List Nd} {i:Nat} {n:Nd} {ts:List Tr} (hf:∀ t ∈ ts,t.Fine (l.length <= 1)) (hn:l.take i = nodesL ts 0) (hl:l[i]? = some n) (hok:StepOk l n (rootsL ts 0)) :
  (∀ t ∈ build n ts,t.Fine (l.length <= 1)) /\ l.take (i + 1) = nodesL (build n ts) 0 /\ push n i (rootsL ts 0) = rootsL (build n ts) 0:=by
 obtain ⟨h1,h2,h3,h4,h5⟩:=hok;rw [rootsL_len] at h2;have hil:i < l.length:=(List.getElem?_eq_some_iff.1 hl).1;have hi:i = sizeL ts:=by
  have:=congrArg List.length hn;rw [List.length_take,nodesL_len] at this;omega
 have htk:l.take (i + 1) = nodesL ts 0 ++ [n]:=by
  rw [List.take_succ_eq_append_getElem hil,hn]
  congr 2
  rw [List.getElem?_eq_getElem hil] at hl;exact Option.some.inj hl
 have leaf:∀ t:Tr,t.nodes i = [t.root i] -> t.root i = n -> t.Fine (l.length <= 1) -> parts n = 0 -> (∀ u ∈ ts ++ [t],u.Fine (l.length <= 1)) /\ l.take (i + 1) = nodesL (ts ++ [t]) 0 /\ push n i (rootsL ts 0) = rootsL (ts ++ [t]) 0:=by
  intro t e1 e2 e3 e4;(have hs:t.size = 1:=by have:=nodes_len t i;rw [e1] at this;simpa using this.symm);refine ⟨fun u hu=>?_,?_,?_⟩
  ·
   rw [List.mem_append,List.mem_singleton] at hu;rcases hu with hu | rfl
   · exact hf u hu
   · exact e3
  · rw [htk,nodesL_append];simp only [nodesL,List.append_nil,Nat.zero_add];rw [<- hi,e1,e2]
  · unfold push;rw [e4,rootsL_append,Nat.sub_zero,List.take_of_length_le (Nat.le_refl _)];simp only [rootsL,Nat.zero_add];rw [hs,hi];simp
 obtain ⟨k,s,a,b,mn,mx,m⟩:=n;have htwo:parts ⟨k,s,a,b,mn,mx,m⟩ = 2 -> ∃ us x y,ts = us ++ [x,y] /\ a = ((sizeL us + x.size - 1:Nat):Int) /\ b = ((sizeL us + x.size + y.size - 1:Nat):Int) /\ kindAt l a = x.rk /\ kindAt l b = y.rk /\ (rootsL ts 0).take ((rootsL ts 0).length - 2) = rootsL us 0:=by
  intro hp;rw [hp] at h2 h4;obtain ⟨p,y,rfl,hpl⟩:=split_one (show ts.length = (ts.length - 1) + 1 by omega);obtain ⟨us,x,rfl,_⟩:=split_one (show p.length = (p.length - 1) + 1 by simp at h2;omega);(have e0:us ++ [x] ++ [y] = us ++ [x,y]:=by simp);rw [e0] at h4 hn ⊢;have hr:rootsL (us ++ [x,y]) 0 = rootsL us 0 ++ [sizeL us + x.size - 1,sizeL us + x.size + y.size - 1]:=by
   rw [rootsL_append];simp [rootsL]
  rw [hr] at h4 ⊢;(have hd:(rootsL us 0 ++ [sizeL us + x.size - 1,sizeL us + x.size + y.size - 1]).length - 2 = (rootsL us 0).length:=by simp);rw [hd] at h4 ⊢;rw [List.drop_left] at h4;simp only [BelowOk] at h4;refine ⟨us,x,y,rfl,h4.1.symm,h4.2.symm,?_,?_,by rw [List.take_left]⟩
  · rw [<- h4.1];exact kind_root (us:=[y]) (by rw [hn])
  · rw [<- h4.2];have:=kind_root (l:=l) (ts:=us ++ [x]) (us:=[]) (t:=y) (i:=i) (by rw [hn];simp);rw [sizeL_append] at this;simpa [sizeL] using this
 have hone:parts ⟨k,s,a,b,mn,mx,m⟩ = 1 -> ∃ us x,ts = us ++ [x] /\ a = ((sizeL us + x.size - 1:Nat):Int) /\ kindAt l a = x.rk /\ (rootsL ts 0).take ((rootsL ts 0).length - 1) = rootsL us 0:=by
  intro hp;rw [hp] at h2 h4;obtain ⟨us,x,rfl,hpl⟩:=split_one (show ts.length = (ts.length - 1) + 1 by omega);have hr:rootsL (us ++ [x]) 0 = rootsL us 0 ++ [sizeL us + x.size - 1]:=by
   rw [rootsL_append];simp [rootsL]
  rw [hr] at h4 ⊢;(have hd:(rootsL us 0 ++ [sizeL us + x.size - 1]).length - 1 = (rootsL us 0).length:=by simp);rw [hd] at h4 ⊢;rw [List.drop_left] at h4;simp only [BelowOk] at h4;refine ⟨us,x,rfl,h4.symm,?_,by rw [List.take_left]⟩;rw [<- h4];exact kind_root (us:=[]) (by rw [hn])
 have join:∀ (us vs:List Tr) (t:Tr),ts = us ++ vs -> nodesL vs (sizeL us) ++ [⟨k,s,a,b,mn,mx,m⟩] = t.nodes (sizeL us) -> t.Fine (l.length <= 1) -> t.size = sizeL vs + 1 -> (rootsL ts 0).take ((rootsL ts 0).length - parts ⟨k,s,a,b,mn,mx,m⟩) = rootsL us 0 ->
   build ⟨k,s,a,b,mn,mx,m⟩ ts = us ++ [t] -> (∀ u ∈ build ⟨k,s,a,b,mn,mx,m⟩ ts,u.Fine (l.length <= 1)) /\ l.take (i + 1) = nodesL (build ⟨k,s,a,b,mn,mx,m⟩ ts) 0 /\ push ⟨k,s,a,b,mn,mx,m⟩ i (rootsL ts 0) = rootsL (build ⟨k,s,a,b,mn,mx,m⟩ ts) 0:=by
  rintro us vs t rfl e1 e2 e3 e4 e5;rw [e5];refine ⟨fun u hu=>?_,?_,?_⟩
  ·
   rw [List.mem_append,List.mem_singleton] at hu;rcases hu with hu | rfl
   · exact hf u (by simp [hu])
   · exact e2
  · rw [htk,nodesL_append,nodesL_append,List.append_assoc];simp only [nodesL,List.append_nil,Nat.zero_add];rw [e1]
  ·
   unfold push;rw [e4,rootsL_append];simp only [rootsL,Nat.zero_add];rw [hi,sizeL_append,e3]
   congr 2
 simp only [OneN] at h1;simp only [Fits] at h5;dsimp only at h3;rcases h1 with ⟨hk,rfl,rfl,rfl,rfl,rfl,rfl⟩ | ⟨rfl,hs,rfl,rfl,rfl,rfl,rfl⟩ | ⟨hk,rfl,rfl,rfl,rfl⟩ | ⟨rfl,rfl,rfl,rfl,h6,h7,h8⟩ | ⟨rfl,rfl,rfl,rfl,rfl,h6,h7⟩ | ⟨rfl,rfl,rfl,rfl,rfl,rfl,h6,h7⟩
 ·
  rcases hk with rfl | rfl | rfl
  · exact leaf .e rfl rfl (show l.length <= 1 from Nat.le_of_not_lt (fun q=>h3 ⟨rfl,q⟩)) rfl
  · exact leaf .beg rfl rfl trivial rfl
  · exact leaf .fin rfl rfl trivial rfl
 · exact leaf (.set s) rfl rfl hs rfl
 ·
  rcases hk with rfl | rfl
  · obtain ⟨us,x,y,e0,ea,eb,ka,kb,et⟩:=htwo rfl;rw [if_pos rfl,ka,kb] at h5;refine join us [x,y] (.cat x y) e0 ?_ ⟨hf x (by rw [e0];simp),hf y (by rw [e0];simp),h5.1,h5.2.1,h5.2.2⟩ (by simp [size,sizeL]) et (by rw [e0];simp [build]);simp [nodesL,nodes,root,ea,eb]
  · obtain ⟨us,x,y,e0,ea,eb,ka,kb,et⟩:=htwo rfl;rw [if_neg (by decide),if_pos rfl,ka] at h5;refine join us [x,y] (.alt x y) e0 ?_ ⟨hf x (by rw [e0];simp),hf y (by rw [e0];simp),h5⟩ (by simp [size,sizeL]) et (by rw [e0];simp [build]);simp [nodesL,nodes,root,ea,eb]
 · obtain ⟨us,x,e0,ea,ka,et⟩:=hone rfl;rw [if_neg (by decide),if_neg (by decide),if_pos rfl,ka] at h5;refine join us [x] (.times mn mx x) e0 ?_ ⟨hf x (by rw [e0];simp),h6,h7,h8,h5⟩ (by simp [size,sizeL]) et (by rw [e0];simp [build]);simp [nodesL,nodes,root,ea]
 · obtain ⟨us,x,e0,ea,ka,et⟩:=hone rfl;refine join us [x] (.grp m x) e0 ?_ ⟨hf x (by rw [e0];simp),h6,h7⟩ (by simp [size,sizeL]) et (by rw [e0];simp [build]);simp [nodesL,nodes,root,ea]
 · exact leaf (.ref m) rfl rfl ⟨h6,h7⟩ rfl
def treesRun (l:List Nd):Nat -> List Tr
 | 0=>[]
 | i + 1=>match l[i]? with
  | none=>treesRun l i
  | some n=>build n (treesRun l i)
theorem run_trees (l:List Nd):∀ (i:Nat) (st:List Nat),ordRun l i = some st -> (∀ t ∈ treesRun l i,t.Fine (l.length <= 1)) /\ l.take i = nodesL (treesRun l i) 0 /\ st = rootsL (treesRun l i) 0:=by
 intro i
 induction i with
 | zero =>
  intro st h;simp only [ordRun,Option.some.injEq] at h;exact ⟨by simp [treesRun],by simp [nodesL,treesRun],by simp [rootsL,treesRun,h.symm]⟩
 | succ i ih =>
  intro st' h;simp only [ordRun,Option.bind_eq_some_iff] at h;obtain ⟨st,hst,h⟩:=h;obtain ⟨hf,hn,rfl⟩:=ih st hst;cases hl:l[i]? with
  | none=>rw [hl] at h;cases h
  | some n =>
   rw [hl] at h;simp only at h;split at h
   · rename_i hok;obtain rfl:=(Option.some.inj h).symm;(have e:treesRun l (i + 1) = build n (treesRun l i):=by simp only [treesRun,hl]);rw [e];exact step_trees hf hn hl hok
   · cases h
theorem step_at {l:List Nd} {i:Nat} {n:Nd} {st:List Nat} (hr:ordRun l i = some st) (hl:l[i]? = some n) (ok:StepOk l n st):ordRun l (i + 1) = some (push n i st):=by
 simp only [ordRun,hr,Option.bind_some,hl];rw [if_pos ok]
def At (l:List Nd) (t:Tr) (o:Nat):Prop:=∀ j,j < t.size -> l[o + j]? = (t.nodes o)[j]?
theorem at_kind {l:List Nd} {t:Tr} {o:Nat} (h:At l t o):kindAt l ((o + t.size - 1:Nat):Int) = t.rk:=by
 have hp:=size_pos t;have e:=h (t.size - 1) (by omega);rw [nodes_last] at e;(have e2:o + (t.size - 1) = o + t.size - 1:=by omega);rw [e2] at e;unfold kindAt;rw [Int.toNat_natCast,e];simp [root_k]
theorem at_root {l:List Nd} {t:Tr} {o:Nat} (h:At l t o):l[o + t.size - 1]? = some (t.root o):=by
 have hp:=size_pos t;have e:=h (t.size - 1) (by omega);rw [nodes_last] at e
 rwa [show o + (t.size - 1) = o + t.size - 1 by omega] at e
theorem at_left {l:List Nd} {t x:Tr} {o:Nat} {r:List Nd} (h:At l t o) (e:t.nodes o = x.nodes o ++ r):At l x o:=by
 intro j hj;(have hl:t.size = x.size + r.length:=by have:=congrArg List.length e;rw [nodes_len,List.length_append,nodes_len] at this;exact this);rw [h j (by omega),e,List.getElem?_append_left (by rw [nodes_len];exact hj)]
theorem at_right {l:List Nd} {t x y:Tr} {o:Nat} {r:List Nd} (h:At l t o) (e:t.nodes o = x.nodes o ++ (y.nodes (o + x.size) ++ r)):At l y (o + x.size):=by
 intro j hj;(have hl:t.size = x.size + (y.size + r.length):=by have:=congrArg List.length e;rw [nodes_len,List.length_append,List.length_append,nodes_len,nodes_len] at this;exact this);have:=h (x.size + j) (by omega);rw [e,List.getElem?_append_right (by rw [nodes_len];omega),nodes_len,show x.size + j - x.size = j by omega,List.getElem?_append_left (by rw [nodes_len];exact hj)] at this;rw [<- this,Nat.add_assoc]
theorem fine_one {t:Tr} {em:Prop} (h:t.Fine em) (o:Nat):OneN (t.root o):=by
 cases t with
 | e=>exact Or.inl ⟨Or.inl rfl,rfl,rfl,rfl,rfl,rfl,rfl⟩
 | set s=>exact Or.inr (Or.inl ⟨rfl,h,rfl,rfl,rfl,rfl,rfl⟩)
 | beg=>exact Or.inl ⟨Or.inr (Or.inl rfl),rfl,rfl,rfl,rfl,rfl,rfl⟩
 | fin=>exact Or.inl ⟨Or.inr (Or.inr rfl),rfl,rfl,rfl,rfl,rfl,rfl⟩
 | cat x y=>exact Or.inr (Or.inr (Or.inl ⟨Or.inl rfl,rfl,rfl,rfl,rfl⟩))
 | alt x y=>exact Or.inr (Or.inr (Or.inl ⟨Or.inr rfl,rfl,rfl,rfl,rfl⟩))
 | times mn mx x=>exact Or.inr (Or.inr (Or.inr (Or.inl ⟨rfl,rfl,rfl,rfl,h.2.1,h.2.2.1,h.2.2.2.1⟩)))
 | grp n x=>exact Or.inr (Or.inr (Or.inr (Or.inr (Or.inl ⟨rfl,rfl,rfl,rfl,rfl,h.2.1,h.2.2⟩))))
 | ref n=>exact Or.inr (Or.inr (Or.inr (Or.inr (Or.inr ⟨rfl,rfl,rfl,rfl,rfl,rfl,h.1,h.2⟩))))
theorem run_post (em:Prop) (l:List Nd) (hem:em -> l.length <= 1):∀ (t:Tr) (o:Nat) (st:List Nat),t.Fine em -> At l t o -> ordRun l o = some st -> ordRun l (o + t.size) = some (st ++ [o + t.size - 1]):=by
 intro t;have leaf:∀ (t:Tr) (o:Nat) (st:List Nat),t.Fine em -> At l t o -> t.size = 1 -> parts (t.root o) = 0 -> (t.rk = 0 -> em) -> t.rk ≠ 4 -> t.rk ≠ 5 -> t.rk ≠ 6 -> ordRun l o = some st -> ordRun l (o + t.size) = some (st ++ [o + t.size - 1]):=by
  intro t o st hf ha hs hp he n4 n5 n6 hr;have h0:=at_root ha;rw [hs] at h0 ⊢;have h1:l[o]? = some (t.root o):=h0;have hok:StepOk l (t.root o) st:=by
   refine ⟨fine_one hf o,by omega,?_,?_,?_⟩
   · rw [root_k];rintro ⟨q,h2⟩;have:=hem (he q);omega
   · rw [hp,Nat.sub_zero,List.drop_length];trivial
   · unfold Fits;rw [root_k,if_neg n4,if_neg n5,if_neg n6];trivial
  rw [step_at hr h1 hok];unfold push;rw [hp,Nat.sub_zero,List.take_of_length_le (Nat.le_refl _)];rfl
 induction t with
 | e=>intro o st hf ha hr;exact leaf .e o st hf ha rfl rfl (fun _=>hf) (by decide) (by decide) (by decide) hr
 | set s=>intro o st hf ha hr;exact leaf (.set s) o st hf ha rfl rfl (fun q=>by cases q) (by show (1:Int) ≠ 4;decide) (by show (1:Int) ≠ 5;decide) (by show (1:Int) ≠ 6;decide) hr
 | beg=>intro o st hf ha hr;exact leaf .beg o st hf ha rfl rfl (fun q=>by cases q) (by decide) (by decide) (by decide) hr
 | fin=>intro o st hf ha hr;exact leaf .fin o st hf ha rfl rfl (fun q=>by cases q) (by decide) (by decide) (by decide) hr
 | ref n=>intro o st hf ha hr;exact leaf (.ref n) o st hf ha rfl rfl (fun q=>by cases q) (by show (8:Int) ≠ 4;decide) (by show (8:Int) ≠ 5;decide) (by show (8:Int) ≠ 6;decide) hr
 | cat x y ihx ihy =>
  intro o st hf ha hr;have ax:At l x o:=at_left ha (r:=y.nodes (o + x.size) ++ [(cat x y).root o]) (by simp [nodes]);have ay:At l y (o + x.size):=at_right ha (r:=[(cat x y).root o]) (by simp [nodes]);have r1:=ihx o st hf.1 ax hr;have r2:=ihy (o + x.size) _ hf.2.1 ay r1;have hroot:=at_root ha;have es:(cat x y).size = x.size + y.size + 1:=rfl;have px:=size_pos x;have py:=size_pos y;rw [es,show o + (x.size + y.size + 1) - 1 = o + x.size + y.size by omega] at hroot;have kx:=at_kind ax;have ky:=at_kind ay;(have hlen:(st ++ [o + x.size - 1] ++ [o + x.size + y.size - 1]).length - 2 = st.length:=by simp);have hok:StepOk l ((cat x y).root o) (st ++ [o + x.size - 1] ++ [o + x.size + y.size - 1]):=by
   refine ⟨fine_one hf o,by simp [parts,root],(by rw [root_k];rintro ⟨q,_⟩;cases q),?_,?_⟩
   · show BelowOk _ (List.drop (_ - 2) _);rw [hlen,List.append_assoc,List.drop_left];exact ⟨rfl,rfl⟩
   · unfold Fits;rw [root_k];(show if (4:Int) = 4 then _ else _);rw [if_pos rfl];exact ⟨by show kindAt l _ ≠ 4;rw [show ((cat x y).root o).a = ((o + x.size - 1:Nat):Int) from rfl,kx];exact hf.2.2.1,by show kindAt l _ ≠ 5;rw [show ((cat x y).root o).a = ((o + x.size - 1:Nat):Int) from rfl,kx];exact hf.2.2.2.1,by rw [show ((cat x y).root o).b = ((o + x.size + y.size - 1:Nat):Int) from rfl,ky];exact hf.2.2.2.2⟩
  rw [es,show o + (x.size + y.size + 1) = (o + x.size + y.size) + 1 by omega,step_at r2 hroot hok];unfold push;show some (List.take (_ - 2) _ ++ _) = _;rw [hlen,List.append_assoc,List.take_left];rfl
 | alt x y ihx ihy =>
  intro o st hf ha hr;have ax:At l x o:=at_left ha (r:=y.nodes (o + x.size) ++ [(alt x y).root o]) (by simp [nodes]);have ay:At l y (o + x.size):=at_right ha (r:=[(alt x y).root o]) (by simp [nodes]);have r1:=ihx o st hf.1 ax hr;have r2:=ihy (o + x.size) _ hf.2.1 ay r1;have hroot:=at_root ha;have es:(alt x y).size = x.size + y.size + 1:=rfl;have px:=size_pos x;have py:=size_pos y;rw [es,show o + (x.size + y.size + 1) - 1 = o + x.size + y.size by omega] at hroot;have kx:=at_kind ax;(have hlen:(st ++ [o + x.size - 1] ++ [o + x.size + y.size - 1]).length - 2 = st.length:=by simp);have hok:StepOk l ((alt x y).root o) (st ++ [o + x.size - 1] ++ [o + x.size + y.size - 1]):=by
   refine ⟨fine_one hf o,by simp [parts,root],(by rw [root_k];rintro ⟨q,_⟩;cases q),?_,?_⟩
   · show BelowOk _ (List.drop (_ - 2) _);rw [hlen,List.append_assoc,List.drop_left];exact ⟨rfl,rfl⟩
   · unfold Fits;rw [root_k];(show if (5:Int) = 4 then _ else if (5:Int) = 5 then _ else _);rw [if_neg (by decide),if_pos rfl];show kindAt l _ ≠ 5;rw [show ((alt x y).root o).a = ((o + x.size - 1:Nat):Int) from rfl,kx];exact hf.2.2
  rw [es,show o + (x.size + y.size + 1) = (o + x.size + y.size) + 1 by omega,step_at r2 hroot hok];unfold push;show some (List.take (_ - 2) _ ++ _) = _;rw [hlen,List.append_assoc,List.take_left];rfl
 | times mn mx x ihx =>
  intro o st hf ha hr;have ax:At l x o:=at_left ha (r:=[(times mn mx x).root o]) rfl;have r1:=ihx o st hf.1 ax hr;have hroot:=at_root ha;have es:(times mn mx x).size = x.size + 1:=rfl;have px:=size_pos x;rw [es,show o + (x.size + 1) - 1 = o + x.size by omega] at hroot;have kx:=at_kind ax;(have hlen:(st ++ [o + x.size - 1]).length - 1 = st.length:=by simp);have hok:StepOk l ((times mn mx x).root o) (st ++ [o + x.size - 1]):=by
   refine ⟨fine_one hf o,by simp [parts,root],(by rw [root_k];rintro ⟨q,_⟩;cases q),?_,?_⟩
   · show BelowOk _ (List.drop (_ - 1) _);rw [hlen,List.drop_left];exact rfl
   · unfold Fits;rw [root_k];(show if (6:Int) = 4 then _ else if (6:Int) = 5 then _ else if (6:Int) = 6 then _ else _);rw [if_neg (by decide),if_neg (by decide),if_pos rfl];rw [show ((times mn mx x).root o).a = ((o + x.size - 1:Nat):Int) from rfl,kx];exact hf.2.2.2.2
  rw [es,show o + (x.size + 1) = (o + x.size) + 1 by omega,step_at r1 hroot hok];unfold push;show some (List.take (_ - 1) _ ++ _) = _;rw [hlen,List.take_left];rfl
 | grp n x ihx =>
  intro o st hf ha hr;have ax:At l x o:=at_left ha (r:=[(grp n x).root o]) rfl;have r1:=ihx o st hf.1 ax hr;have hroot:=at_root ha;have es:(grp n x).size = x.size + 1:=rfl;have px:=size_pos x;rw [es,show o + (x.size + 1) - 1 = o + x.size by omega] at hroot;(have hlen:(st ++ [o + x.size - 1]).length - 1 = st.length:=by simp);have hok:StepOk l ((grp n x).root o) (st ++ [o + x.size - 1]):=by
   refine ⟨fine_one hf o,by simp [parts,root],(by rw [root_k];rintro ⟨q,_⟩;cases q),?_,?_⟩
   · show BelowOk _ (List.drop (_ - 1) _);rw [hlen,List.drop_left];exact rfl
   · unfold Fits;rw [root_k];(show if (7:Int) = 4 then _ else if (7:Int) = 5 then _ else if (7:Int) = 6 then _ else _);rw [if_neg (by decide),if_neg (by decide),if_neg (by decide)];trivial
  rw [es,show o + (x.size + 1) = (o + x.size) + 1 by omega,step_at r1 hroot hok];unfold push;show some (List.take (_ - 1) _ ++ _) = _;rw [hlen,List.take_left];rfl
def Whole (t:Tr):Prop:=t.Fine (t.size <= 1)
theorem at_self (t:Tr):At (t.nodes 0) t 0:=fun j _=>by rw [Nat.zero_add]
theorem ordered_iff (l:List Nd):Ordered l ↔ ∃ t:Tr,Whole t /\ l = t.nodes 0:=by
 constructor
 ·
  rintro ⟨i,h⟩;obtain ⟨hf,hn,hr⟩:=run_trees l _ _ h;generalize treesRun l l.length = ts at *;rw [List.take_length] at hn
  match ts,hr with
  | [t],hr =>
   (have hl:l = t.nodes 0:=by rw [hn];simp [nodesL]);refine ⟨t,?_,hl⟩;have:=hf t (by simp);rw [hl,nodes_len] at this;exact this
  | [],hr=>simp [rootsL] at hr
  | _ :: _ :: _,hr=>simp [rootsL] at hr
 · rintro ⟨t,hw,rfl⟩;have h:=run_post (t.size <= 1) (t.nodes 0) (fun q=>by rw [nodes_len];exact q) t 0 [] hw (at_self t) rfl;rw [Nat.zero_add] at h;exact ⟨t.size - 1,by rw [nodes_len];exact h⟩
end Go.Proofs.YtinallojhkaogaaGreatDoor.Rx
namespace Go.Proofs.YtinallojhkaogaaGreatDoor.St
structure Wf (ws:List Nat):Prop where
 len:ws.length = 4
 lt:∀ x ∈ ws,x < 2 ^ 64
def zeroW:List Nat:=[0,0,0,0]
def word (ws:List Nat) (i:Nat):Nat:=(ws[i]?).getD 0
def mem (ws:List Nat) (b:Nat):Bool:=(word ws (b / 64)).testBit (b % 64)
theorem word_lt {ws:List Nat} (h:Wf ws) (i:Nat):word ws i < 2 ^ 64:=by
 unfold word;cases hx:ws[i]? with
 | none=>simp
 | some x=>exact h.lt x (List.mem_of_getElem? hx)
theorem word_get {ws:List Nat} (h:Wf ws) {i:Nat} (hi:i < 4):ws[i]? = some (word ws i):=by
 unfold word;rw [List.getElem?_eq_getElem (by rw [h.len];exact hi)];rfl
theorem wf_zero:Wf zeroW:=⟨rfl,by simp [zeroW]⟩
theorem mem_zero (b:Nat):mem zeroW b = false:=by
 unfold mem word zeroW;rcases h:b / 64 with _ | _ | _ | _ | n <;> simp
theorem mem_bit {ws:List Nat} {i j:Nat} (hj:j < 64):mem ws (i * 64 + j) = (word ws i).testBit j:=by
 unfold mem;rw [show (i * 64 + j) / 64 = i from by omega,show (i * 64 + j) % 64 = j from by omega]
theorem ext_mem {ws vs:List Nat} (h:Wf ws) (h':Wf vs) (he:∀ b,b < 256 -> mem ws b = mem vs b):ws = vs:=by
 apply List.ext_getElem?;intro i;by_cases hi:i < 4
 ·
  rw [word_get h hi,word_get h' hi]
  congr 1
  apply Nat.eq_of_testBit_eq;intro j;by_cases hj:j < 64
  ·
   have:=he (i * 64 + j) (by omega)
   rwa [mem_bit hj,mem_bit hj] at this
  · rw [Nat.testBit_lt_two_pow (Nat.lt_of_lt_of_le (word_lt h i) (Nat.pow_le_pow_right (by decide) (by omega))),Nat.testBit_lt_two_pow (Nat.lt_of_lt_of_le (word_lt h' i) (Nat.pow_le_pow_right (by decide) (by omega)))]
 · rw [List.getElem?_eq_none (by rw [h.len];omega),List.getElem?_eq_none (by rw [h'.len];omega)]
theorem word_set {ws:List Nat} (h:Wf ws) (i:Nat) (v:Nat) (k:Nat) (hi:i < 4):word (ws.set i v) k = if k = i then v else word ws k:=by
 unfold word;rw [List.getElem?_set];by_cases hk:i = k
 · subst hk;simp [h.len,hi]
 · rw [if_neg hk,if_neg (fun e=>hk e.symm)]
theorem wf_set {ws:List Nat} (h:Wf ws) (i v:Nat) (hv:v < 2 ^ 64):Wf (ws.set i v) :=
 ⟨by rw [List.length_set];exact h.len,fun x hx=>by
  rcases List.mem_or_eq_of_mem_set hx with h1 | h1
  · exact h.lt x h1
  · rw [h1];exact hv⟩
def add1 (ws:List Nat) (b:Nat):List Nat:=ws.set (b / 64) (word ws (b / 64) ||| 2 ^ (b % 64))
theorem wf_add1 {ws:List Nat} (h:Wf ws) (b:Nat):Wf (add1 ws b) :=
 wf_set h _ _ (Nat.or_lt_two_pow (word_lt h _) (Nat.pow_lt_pow_right (by decide) (Nat.mod_lt _ (by decide))))
theorem mem_add1 {ws:List Nat} (h:Wf ws) {b c:Nat} (hb:b < 256):mem (add1 ws b) c = (mem ws c || c == b):=by
 unfold mem add1;rw [word_set h _ _ _ (by omega)];by_cases hk:c / 64 = b / 64
 ·
  rw [if_pos hk,Nat.testBit_or,Nat.testBit_two_pow,hk]
  congr 1
  by_cases hc:c = b
  · subst hc;simp
  · (have:¬ b % 64 = c % 64:=by omega);simp [hc,this]
 · rw [if_neg hk];(have:¬ c = b:=by intro e;apply hk;rw [e]);simp [this]
def ofL (l:List UInt8):List Nat:=l.foldl (fun ws c=>add1 ws c.toNat) zeroW
theorem foldl_add1:∀ (l:List UInt8) (ws:List Nat),Wf ws -> Wf (l.foldl (fun ws c=>add1 ws c.toNat) ws) /\ ∀ c,mem (l.foldl (fun ws c=>add1 ws c.toNat) ws) c = (mem ws c || l.any fun d=>c == d.toNat)
 | [],ws,h=>⟨h,fun c=>by simp⟩
 | d :: r,ws,h=>by
  obtain ⟨h1,h2⟩:=foldl_add1 r (add1 ws d.toNat) (wf_add1 h _);refine ⟨h1,fun c=>?_⟩;simp only [List.foldl_cons,List.any_cons];rw [h2 c,mem_add1 h (UInt8.toNat_lt d),Bool.or_assoc]
theorem wf_ofL (l:List UInt8):Wf (ofL l):=(foldl_add1 l zeroW wf_zero).1
theorem mem_ofL (l:List UInt8) (c:Nat):mem (ofL l) c = l.any fun d=>c == d.toNat:=by
 unfold ofL;rw [(foldl_add1 l zeroW wf_zero).2 c,mem_zero];simp
theorem ofL_snoc (l:List UInt8) (c:UInt8):ofL (l ++ [c]) = add1 (ofL l) c.toNat:=by unfold ofL;rw [List.foldl_append];rfl
def or2 (ws vs:List Nat):List Nat:=List.zipWith (· ||| ·) ws vs
theorem word_or2 {ws vs:List Nat} (h:Wf ws) (h':Wf vs) {i:Nat} (hi:i < 4):word (or2 ws vs) i = word ws i ||| word vs i:=by
 have h1:=word_get h hi;have h2:=word_get h' hi;unfold or2;show ((List.zipWith (· ||| ·) ws vs)[i]?).getD 0 = _;rw [List.getElem?_zipWith,h1,h2];rfl
theorem wf_or2 {ws vs:List Nat} (h:Wf ws) (h':Wf vs):Wf (or2 ws vs) where
 len:=by unfold or2;rw [List.length_zipWith,h.len,h'.len];rfl
 lt:=by
  intro x hx;obtain ⟨i,hi,rfl⟩:=List.getElem_of_mem hx;(have hi4:i < 4:=by unfold or2 at hi;rw [List.length_zipWith,h.len,h'.len] at hi;exact hi);(have:word (or2 ws vs) i = (or2 ws vs)[i]:=by unfold word;rw [List.getElem?_eq_getElem hi];rfl);rw [<- this,word_or2 h h' hi4];exact Nat.or_lt_two_pow (word_lt h i) (word_lt h' i)
theorem mem_or2 {ws vs:List Nat} (h:Wf ws) (h':Wf vs) {c:Nat} (hc:c < 256):mem (or2 ws vs) c = (mem ws c || mem vs c):=by
 unfold mem;rw [word_or2 h h' (by omega),Nat.testBit_or]
def orL (l:List (List Nat)):List Nat:=l.foldl or2 zeroW
theorem orL_spec:∀ (l:List (List Nat)) (ws:List Nat),Wf ws -> (∀ v ∈ l,Wf v) -> Wf (l.foldl or2 ws) /\ ∀ c,c < 256 -> mem (l.foldl or2 ws) c = (mem ws c || l.any fun v=>mem v c)
 | [],ws,h,_=>⟨h,fun c _=>by simp⟩
 | v :: r,ws,h,hl=>by
  obtain ⟨h1,h2⟩:=orL_spec r (or2 ws v) (wf_or2 h (hl v (by simp))) (fun u hu=>hl u (by simp [hu]));refine ⟨h1,fun c hc=>?_⟩;simp only [List.foldl_cons,List.any_cons];rw [h2 c hc,mem_or2 h (hl v (by simp)) hc,Bool.or_assoc]
theorem wf_orL {l:List (List Nat)} (hl:∀ v ∈ l,Wf v):Wf (orL l):=(orL_spec l zeroW wf_zero hl).1
def bytesN (ws:List Nat):List Nat:=(List.range 256).filter (mem ws)
theorem ext_word {ws vs:List Nat} (h:Wf ws) (h':Wf vs) (he:∀ i,i < 4 -> word ws i = word vs i):ws = vs:=by
 apply List.ext_getElem?;intro i;by_cases hi:i < 4
 · rw [word_get h hi,word_get h' hi,he i hi]
 · rw [List.getElem?_eq_none (by rw [h.len];omega),List.getElem?_eq_none (by rw [h'.len];omega)]
def orK (ws vs:List Nat):Nat -> List Nat
 | 0=>ws
 | k + 1=>(orK ws vs k).set k (word (orK ws vs k) k ||| word vs k)
theorem orK_spec {ws vs:List Nat} (h:Wf ws) (hv:Wf vs):∀ k,k <= 4 -> Wf (orK ws vs k) /\ ∀ i,i < 4 -> word (orK ws vs k) i = if i < k then word ws i ||| word vs i else word ws i
 | 0,_=>⟨h,fun i _=>by rw [orK,if_neg (by omega)]⟩
 | k + 1,hk=>by
  obtain ⟨h1,h2⟩:=orK_spec h hv k (by omega);refine ⟨wf_set h1 _ _ (Nat.or_lt_two_pow (word_lt h1 _) (word_lt hv _)),fun i hi=>?_⟩;rw [orK,word_set h1 _ _ _ (by omega)];by_cases he:i = k
  · subst he;rw [if_pos rfl,if_pos (by omega),h2 i hi,if_neg (by omega)]
  ·
   rw [if_neg he,h2 i hi];by_cases hl:i < k
   · rw [if_pos hl,if_pos (by omega)]
   · rw [if_neg hl,if_neg (by omega)]
theorem orK_four {ws vs:List Nat} (h:Wf ws) (hv:Wf vs):orK ws vs 4 = or2 ws vs:=by
 obtain ⟨h1,h2⟩:=orK_spec h hv 4 (by omega);exact ext_word h1 (wf_or2 h hv) fun i hi=>by rw [h2 i hi,if_pos hi,word_or2 h hv hi]
def bl (x:Nat):List Nat:=(List.range 64).filter fun j=>x.testBit j
theorem bl_zero:bl 0 = []:=by
 unfold bl;rw [List.filter_eq_nil_iff];intro j _;simp
theorem clear_low {x k m:Nat} (h:x = 2 ^ k * (2 * m + 1)):∀ j,(x &&& (x - 1)).testBit j = (x.testBit j && !(j == k)) /\ (j < k -> x.testBit j = false) /\ x.testBit k = true:=by
 intro j;have hp:=Nat.two_pow_pos k;(have h1:x - 1 = 2 ^ k * (2 * m) + (2 ^ k - 1):=by rw [h,Nat.mul_add];omega);have t2:∀ i,(2 * m + 1).testBit i = (i == 0 || (2 * m).testBit i):=by
  intro i;cases i with
  | zero=>simp
  | succ i=>simp only [Nat.testBit_succ];rw [show (2 * m + 1) / 2 = m from by omega,show 2 * m / 2 = m from by omega];simp
 (have hx:∀ j,x.testBit j = (decide (j ≥ k) && (2 * m + 1).testBit (j - k)):=fun j=>by rw [h,Nat.testBit_two_pow_mul]);refine ⟨?_,?_,?_⟩
 ·
  rw [Nat.testBit_and,h1,Nat.testBit_two_pow_mul_add _ (by omega),hx j,t2];by_cases hj:j < k
  · rw [if_pos hj];simp [Nat.not_le.2 hj]
  ·
   rw [if_neg hj];(have e:(j - k == 0) = (j == k):=by rw [Bool.eq_iff_iff];simp;omega);rw [e];by_cases hjk:j = k
   · subst hjk;simp
   · (have:(j == k) = false:=by simp [hjk]);simp [this,Nat.not_lt.1 hj]
 · intro hj;rw [hx j];simp [Nat.not_le.2 hj]
 · rw [hx k];simp
theorem bl_step {x:Nat} (h:x < 2 ^ 64) (h0:x ≠ 0):bl x = Lib.ctz 64 x :: bl (x &&& (x - 1)) /\ Lib.ctz 64 x < 64:=by
 obtain ⟨m,hm,hk⟩:=Lib.ctzFrom_spec 64 x (by omega) h;(have hc:Lib.ctz 64 x = Lib.ctzFrom 64 x:=by unfold Lib.ctz;rw [if_neg h0]);rw [hc];generalize Lib.ctzFrom 64 x = k at *;refine ⟨?_,hk⟩;have hcl:=clear_low hm;unfold bl;rw [show 64 = k + (1 + (63 - k)) from by omega,List.range_add,List.range_add];simp only [List.filter_append,List.map_append,List.filter_map];have z1:(List.range k).filter (fun j=>x.testBit j) = []:=by
  rw [List.filter_eq_nil_iff];intro j hj;rw [(hcl j).2.1 (List.mem_range.1 hj)];simp
 have z2:(List.range k).filter (fun j=>(x &&& (x - 1)).testBit j) = []:=by
  rw [List.filter_eq_nil_iff];intro j hj;rw [(hcl j).1,(hcl j).2.1 (List.mem_range.1 hj)];simp
 rw [z1,z2];have e1:(List.range 1) = [0]:=rfl;rw [e1];simp only [List.nil_append,List.filter_cons,List.filter_nil,Function.comp_def,List.map_cons,List.map_nil,Nat.add_zero,(hcl k).2.2,(hcl k).1];simp only [Bool.and_eq_true,beq_self_eq_true,Bool.not_true,Bool.and_false,if_true,List.map_cons,List.map_nil,List.cons_append,List.nil_append,Nat.add_zero];rw [if_neg (by simp)];simp only [List.map_nil,List.nil_append]
 congr 2
 congr 1
 apply List.filter_congr;intro j _;rw [(hcl _).1];(have:(k + (1 + j) == k) = false:=by simp);rw [this];simp
theorem clear_lt {x:Nat} (h:x < 2 ^ 64):x &&& (x - 1) < 2 ^ 64:=Nat.lt_of_le_of_lt Nat.and_le_left h
def tl (ws:List Nat) (k:Nat):Nat -> List Nat
 | 0=>[]
 | n + 1=>(bl (word ws k)).map (k * 64 + ·) ++ tl ws (k + 1) n
theorem tl_spec (ws:List Nat):∀ n k,tl ws k n = ((List.range (n * 64)).map (k * 64 + ·)).filter (mem ws)
 | 0,k=>rfl
 | n + 1,k=>by
  rw [tl,tl_spec ws n (k + 1),show (n + 1) * 64 = 64 + n * 64 from by omega,List.range_add,List.map_append,List.filter_append,List.map_map]
  congr 1
  ·
   rw [List.filter_map];unfold bl
   congr 1
   apply List.filter_congr;intro j hj;exact (mem_bit (List.mem_range.1 hj)).symm
  ·
   congr 2
   funext j;simp;omega
theorem tl_four (ws:List Nat):tl ws 0 4 = bytesN ws:=by
 rw [tl_spec];unfold bytesN;rw [show (fun x=>0 * 64 + x) = (id:Nat -> Nat) from by funext x;simp,List.map_id,show 4 * 64 = 256 from rfl]
theorem bytesN_lt {ws:List Nat} {b:Nat} (h:b ∈ bytesN ws):b < 256:=by
 unfold bytesN at h;exact List.mem_range.1 (List.mem_filter.1 h).1
theorem bytesN_len (ws:List Nat):(bytesN ws).length <= 256:=by
 unfold bytesN;exact Nat.le_trans (List.length_filter_le _ _) (by simp)
def bytesL (ws:List Nat):List UInt8:=(bytesN ws).map UInt8.ofNat
theorem bytesL_len (ws:List Nat):(bytesL ws).length = (bytesN ws).length:=by unfold bytesL;simp
theorem bytesL_of {ws:List Nat} {l:List UInt8} (h:l.map UInt8.toNat = bytesN ws):l = bytesL ws:=by
 unfold bytesL;rw [<- h,List.map_map]
 symm
 apply List.map_id'';intro x;simp
theorem ofNat_toNat {n:Nat} (h:n < 256):(UInt8.ofNat n).toNat = n:=by simp [UInt8.toNat_ofNat];omega
end Go.Proofs.YtinallojhkaogaaGreatDoor.St
namespace Go.Proofs.YtinallojhkaogaaGreatDoor.Ad
structure A3 where
 k:Int
 n:Int
 m:Int
 deriving DecidableEq,Repr
def One (a:A3):Prop :=
 ((a.k = 0 \/ a.k = 2) /\ a.n = 0 /\ a.m = 0) \/ ((a.k = 1 \/ a.k = 5 \/ a.k = 6) /\ 0 <= a.n /\ a.n <= 999999999 /\ a.m = 0) \/
 (a.k = 3 /\ 0 <= a.n /\ a.n <= 999999999 /\ 0 <= a.m /\ a.m <= 999999999) \/ (a.k = 4 /\ 0 <= a.n /\ a.n <= 999 /\ a.m = 0)
instance (a:A3):Decidable (One a):=by unfold One;infer_instance
def May (a b:A3):Prop:=One a /\ One b /\ a.k <= 4 /\ b.k ≠ 3 /\ (a.k = 0 -> b.k = 0) /\ (a.k = 1 -> a.n = 0 -> b.k = 4)
instance (a b:A3):Decidable (May a b):=by unfold May;infer_instance
def atoiV (l:List UInt8):Int:=match Lib.atoiAll l with
 | .ok v=>v
 | .syntax=>0
 | .range=>Lib.atoiSat l
def cutB (c:UInt8):List UInt8 -> List UInt8 × List UInt8 × Bool
 | []=>([],[],false)
 | b :: r=>if b = c then ([],r,true) else (b :: (cutB c r).1,(cutB c r).2.1,(cutB c r).2.2)
theorem cutB_at {c:UInt8}:∀ {l r:List UInt8},c ∉ l -> cutB c (l ++ c :: r) = (l,r,true)
 | [],r,_=>by simp [cutB]
 | b :: l,r,h=>by
  rw [List.cons_append];unfold cutB;rw [if_neg (by rintro rfl;exact h (by simp)),cutB_at (l:=l) (fun q=>h (by simp [q]))]
theorem digit_nat {d:Nat} (h:d < 10):(UInt8.ofNat (48 + d)).toNat = 48 + d:=by
 have:(UInt8.ofNat (48 + d)).toNat = (48 + d) % 256:=rfl;omega
theorem dec_digit (u:Nat):∀ c ∈ Lib.decDigits u,48 <= c.toNat /\ c.toNat <= 57:=by
 induction u using Nat.strongRecOn with
 | ind u ih =>
  rw [Lib.decDigits];by_cases h:u < 10
  · rw [dif_pos h];intro c hc;(have:c = UInt8.ofNat (48 + u):=by simpa using hc);rw [this,digit_nat h];omega
  ·
   rw [dif_neg h];intro c hc;rw [List.mem_append,List.mem_singleton] at hc;rcases hc with hc | rfl
   · exact ih (u / 10) (by omega) c hc
   · rw [digit_nat (by omega)];omega
theorem dec_ne (u:Nat):∃ c r,Lib.decDigits u = c :: r /\ 48 <= c.toNat /\ c.toNat <= 57:=by
 have hd:=dec_digit u;cases h:Lib.decDigits u with
 | nil =>
  exfalso;rw [Lib.decDigits] at h;by_cases h2:u < 10
  · rw [dif_pos h2] at h;cases h
  · rw [dif_neg h2] at h;simp at h
 | cons c r =>
  rw [h] at hd;exact ⟨c,r,rfl,hd c (by simp)⟩
theorem decFrom_append:∀ (l r:List UInt8) (a:Nat),Lib.decFrom a (l ++ r) = (Lib.decFrom a l).bind fun n=>Lib.decFrom n r
 | [],r,a=>rfl
 | c :: l,r,a=>by
  simp only [List.cons_append,Lib.decFrom];cases Lib.digitVal c with
  | none=>rfl
  | some d=>exact decFrom_append l r _
theorem digit_val {d:Nat} (h:d < 10):Lib.digitVal (UInt8.ofNat (48 + d)) = some d:=by
 unfold Lib.digitVal;rw [digit_nat h,if_pos (by omega)]
 congr 1;omega
theorem decFrom_dec (u:Nat):Lib.decFrom 0 (Lib.decDigits u) = some u:=by
 induction u using Nat.strongRecOn with
 | ind u ih =>
  rw [Lib.decDigits];by_cases h:u < 10
  · rw [dif_pos h];simp only [Lib.decFrom,digit_val h];simp
  ·
   rw [dif_neg h,decFrom_append,ih (u / 10) (by omega)];simp only [Option.bind_some,Lib.decFrom,digit_val (Nat.mod_lt u (by omega):u % 10 < 10)]
   congr 1;omega
theorem dec_len (u:Nat) (h:u <= 999999999):(Lib.decDigits u).length <= 9:=by
 have k:∀ (n:Nat) (u:Nat),u < 10 ^ (n + 1) -> (Lib.decDigits u).length <= n + 1:=by
  intro n
  induction n with
  | zero=>intro u hu;rw [Lib.decDigits,dif_pos (by simpa using hu)];simp
  | succ n ih =>
   intro u hu;rw [Lib.decDigits];by_cases h2:u < 10
   · rw [dif_pos h2];simp
   · rw [dif_neg h2];have:=ih (u / 10) (by rw [Nat.pow_succ] at hu;omega);simp;omega
 exact k 8 u (by omega)
theorem not_dec {c:UInt8} (h:c.toNat < 48 \/ 57 < c.toNat) (u:Nat):c ∉ Lib.decDigits u:=fun q=>by
 have:=dec_digit u c q;omega
end Go.Proofs.YtinallojhkaogaaGreatDoor.Ad
namespace Go.Proofs.YtinallojhkaogaaGreatDoor.Rx
open Tr
open St (Wf zeroW mem orL ofL add1 bytesL bytesN wf_ofL mem_ofL ext_mem or2 wf_or2 mem_or2 wf_zero mem_zero orL_spec bytesN_lt)
open Ad (cutB cutB_at atoiV)
def hexd (n:Nat):UInt8:=if n < 10 then UInt8.ofNat (48 + n) else UInt8.ofNat (87 + n)
def hexB (b:UInt8):List UInt8:=[hexd (b.toNat / 16),hexd (b.toNat % 16)]
def hexV (c:UInt8):Option Nat:=if 48 <= c.toNat /\ c.toNat <= 57 then some (c.toNat - 48) else if 97 <= c.toNat /\ c.toNat <= 102 then some (c.toNat - 87) else if 65 <= c.toNat /\ c.toNat <= 70 then some (c.toNat - 55) else none
theorem hexV_d:∀ n,n < 16 -> hexV (hexd n) = some n:=by decide
theorem hexd_ne:∀ n,n < 16 -> hexd n ≠ 93:=by decide
def textT:Tr -> List UInt8
 | .e=>[101]
 | .set s=>91 :: ((bytesL s).flatMap hexB ++ [93])
 | .beg=>[94]
 | .fin=>[36]
 | .cat x y=>38 :: (textT x ++ textT y)
 | .alt x y=>124 :: (textT x ++ textT y)
 | .times mn mx x=>42 :: (Lib.itoa mn ++ 44 :: (Lib.itoa mx ++ 59 :: textT x))
 | .grp n x=>40 :: (textT x ++ [41])
 | .ref n=>92 :: Lib.itoa n
def cnt:Tr -> Int
 | .cat x y=>cnt x + cnt y
 | .alt x y=>cnt x + cnt y
 | .times _ _ x=>cnt x
 | .grp _ x=>1 + cnt x
 | _=>0
def NumOk:Tr -> Int -> Prop
 | .cat x y,g=>NumOk x g /\ NumOk y (g + cnt x)
 | .alt x y,g=>NumOk x g /\ NumOk y (g + cnt x)
 | .times _ _ x,g=>NumOk x g
 | .grp n x,g=>n = g + 1 /\ NumOk x (g + 1)
 | _,_=>True
def SetsOk:Tr -> Prop
 | .set s=>Wf s
 | .cat x y=>SetsOk x /\ SetsOk y
 | .alt x y=>SetsOk x /\ SetsOk y
 | .times _ _ x=>SetsOk x
 | .grp _ x=>SetsOk x
 | _=>True
structure Rd where
 rest:List UInt8
 l:List Nd
 g:Int
 bad:Bool
def atoiK (l:List UInt8):Bool:=match Lib.atoiAll l with
 | .ok _=>true
 | _=>false
def untilP (e:UInt8) (r:Rd):Rd × List UInt8:=(⟨(cutB e r.rest).2.1,r.l,r.g,r.bad || !(cutB e r.rest).2.2⟩,(cutB e r.rest).1)
def numP (e:UInt8) (r:Rd):Rd × Int:=(⟨(untilP e r).1.rest,r.l,r.g,(untilP e r).1.bad || !atoiK (untilP e r).2⟩,atoiV (untilP e r).2)
def pairV (c d:UInt8):Nat × Bool:=match hexV c,hexV d with
 | some x,some y=>(x * 16 + y,true)
 | _,_=>(0,false)
def pairsP:List UInt8 -> List Nat -> Bool -> List Nat × Bool
 | c :: d :: r,s,bad=>pairsP r (orL [s,ofL [UInt8.ofNat (pairV c d).1]]) (bad || !(pairV c d).2)
 | _,s,bad=>(s,bad)
def setP (r:Rd):Rd × List Nat :=
 (⟨(untilP 93 r).1.rest,r.l,r.g,(pairsP (untilP 93 r).2 zeroW (untilP 93 r).1.bad).2⟩,(pairsP (untilP 93 r).2 zeroW (untilP 93 r).1.bad).1)
def pushP (r:Rd) (n:Nd):Rd × Nat:=(⟨r.rest,r.l ++ [n],r.g,r.bad⟩,r.l.length)
def closeP (r:Rd):Rd:=match r.rest with
 | []=>⟨[],r.l,r.g,true⟩
 | c :: t=>if c = 41 then ⟨t,r.l,r.g,r.bad⟩ else ⟨c :: t,r.l,r.g,true⟩
def refP (r:Rd):Rd × Int:=match r.rest with
 | []=>(⟨[],r.l,r.g,true⟩,0)
 | c :: t=>(⟨t,r.l,r.g,false⟩,(c.toNat:Int) - 48)
def nodeP:Nat -> Rd -> Rd × Nat
 | 0,r=>(⟨r.rest,r.l,r.g,true⟩,0)
 | left + 1,r =>
  if r.bad = true \/ 120 < r.l.length then (⟨r.rest,r.l,r.g,true⟩,0) else
  match r.rest with
  | []=>(⟨[],r.l,r.g,true⟩,0)
  | c :: t =>
   if c = 101 then pushP ⟨t,r.l,r.g,false⟩ ⟨0,z4,0,0,0,0,0⟩
   else if c = 91 then pushP (setP ⟨t,r.l,r.g,false⟩).1 ⟨1,(setP ⟨t,r.l,r.g,false⟩).2,0,0,0,0,0⟩
   else if c = 94 then pushP ⟨t,r.l,r.g,false⟩ ⟨2,z4,0,0,0,0,0⟩
   else if c = 36 then pushP ⟨t,r.l,r.g,false⟩ ⟨3,z4,0,0,0,0,0⟩
   else if c = 38 \/ c = 124 then
    let p:=nodeP left ⟨t,r.l,r.g,false⟩
    let q:=nodeP left p.1
    pushP q.1 ⟨if c = 124 then 5 else 4,z4,p.2,q.2,0,0,0⟩
   else if c = 42 then
    let a:=numP 44 ⟨t,r.l,r.g,false⟩
    let b:=numP 59 a.1
    let p:=nodeP left b.1
    pushP p.1 ⟨6,z4,p.2,0,a.2,b.2,0⟩
   else if c = 40 then
    let p:=nodeP left ⟨t,r.l,r.g + 1,false⟩
    pushP (closeP p.1) ⟨7,z4,p.2,0,0,0,r.g + 1⟩
   else if c = 92 then pushP (refP ⟨t,r.l,r.g,false⟩).1 ⟨8,z4,0,0,0,0,(refP ⟨t,r.l,r.g,false⟩).2⟩
   else pushP ⟨t,r.l,r.g,true⟩ ⟨0,z4,0,0,0,0,0⟩
theorem of_snoc (l:List UInt8) (b:UInt8):orL [ofL l,ofL [b]] = ofL (l ++ [b]):=by
 have h:=orL_spec [ofL l,ofL [b]] zeroW wf_zero (by intro v hv;simp at hv;rcases hv with rfl | rfl;exact wf_ofL _;exact wf_ofL _);apply ext_mem h.1 (wf_ofL _);intro c hc;have:=h.2 c hc;show mem (List.foldl or2 zeroW [ofL l,ofL [b]]) c = _;rw [this,mem_zero,mem_ofL];simp [mem_ofL,Bool.or_assoc]
theorem of_bytes {s:List Nat} (h:Wf s):ofL (bytesL s) = s:=by
 apply ext_mem (wf_ofL _) h;intro c hc;rw [mem_ofL,Bool.eq_iff_iff,List.any_eq_true];have e:∀ n:Nat,n < 256 -> (UInt8.ofNat n).toNat = n:=fun n hn=>by
  have:(UInt8.ofNat n).toNat = n % 256:=rfl;omega
 constructor
 · rintro ⟨d,hd,he⟩;unfold bytesL at hd;obtain ⟨n,hn,rfl⟩:=List.mem_map.1 hd;have hn2:=bytesN_lt hn;rw [e n hn2] at he;(obtain rfl:c = n:=by simpa using he);unfold bytesN at hn;exact (List.mem_filter.1 hn).2
 · intro hm;refine ⟨UInt8.ofNat c,?_,by rw [e c hc];simp⟩;unfold bytesL bytesN;exact List.mem_map.2 ⟨c,List.mem_filter.2 ⟨List.mem_range.2 hc,hm⟩,rfl⟩
theorem pairV_hex (b:UInt8):pairV (hexd (b.toNat / 16)) (hexd (b.toNat % 16)) = (b.toNat,true):=by
 have hb:=UInt8.toNat_lt b;unfold pairV;rw [hexV_d _ (by omega),hexV_d _ (by omega)];simp;omega
theorem pairs_hex:∀ (l pre:List UInt8),pairsP (l.flatMap hexB) (ofL pre) false = (ofL (pre ++ l),false)
 | [],pre=>by simp [pairsP]
 | b :: r,pre=>by
  rw [List.flatMap_cons];show pairsP (hexd (b.toNat / 16) :: hexd (b.toNat % 16) :: r.flatMap hexB) _ _ = _;unfold pairsP;rw [pairV_hex,of_snoc];simp only [UInt8.ofNat_toNat,Bool.not_true,Bool.or_self];rw [pairs_hex r (pre ++ [b])];simp
theorem hex_no:∀ (l:List UInt8),(93:UInt8) ∉ l.flatMap hexB:=by
 intro l hm;obtain ⟨b,_,hb⟩:=List.mem_flatMap.1 hm;have hlt:=UInt8.toNat_lt b;unfold hexB at hb;simp only [List.mem_cons,List.not_mem_nil,or_false] at hb;rcases hb with hb | hb
 · exact hexd_ne _ (by omega) hb.symm
 · exact hexd_ne _ (by omega) hb.symm
theorem set_back {s:List Nat} (h:Wf s) (rest:List UInt8) (l:List Nd) (g:Int):setP ⟨(bytesL s).flatMap hexB ++ 93 :: rest,l,g,false⟩ = (⟨rest,l,g,false⟩,s):=by
 have hc:cutB 93 ((bytesL s).flatMap hexB ++ 93 :: rest) = ((bytesL s).flatMap hexB,rest,true):=cutB_at (hex_no _);have hp:=pairs_hex (bytesL s) [];rw [List.nil_append,of_bytes h] at hp;unfold setP untilP;rw [hc];show ((⟨rest,l,g,(pairsP _ zeroW (false || !true)).2⟩:Rd),(pairsP _ zeroW (false || !true)).1) = _;rw [show (false || !true) = false from rfl,show zeroW = ofL [] from rfl,hp]
end Go.Proofs.YtinallojhkaogaaGreatDoor.Rx
