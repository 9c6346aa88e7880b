/- The texts RxBk RxPat MtP. -/
import Derived.Test.YtinallojhkaogaaGreatDoorHk01
set_option linter.unusedVariables false
set_option linter.unusedSimpArgs false
namespace Go.Proofs.YtinallojhkaogaaGreatDoor.Rx
open Tr
open St (Wf zeroW bytesL)
open Ad (cutB cutB_at atoiV decFrom_dec dec_len dec_ne not_dec)
theorem atoi_itoa {n:Int} (h0:-1 <= n) (h:n <= 255):Lib.atoiAll (Lib.itoa n) = .ok n:=by
 by_cases hn:n = -1
 ·
  subst hn;have e:Lib.itoa (-1) = [45,49]:=by
   unfold Lib.itoa;rw [if_pos (by decide)];show 45 :: Lib.decDigits 1 = _;rw [Lib.decDigits,dif_pos (by decide)];rfl
  rw [e];rfl
 · obtain ⟨u,rfl⟩:∃ u:Nat,n = u:=⟨n.toNat,by omega⟩;rw [Lib.itoa_nonneg];have hl:=dec_len u (by omega);have hd:=decFrom_dec u;obtain ⟨c,r,hc,h1,h2⟩:=dec_ne u;rw [Lib.atoiAll_short _ (by omega),hc];rw [hc] at hd;(have n45:(c == 45) = false:=by rw [beq_eq_false_iff_ne];rintro rfl;simp at h1);(have n43:(c == 43) = false:=by rw [beq_eq_false_iff_ne];rintro rfl;simp at h1);simp only [Lib.atoi,n45,n43,Bool.false_eq_true,if_false,Lib.decNat,List.isEmpty_cons,hd,Option.map_some];rfl
theorem not_itoa {n:Int} {c:UInt8} (hc:c.toNat < 45 \/ 57 < c.toNat):c ∉ Lib.itoa n:=by
 unfold Lib.itoa;split
 ·
  intro q;rw [List.mem_cons] at q;rcases q with rfl | q
  · simp at hc
  · exact not_dec (by omega) _ q
 · exact not_dec (by omega) _
theorem num_back {n:Int} (h0:-1 <= n) (h:n <= 255) {e:UInt8} (he:e.toNat < 45 \/ 57 < e.toNat) (rest:List UInt8) (l:List Nd) (g:Int) :
  numP e ⟨Lib.itoa n ++ e :: rest,l,g,false⟩ = (⟨rest,l,g,false⟩,n):=by
 have hc:cutB e (Lib.itoa n ++ e :: rest) = (Lib.itoa n,rest,true):=cutB_at (not_itoa he);have ha:=atoi_itoa h0 h;unfold numP untilP;dsimp only;rw [hc];dsimp only;unfold atoiK atoiV;rw [ha];rfl
theorem itoa_digit {n:Int} (h0:0 <= n) (h:n <= 9):Lib.itoa n = [UInt8.ofNat (48 + n.toNat)]:=by
 obtain ⟨u,rfl⟩:∃ u:Nat,n = u:=⟨n.toNat,by omega⟩;rw [Lib.itoa_nonneg,Lib.decDigits,dif_pos (by omega),Int.toNat_natCast]
theorem ref_back {n:Int} (h0:1 <= n) (h:n <= 9) (rest:List UInt8) (l:List Nd) (g:Int):refP ⟨Lib.itoa n ++ rest,l,g,false⟩ = (⟨rest,l,g,false⟩,n):=by
 rw [itoa_digit (by omega) h];unfold refP;simp only [List.singleton_append];have:(UInt8.ofNat (48 + n.toNat)).toNat = 48 + n.toNat:=by
  have e:(UInt8.ofNat (48 + n.toNat)).toNat = (48 + n.toNat) % 256:=rfl;omega
 rw [this]
 congr 1
 omega
theorem node_step {left:Nat} {c:UInt8} {t:List UInt8} {l:List Nd} {g:Int} (hl:l.length <= 120):nodeP (left + 1) ⟨c :: t,l,g,false⟩ =
   if c = 101 then pushP ⟨t,l,g,false⟩ ⟨0,z4,0,0,0,0,0⟩
   else if c = 91 then pushP (setP ⟨t,l,g,false⟩).1 ⟨1,(setP ⟨t,l,g,false⟩).2,0,0,0,0,0⟩
   else if c = 94 then pushP ⟨t,l,g,false⟩ ⟨2,z4,0,0,0,0,0⟩
   else if c = 36 then pushP ⟨t,l,g,false⟩ ⟨3,z4,0,0,0,0,0⟩
   else if c = 38 \/ c = 124 then
    pushP (nodeP left (nodeP left ⟨t,l,g,false⟩).1).1 ⟨if c = 124 then 5 else 4,z4,(nodeP left ⟨t,l,g,false⟩).2,(nodeP left (nodeP left ⟨t,l,g,false⟩).1).2,0,0,0⟩
   else if c = 42 then
    pushP (nodeP left (numP 59 (numP 44 ⟨t,l,g,false⟩).1).1).1 ⟨6,z4,(nodeP left (numP 59 (numP 44 ⟨t,l,g,false⟩).1).1).2,0,(numP 44 ⟨t,l,g,false⟩).2,(numP 59 (numP 44 ⟨t,l,g,false⟩).1).2,0⟩
   else if c = 40 then
    pushP (closeP (nodeP left ⟨t,l,g + 1,false⟩).1) ⟨7,z4,(nodeP left ⟨t,l,g + 1,false⟩).2,0,0,0,g + 1⟩
   else if c = 92 then pushP (refP ⟨t,l,g,false⟩).1 ⟨8,z4,0,0,0,0,(refP ⟨t,l,g,false⟩).2⟩
   else pushP ⟨t,l,g,true⟩ ⟨0,z4,0,0,0,0,0⟩:=by
 rw [nodeP,if_neg (by dsimp only;rintro (q | q);cases q;omega)]
theorem node_text (em:Prop):∀ (t:Tr) (left:Nat) (rest:List UInt8) (l:List Nd) (g:Int),t.Fine em -> NumOk t g -> SetsOk t -> t.size <= left -> l.length + t.size <= 121 ->
  nodeP left ⟨textT t ++ rest,l,g,false⟩ = (⟨rest,l ++ t.nodes l.length,g + cnt t,false⟩,l.length + t.size - 1):=by
 intro t
 induction t with
 | e | beg | fin =>
  intro left rest l g hf hn hs hl hb;obtain ⟨left,rfl⟩:∃ k,left = k + 1:=⟨left - 1,by simp only [size] at hl;omega⟩;simp only [size] at hb;simp only [textT,List.cons_append,List.nil_append];rw [node_step (by omega)];simp [pushP,nodes,root,cnt,size]
 | set s =>
  intro left rest l g hf hn hs hl hb;obtain ⟨left,rfl⟩:∃ k,left = k + 1:=⟨left - 1,by simp only [size] at hl;omega⟩;simp only [size] at hb;simp only [textT,List.cons_append,List.append_assoc,List.nil_append];rw [node_step (by omega),set_back hs];simp [pushP,nodes,root,cnt,size]
 | ref n =>
  intro left rest l g hf hn hs hl hb;obtain ⟨left,rfl⟩:∃ k,left = k + 1:=⟨left - 1,by simp only [size] at hl;omega⟩;simp only [size] at hb;simp only [textT,List.cons_append];rw [node_step (by omega),ref_back hf.1 hf.2];simp [pushP,nodes,root,cnt,size]
 | cat x y ihx ihy | alt x y ihx ihy =>
  intro left rest l g hf hn hs hl hb;obtain ⟨left,rfl⟩:∃ k,left = k + 1:=⟨left - 1,by simp only [size] at hl;omega⟩;simp only [size] at hl hb;have px:=size_pos x;have py:=size_pos y;have hx:=ihx left (textT y ++ rest) l g hf.1 hn.1 hs.1 (by omega) (by omega);have hy:=ihy left rest (l ++ x.nodes l.length) (g + cnt x) hf.2.1 hn.2 hs.2 (by omega) (by rw [List.length_append,nodes_len];omega);simp only [textT,List.cons_append,List.append_assoc];rw [node_step (by omega),hx];dsimp only;rw [hy];simp only [List.length_append,nodes_len,pushP,nodes,root,cnt,size];simp [Int.add_assoc];omega
 | times mn mx x ihx =>
  intro left rest l g hf hn hs hl hb;obtain ⟨left,rfl⟩:∃ k,left = k + 1:=⟨left - 1,by simp only [size] at hl;omega⟩;simp only [size] at hl hb;have px:=size_pos x;have hx:=ihx left rest l g hf.1 hn hs (by omega) (by omega);simp only [textT,List.cons_append,List.append_assoc];rw [node_step (by omega),num_back (by have:=hf.2.1;omega) hf.2.2.1 (by decide)];dsimp only;rw [num_back (by have:=hf.2.2.2.1;omega) (by have:=hf.2.2.2.1;omega) (by decide)];dsimp only;rw [hx];simp only [List.length_append,nodes_len,pushP,nodes,root,cnt,size];simp;try omega
 | grp n x ihx =>
  intro left rest l g hf hn hs hl hb;obtain ⟨left,rfl⟩:∃ k,left = k + 1:=⟨left - 1,by simp only [size] at hl;omega⟩;simp only [size] at hl hb;have px:=size_pos x;have hx:=ihx left (41 :: rest) l (g + 1) hf.1 hn.2 hs (by omega) (by omega);obtain rfl:=hn.1;simp only [textT,List.cons_append,List.append_assoc,List.nil_append];rw [node_step (by omega),hx];simp only [List.length_append,nodes_len,pushP,closeP,nodes,root,cnt,size];simp [nodes_len];omega
structure NSt where
 g:Int
 e:List Bool
 r:Bool
 ok:Bool
 deriving DecidableEq
def numT:Tr -> NSt -> NSt
 | .cat x y,s=>numT y (numT x s)
 | .alt x y,s=>numT y (numT x s)
 | .times _ _ x,s=>numT x s
 | .grp n x,s=>⟨(numT x ⟨s.g + 1,s.e,s.r,s.ok && decide (n = s.g + 1)⟩).g,(numT x ⟨s.g + 1,s.e,s.r,s.ok && decide (n = s.g + 1)⟩).e.set n.toNat true,(numT x ⟨s.g + 1,s.e,s.r,s.ok && decide (n = s.g + 1)⟩).r,(numT x ⟨s.g + 1,s.e,s.r,s.ok && decide (n = s.g + 1)⟩).ok⟩
 | .ref n,s=>⟨s.g,s.e,true,s.ok && (s.e[n.toNat]?).getD false⟩
 | _,s=>s
def num0:NSt:=⟨0,List.replicate 10 false,false,true⟩
theorem num_g:∀ (t:Tr) (s:NSt),(numT t s).g = s.g + cnt t
 | .e,s | .set _,s | .beg,s | .fin,s | .ref _,s=>by simp [numT,cnt]
 | .cat x y,s | .alt x y,s=>by simp only [numT,cnt];rw [num_g y,num_g x];omega
 | .times _ _ x,s=>by simp only [numT,cnt];exact num_g x s
 | .grp n x,s=>by simp only [numT,cnt];rw [num_g x];dsimp only;omega
theorem num_e:∀ (t:Tr) (s:NSt),(numT t s).e.length = s.e.length
 | .e,s | .set _,s | .beg,s | .fin,s | .ref _,s=>by simp [numT]
 | .cat x y,s | .alt x y,s=>by simp only [numT];rw [num_e y,num_e x]
 | .times _ _ x,s=>by simp only [numT];exact num_e x s
 | .grp n x,s=>by simp only [numT];rw [List.length_set,num_e x]
theorem num_ok:∀ (t:Tr) (s:NSt),(numT t s).ok = true -> s.ok = true /\ NumOk t s.g
 | .e,s,h | .set _,s,h | .beg,s,h | .fin,s,h=>⟨h,trivial⟩
 | .ref _,s,h=>by simp only [numT,Bool.and_eq_true] at h;exact ⟨h.1,trivial⟩
 | .cat x y,s,h | .alt x y,s,h=>by
  simp only [numT] at h;have h2:=num_ok y _ h;have h1:=num_ok x _ h2.1;rw [num_g] at h2;exact ⟨h1.1,h1.2,h2.2⟩
 | .times _ _ x,s,h=>num_ok x s h
 | .grp n x,s,h=>by
  simp only [numT] at h;have h1:=num_ok x _ h;simp only [Bool.and_eq_true,decide_eq_true_eq] at h1;exact ⟨h1.1.1,h1.1.2,h1.2⟩
theorem cnt_pos:∀ t:Tr,0 <= cnt t
 | .e | .set _ | .beg | .fin | .ref _=>by simp [cnt]
 | .cat x y | .alt x y=>by simp only [cnt];have:=cnt_pos x;have:=cnt_pos y;omega
 | .times _ _ x=>by simp only [cnt];exact cnt_pos x
 | .grp _ x=>by simp only [cnt];have:=cnt_pos x;omega
theorem cnt_size:∀ t:Tr,cnt t <= (t.size:Int)
 | .e | .set _ | .beg | .fin | .ref _=>by simp [cnt,size]
 | .cat x y | .alt x y=>by simp only [cnt,size];have:=cnt_size x;have:=cnt_size y;omega
 | .times _ _ x=>by simp only [cnt,size];have:=cnt_size x;omega
 | .grp _ x=>by simp only [cnt,size];have:=cnt_size x;omega
theorem cnt_le (em:Prop):∀ (t:Tr) (g:Int),t.Fine em -> NumOk t g -> g <= 9 -> g + cnt t <= 9
 | .e,g,_,_,h | .set _,g,_,_,h | .beg,g,_,_,h | .fin,g,_,_,h | .ref _,g,_,_,h=>by simp only [cnt];omega
 | .cat x y,g,hf,hn,h | .alt x y,g,hf,hn,h=>by
  simp only [cnt];have h1:=cnt_le em x g hf.1 hn.1 h;have h2:=cnt_le em y _ hf.2.1 hn.2 h1;omega
 | .times _ _ x,g,hf,hn,h=>cnt_le em x g hf.1 hn h
 | .grp n x,g,hf,hn,h=>by
  simp only [cnt];obtain ⟨rfl,hn⟩:=hn;have:=cnt_le em x (g + 1) hf.1 hn hf.2.2;omega
def refsT:Tr -> Nat
 | .cat x y=>refsT x + refsT y
 | .alt x y=>refsT x + refsT y
 | .times _ _ x=>refsT x
 | .grp _ x=>refsT x
 | .ref _=>1
 | _=>0
theorem dec_add (a b:Nat):decide (0 < a + b) = (decide (0 < a) || decide (0 < b)):=by
 by_cases h:0 < a
 · rw [decide_eq_true h,decide_eq_true (by omega),Bool.true_or]
 · (obtain rfl:a = 0:=by omega);simp
theorem num_r:∀ (t:Tr) (s:NSt),(numT t s).r = (s.r || decide (0 < refsT t))
 | .e,s | .set _,s | .beg,s | .fin,s | .ref _,s=>by simp [numT,refsT]
 | .cat x y,s | .alt x y,s=>by
  show (numT y (numT x s)).r = (s.r || decide (0 < refsT x + refsT y));rw [num_r y,num_r x,Bool.or_assoc,dec_add]
 | .times _ _ x,s=>by simp only [numT,refsT];exact num_r x s
 | .grp n x,s=>by
  simp only [numT,refsT];exact num_r x _
def Good (t:Tr):Prop:=Whole t /\ t.size <= 120 /\ (numT t num0).ok = true
theorem Good.numOk {t:Tr} (h:Good t):NumOk t 0:=(num_ok t num0 h.2.2).2
open St (Wf zeroW bytesL wf_zero)
theorem root_eq {t u:Tr} {o:Nat} (h:t.nodes o = u.nodes o):t.root o = u.root o /\ t.size = u.size:=by
  (have hl:t.size = u.size:=by rw [<- nodes_len t o,<- nodes_len u o,h]);have h1:=nodes_last t o;rw [h,hl,nodes_last u o] at h1;exact ⟨(Option.some.inj h1).symm,hl⟩
theorem nodes_inj:∀ (t u:Tr) (o:Nat),t.nodes o = u.nodes o -> t = u:=by
  intro t
  induction t with
  | e | set s | beg | fin | ref n =>
    intro u o h;have hr:=(root_eq h).1;cases u <;> simp_all [root]
  | cat x y ihx ihy | alt x y ihx ihy =>
    intro u o h;have hr:=(root_eq h).1;have px:=size_pos x;have py:=size_pos y;cases u with
    | cat x' y' | alt x' y' =>
      first
        | (simp only [root,Nd.mk.injEq] at hr;exfalso;have:=hr.1;revert this;decide)
        | (have px':=size_pos x'
           have py':=size_pos y';simp only [root,Nd.mk.injEq] at hr;(have ex:x.size = x'.size:=by omega);(have ey:y.size = y'.size:=by omega);simp only [nodes,List.append_assoc] at h;have h1:=List.append_inj h (by rw [nodes_len,nodes_len,ex]);rw [ex] at h1;have h2:=List.append_inj h1.2 (by rw [nodes_len,nodes_len,ey]);rw [ihx x' o h1.1,ihy y' _ h2.1])
    | e | set s | beg | fin | ref n | times mn mx x' | grp n x'=>simp [root] at hr
  | times mn mx x ihx | grp n x ihx =>
    intro u o h;have hr:=(root_eq h).1;have px:=size_pos x;cases u with
    | times mn' mx' x' | grp n' x' =>
      first
        | (simp only [root,Nd.mk.injEq] at hr;exfalso;have:=hr.1;revert this;decide)
        | (have px':=size_pos x'
           simp only [root,Nd.mk.injEq] at hr;(have ex:x.size = x'.size:=by omega);simp only [nodes] at h;have h1:=List.append_inj h (by rw [nodes_len,nodes_len,ex]);rw [ihx x' o h1.1];simp [hr])
    | e | set s | beg | fin | ref n | cat x' y' | alt x' y'=>simp [root] at hr
def patOf (l:List Nd):Option Tr:=match ordRun l l.length,treesRun l l.length with
  | some [_],[t]=>if l.length <= 120 /\ (numT t num0).ok = true then some t else none
  | _,_=>none
theorem patOf_some {l:List Nd} {t:Tr} (h:patOf l = some t):l = t.nodes 0 /\ Good t:=by
  unfold patOf at h;split at h
  · rename_i i t' h1 h2;split at h
    · rename_i hc;obtain rfl:=Option.some.inj h;obtain ⟨hf,hn,hr⟩:=run_trees l _ _ h1;rw [List.take_length,h2] at hn;rw [h2] at hf;(have hl:l = t'.nodes 0:=by rw [hn];simp [nodesL]);have hw:=hf t' (by simp);(have hs:l.length = t'.size:=by rw [hl,nodes_len]);rw [hs] at hw;exact ⟨hl,hw,by omega,hc.2⟩
    · cases h
  · cases h
theorem patOf_good {t:Tr} (h:Good t):patOf (t.nodes 0) = some t:=by
  obtain ⟨i,hi⟩:=(ordered_iff (t.nodes 0)).2 ⟨t,h.1,rfl⟩;obtain ⟨hf,hn,hr⟩:=run_trees _ _ _ hi;unfold patOf;rw [hi];generalize treesRun (t.nodes 0) (t.nodes 0).length = ts at *
  match ts,hr with
  | [u],hr =>
    rw [List.take_length] at hn;(have e:t.nodes 0 = u.nodes 0:=by rw [hn];simp [nodesL]);obtain rfl:=nodes_inj t u 0 e;dsimp only;rw [if_pos ⟨by rw [nodes_len];exact h.2.1,h.2.2⟩]
  | [],hr=>simp [rootsL] at hr
  | _ :: _ :: _,hr=>simp [rootsL] at hr
theorem patOf_none {l:List Nd} (h:patOf l = none) (t:Tr) (e:l = t.nodes 0):¬ Good t:=by
  intro hg;rw [e,patOf_good hg] at h;cases h
def textL (l:List Nd):List UInt8:=match patOf l with
  | some t=>textT t
  | none=>[]
def groupsL (l:List Nd):Int:=match patOf l with
  | some t=>cnt t
  | none=>0
def refsL (l:List Nd):Bool:=match patOf l with
  | some t=>decide (0 < refsT t)
  | none=>false
def mayL (l:List Nd):Bool:=(patOf l).isSome
theorem sets_nodes:∀ (t:Tr) (o:Nat),(∀ n ∈ t.nodes o,Wf n.s) -> SetsOk t
  | .e,_,_ | .beg,_,_ | .fin,_,_ | .ref _,_,_=>trivial
  | .set s,o,h=>by
    have:=h ((Tr.set s).root o) (by simp [nodes]);exact this
  | .cat x y,o,h | .alt x y,o,h=>⟨sets_nodes x o fun n hn=>h n (by simp [nodes,hn]),sets_nodes y (o + x.size) fun n hn=>h n (by simp [nodes,hn])⟩
  | .times _ _ x,o,h | .grp _ x,o,h=>sets_nodes x o fun n hn=>h n (by simp [nodes,hn])
theorem nodes_sets:∀ (t:Tr) (o:Nat),SetsOk t -> ∀ n ∈ t.nodes o,Wf n.s
  | .e,o,h,n,hn | .beg,o,h,n,hn | .fin,o,h,n,hn | .ref _,o,h,n,hn=>by
    simp only [nodes,List.mem_singleton] at hn;subst hn;exact wf_zero
  | .set s,o,h,n,hn=>by
    simp only [nodes,List.mem_singleton] at hn;subst hn;exact h
  | .cat x y,o,h,n,hn | .alt x y,o,h,n,hn=>by
    simp only [nodes,List.mem_append,List.mem_singleton] at hn;rcases hn with (hn | hn) | rfl
    · exact nodes_sets x o h.1 n hn
    · exact nodes_sets y _ h.2 n hn
    · exact wf_zero
  | .times _ _ x,o,h,n,hn | .grp _ x,o,h,n,hn=>by
    simp only [nodes,List.mem_append,List.mem_singleton] at hn;rcases hn with hn | rfl
    · exact nodes_sets x o h n hn
    · exact wf_zero
def parseL (s:List UInt8):Option (List Nd) :=
  let p:=(nodeP 120 ⟨s,[],0,false⟩).1
  if p.bad = false /\ mayL p.l = true /\ textL p.l = s then some p.l else none
theorem parse_text {t:Tr} (h:Good t) (hs:SetsOk t):parseL (textT t) = some (t.nodes 0):=by
  have h1:=node_text _ t 120 [] [] 0 h.1 h.numOk hs h.2.1 (by have:=h.2.1;simp;omega);rw [List.append_nil] at h1;unfold parseL;rw [h1];have e:=patOf_good h;simp only [List.nil_append,List.length_nil];unfold mayL textL;rw [e];simp
end Go.Proofs.YtinallojhkaogaaGreatDoor.Rx
namespace Go.Proofs.YtinallojhkaogaaGreatDoor.Mt
open Rx
open Rx.Tr
open St (mem)
abbrev Cap:=Option (Nat × Nat)
abbrev Caps:=List Cap
def nones:Caps:=List.replicate 10 none
def hasAt (s:List Nat) (T:List UInt8) (i:Nat):Bool:=match T[i]? with
  | some b=>mem s b.toNat
  | none=>false
def cutT (T:List UInt8) (i j:Nat):List UInt8:=(T.drop i).take (j - i)
def refAt (T:List UInt8) (c:Caps) (n i j:Nat):Bool:=match c[n]? with
  | some (some (a,b))=>decide (cutT T a b = cutT T i j)
  | _=>false
def down {α:Type} (f:Nat -> Option α) (i:Nat):Nat -> Option α
  | 0=>f i
  | n + 1=>match f (i + n + 1) with
    | some a=>some a
    | none=>down f i n
theorem down_some {α:Type} {f:Nat -> Option α} {i:Nat} {a:α}:∀ {n:Nat},down f i n = some a -> ∃ k,i <= k /\ k <= i + n /\ f k = some a
  | 0,h=>⟨i,Nat.le_refl _,Nat.le_refl _,h⟩
  | n + 1,h=>by
    unfold down at h;cases hk:f (i + n + 1) with
    | some b=>rw [hk] at h;cases h;exact ⟨i + n + 1,by omega,by omega,hk⟩
    | none =>
      rw [hk] at h;obtain ⟨k,h1,h2,h3⟩:=down_some h;exact ⟨k,h1,by omega,h3⟩
theorem down_congr {α:Type} {f g:Nat -> Option α} {i:Nat}:∀ {n:Nat},(∀ k,i <= k -> k <= i + n -> f k = g k) -> down f i n = down g i n
  | 0,h=>h i (Nat.le_refl _) (Nat.le_refl _)
  | n + 1,h=>by
    unfold down;rw [h (i + n + 1) (by omega) (by omega),down_congr (n:=n) fun k h1 h2=>h k h1 (by omega)]
def timesP (f:Nat -> Nat -> Caps -> Option Caps) (mn mx:Int) (j:Nat):Nat -> Nat -> Nat -> Caps -> Option Caps
  | fuel,p,k,c =>
    if p = j then (if mn <= (k:Int) then some c else f j j c)
    else if mx ≠ -1 /\ mx <= (k:Int) then none
    else match fuel with
      | 0=>none
      | fuel + 1=>down (fun q=>(f p q c).bind fun a=>timesP f mn mx j fuel q (k + 1) a) (p + 1) (j - p - 1)
def fitP (T:List UInt8):Tr -> Nat -> Nat -> Caps -> Option Caps
  | .e,i,j,c=>if i = j then some c else none
  | .set s,i,j,c=>if j = i + 1 /\ hasAt s T i = true then some c else none
  | .beg,i,j,c=>if j = 0 then some c else none
  | .fin,i,j,c=>if i = T.length then some c else none
  | .cat x y,i,j,c=>down (fun k=>(fitP T x i k c).bind fun a=>fitP T y k j a) i (j - i)
  | .alt x y,i,j,c=>match fitP T x i j c with
    | some a=>some a
    | none=>fitP T y i j c
  | .times mn mx x,i,j,c=>timesP (fitP T x) mn mx j (j - i) i 0 c
  | .grp n x,i,j,c=>(fitP T x i j c).map fun a=>a.set n.toNat (some (i,j))
  | .ref n,i,j,c=>if refAt T c n.toNat i j = true then some c else none
theorem times_fuel {f:Nat -> Nat -> Caps -> Option Caps} {mn mx:Int} {j:Nat}:∀ (a b p k:Nat) (c:Caps),p <= j -> j - p <= a -> j - p <= b -> timesP f mn mx j a p k c = timesP f mn mx j b p k c:=by
  intro a
  induction a with
  | zero =>
    intro b p k c hp ha hb;(obtain rfl:p = j:=by omega);unfold timesP;rw [if_pos rfl,if_pos rfl]
  | succ a ih =>
    intro b p k c hp ha hb;unfold timesP;by_cases h1:p = j
    · rw [if_pos h1,if_pos h1]
    · rw [if_neg h1,if_neg h1];cases b with
      | zero=>omega
      | succ b =>
        dsimp only;rw [down_congr (g:=fun q=>(f p q c).bind fun x=>timesP f mn mx j b q (k + 1) x) fun q h2 h3=>by
          cases f p q c with
          | none=>rfl
          | some x=>exact ih b q (k + 1) x (by omega) (by omega) (by omega)]
theorem noref_cat {x y:Tr} (h:refsT x + refsT y = 0):refsT x = 0 /\ refsT y = 0:=by omega
inductive Chain (E:Nat -> Nat -> Bool) (mx:Int) (N at0:Nat):Nat -> Nat -> Prop where
  | zero:Chain E mx N at0 0 at0
  | step {c p q:Nat}:Chain E mx N at0 c p -> p < q -> q <= N -> E p q = true -> (mx = -1 \/ (c:Int) < mx) -> Chain E mx N at0 (c + 1) q
theorem Chain.le {E:Nat -> Nat -> Bool} {mx:Int} {N at0 c p:Nat} (h0:at0 <= N) (h:Chain E mx N at0 c p):p <= N:=by
  cases h with
  | zero=>exact h0
  | step _ _ h2 _ _=>exact h2
theorem Chain.cons {E:Nat -> Nat -> Bool} {mx:Int} {N p q:Nat} (h1:p < q) (h2:q <= N) (h3:E p q = true) (h4:mx = -1 \/ (0:Int) < mx) {m r:Nat} (h:Chain E (if mx = -1 then -1 else mx - 1) N q m r):Chain E mx N p (m + 1) r:=by
  induction h with
  | zero=>exact .step .zero h1 h2 h3 h4
  | step _ a1 a2 a3 a4 ih =>
    refine .step ih a1 a2 a3 ?_;rcases h4 with h4 | h4
    · exact Or.inl h4
    · right;rw [if_neg (by omega)] at a4;omega
theorem times_chain {E:Nat -> Nat -> Bool} {f:Nat -> Nat -> Caps -> Option Caps} {mn mx:Int} {j N:Nat} (hE:∀ p q c a,p <= q -> q <= N -> f p q c = some a -> E p q = true) (hj:j <= N) :
    ∀ (fuel p k:Nat) (c a:Caps),p <= j -> (mx = -1 \/ (k:Int) <= mx) -> timesP f mn mx j fuel p k c = some a ->
    ∃ m,Chain E (if mx = -1 then -1 else mx - k) N p m j /\ (mn - k <= (m:Int) \/ E j j = true):=by
  intro fuel
  induction fuel with
  | zero =>
    intro p k c a hp hk h;unfold timesP at h;split at h
    · rename_i e;subst e;split at h
      · exact ⟨0,.zero,Or.inl (by omega)⟩
      · exact ⟨0,.zero,Or.inr (hE p p c a (Nat.le_refl _) hj h)⟩
    · split at h <;> cases h
  | succ fuel ih =>
    intro p k c a hp hk h;unfold timesP at h;split at h
    · rename_i e;subst e;split at h
      · exact ⟨0,.zero,Or.inl (by omega)⟩
      · exact ⟨0,.zero,Or.inr (hE p p c a (Nat.le_refl _) hj h)⟩
    · rename_i hne;split at h
      · cases h
      · rename_i hmx;dsimp only at h;obtain ⟨q,h1,h2,h3⟩:=down_some h;cases hf:f p q c with
        | none=>rw [hf] at h3;cases h3
        | some b =>
          rw [hf,Option.bind_some] at h3;(have hk1:mx = -1 \/ ((k + 1:Nat):Int) <= mx:=by omega);obtain ⟨m,hc,hm⟩:=ih q (k + 1) b a (by omega) hk1 h3;refine ⟨m + 1,Chain.cons (by omega) (by omega) (hE p q c b (by omega) (by omega) hf) ?_ ?_,hm.imp (fun h=>by omega) id⟩
          · by_cases e:mx = -1
            · left;rw [if_pos e]
            · right;rw [if_neg e];omega
          · by_cases e:mx = -1
            · rw [if_pos e,if_pos rfl];rw [if_pos e] at hc;exact hc
            · rw [if_neg e,if_neg (by omega)];rw [if_neg e] at hc;(have e2:mx - (k:Int) - 1 = mx - ((k + 1:Nat):Int):=by omega);rw [e2];exact hc
structure LS where
  now:Nat -> Bool
  had:Nat -> Bool
  b:Nat -> Bool
structure IS where
  had:Nat -> Bool
  b:Nat -> Bool
  next:Nat -> Bool
def skips (mn mx:Int) (now:Nat -> Bool) (c:Nat) (s:IS) (p:Nat):Bool:=!now p || (decide (mn <= (c:Int)) && decide (mx = -1) && s.had p)
def workP (E:Nat -> Nat -> Bool) (mn mx:Int) (N c:Nat) (s:IS) (p:Nat):IS :=
  ⟨fun q=>s.had q || (decide (mn <= (c:Int)) && decide (q = p)),
   fun q=>if q = p then s.b p || decide (mn <= (c:Int)) || E p p else s.b q,
   fun q=>s.next q || (decide (p < q) && decide (q <= N) && (decide (mx = -1) || decide ((c:Int) < mx)) && E p q)⟩
def inP (E:Nat -> Nat -> Bool) (mn mx:Int) (N:Nat) (l:LS) (c:Nat):Nat -> IS
  | 0=>⟨l.had,l.b,fun _=>false⟩
  | p + 1=>if skips mn mx l.now c (inP E mn mx N l c p) p = true then inP E mn mx N l c p else workP E mn mx N c (inP E mn mx N l c p) p
def rnd (E:Nat -> Nat -> Bool) (mn mx:Int) (N:Nat) (l:LS) (c:Nat):LS:=⟨(inP E mn mx N l c (N + 1)).next,(inP E mn mx N l c (N + 1)).had,(inP E mn mx N l c (N + 1)).b⟩
def seqT (E:Nat -> Nat -> Bool) (mn mx:Int) (N at0:Nat):Nat -> LS
  | 0=>⟨fun q=>decide (q = at0),fun _=>false,fun _=>false⟩
  | c + 1=>rnd E mn mx N (seqT E mn mx N at0 c) c
def timesB (E:Nat -> Nat -> Bool) (mn mx:Int) (N at0:Nat):Nat -> Bool:=(seqT E mn mx N at0 (N + 1)).b
section
variable {E:Nat -> Nat -> Bool} {mn mx:Int} {N at0:Nat}
theorem inP_mono (l:LS) (c:Nat):∀ (p p':Nat),p <= p' -> ∀ q,((inP E mn mx N l c p).had q = true -> (inP E mn mx N l c p').had q = true) /\ ((inP E mn mx N l c p).b q = true -> (inP E mn mx N l c p').b q = true) /\ ((inP E mn mx N l c p).next q = true -> (inP E mn mx N l c p').next q = true):=by
  intro p p' h
  induction h with
  | refl=>exact fun q=>⟨id,id,id⟩
  | @step m h ih =>
    intro q;obtain ⟨h1,h2,h3⟩:=ih q;rw [show inP E mn mx N l c (m + 1) = if skips mn mx l.now c (inP E mn mx N l c m) m = true then inP E mn mx N l c m else workP E mn mx N c (inP E mn mx N l c m) m from rfl];split
    · exact ⟨h1,h2,h3⟩
    · unfold workP;refine ⟨fun a=>?_,fun a=>?_,fun a=>?_⟩
      · simp [h1 a]
      · dsimp only;split
        · rename_i e;subst e;simp [h2 a]
        · exact h2 a
      · simp [h3 a]
theorem inP_had (l:LS) (c q:Nat):∀ p,p <= q -> (inP E mn mx N l c p).had q = l.had q
  | 0,_=>rfl
  | p + 1,h=>by
    unfold inP;split
    · exact inP_had l c q p (by omega)
    · unfold workP;dsimp only;rw [inP_had l c q p (by omega),decide_eq_false (by omega:¬ q = p)];simp
def Work (l:LS) (c p:Nat) (mn mx:Int):Prop:=l.now p = true /\ ¬ (mn <= (c:Int) /\ mx = -1 /\ l.had p = true)
theorem work_effect {l:LS} {c p:Nat} (hp:p <= N) (h:Work l c p mn mx) :
    (mn <= (c:Int) -> (rnd E mn mx N l c).had p = true) /\ ((mn <= (c:Int) \/ E p p = true) -> (rnd E mn mx N l c).b p = true) /\ ∀ q,p < q -> q <= N -> E p q = true -> (mx = -1 \/ (c:Int) < mx) -> (rnd E mn mx N l c).now q = true:=by
  have hs:skips mn mx l.now c (inP E mn mx N l c p) p = false:=by
    unfold skips;rw [inP_had l c p p (Nat.le_refl _),h.1];simp only [Bool.not_true,Bool.false_or];rw [Bool.eq_false_iff];intro q;simp only [Bool.and_eq_true,decide_eq_true_eq] at q;exact h.2 ⟨q.1.1,q.1.2,q.2⟩
  have e:inP E mn mx N l c (p + 1) = workP E mn mx N c (inP E mn mx N l c p) p:=by
    rw [inP,if_neg (by rw [hs];simp)]
  have hm:=inP_mono (E:=E) (mn:=mn) (mx:=mx) (N:=N) l c (p + 1) (N + 1) (by omega);unfold rnd;refine ⟨fun a=>(hm p).1 ?_,fun a=>(hm p).2.1 ?_,fun q h1 h2 h3 h4=>(hm q).2.2 ?_⟩
  · rw [e];simp [workP,a]
  · rw [e];rcases a with a | a <;> simp [workP,a]
  · rw [e];rcases h4 with h4 | h4 <;> simp [workP,h1,h2,h3,h4]
theorem rnd_b {l:LS} {c q:Nat} (h:l.b q = true):(rnd E mn mx N l c).b q = true:=(inP_mono (E:=E) (mn:=mn) (mx:=mx) (N:=N) l c 0 (N + 1) (by omega) q).2.1 h
theorem inP_had_why (l:LS) (c q:Nat):∀ p,(inP E mn mx N l c p).had q = true -> l.had q = true \/ (mn <= (c:Int) /\ q < p /\ Work l c q mn mx)
  | 0,h=>Or.inl h
  | p + 1,h=>by
    unfold inP at h;split at h
    · rcases inP_had_why l c q p h with a | ⟨a1,a2,a3⟩
      · exact Or.inl a
      · exact Or.inr ⟨a1,by omega,a3⟩
    · rename_i hs;unfold workP at h;dsimp only at h;rw [Bool.or_eq_true] at h;rcases h with h | h
      · rcases inP_had_why l c q p h with a | ⟨a1,a2,a3⟩
        · exact Or.inl a
        · exact Or.inr ⟨a1,by omega,a3⟩
      · simp only [Bool.and_eq_true,decide_eq_true_eq] at h;obtain ⟨h1,rfl⟩:=h;refine Or.inr ⟨h1,by omega,?_⟩;unfold skips at hs;rw [inP_had l c q q (Nat.le_refl _)] at hs;simp only [Bool.or_eq_true,Bool.not_eq_true',Bool.and_eq_true,decide_eq_true_eq,not_or] at hs;refine ⟨by cases hh:l.now q <;> simp_all,fun a=>hs.2 ⟨⟨a.1,a.2.1⟩,a.2.2⟩⟩
theorem had_why (q:Nat):∀ c,(seqT E mn mx N at0 c).had q = true -> ∃ c0,c0 < c /\ mn <= (c0:Int) /\ Work (seqT E mn mx N at0 c0) c0 q mn mx
  | 0,h=>by cases h
  | c + 1,h=>by
    rcases inP_had_why _ c q (N + 1) h with a | ⟨a1,_,a3⟩
    · obtain ⟨c0,h1,h2,h3⟩:=had_why q c a;exact ⟨c0,by omega,h2,h3⟩
    · exact ⟨c,by omega,a1,a3⟩
theorem b_mono (q:Nat) (c:Nat):∀ c',c <= c' -> (seqT E mn mx N at0 c).b q = true -> (seqT E mn mx N at0 c').b q = true:=by
  intro c' h
  induction h with
  | refl=>exact id
  | step _ ih=>exact fun a=>rnd_b (ih a)
theorem inP_next (l:LS) (c q:Nat):∀ p,(inP E mn mx N l c p).next q = true -> ∃ p',l.now p' = true /\ p' < q /\ q <= N
  | 0,h=>by cases h
  | p + 1,h=>by
    unfold inP at h;split at h
    · exact inP_next l c q p h
    · rename_i hs;unfold workP at h;dsimp only at h;rw [Bool.or_eq_true] at h;rcases h with h | h
      · exact inP_next l c q p h
      · simp only [Bool.and_eq_true,decide_eq_true_eq] at h;refine ⟨p,?_,h.1.1.1,h.1.1.2⟩;unfold skips at hs;simp only [Bool.or_eq_true,Bool.not_eq_true',not_or] at hs;cases hh:l.now p <;> simp_all
theorem now_ge (q:Nat):∀ c,(seqT E mn mx N at0 c).now q = true -> at0 + c <= q
  | 0,h=>by
    have:q = at0:=of_decide_eq_true h;omega
  | c + 1,h=>by
    obtain ⟨p',h1,h2,h3⟩:=inP_next _ c q (N + 1) h;have:=now_ge p' c h1;omega
theorem now_le (q:Nat) (h0:at0 <= N):∀ c,(seqT E mn mx N at0 c).now q = true -> q <= N
  | 0,h=>by
    have:q = at0:=of_decide_eq_true h;omega
  | c + 1,h=>(inP_next _ c q (N + 1) h).elim fun _ h=>h.2.2
theorem chain_seen (h0:at0 <= N):∀ {c p:Nat},Chain E mx N at0 c p -> (seqT E mn mx N at0 c).now p = true \/ (mx = -1 /\ ∃ c',c' < c /\ mn <= (c':Int) /\ Work (seqT E mn mx N at0 c') c' p mn mx):=by
  intro c p h
  induction h with
  | zero=>left;exact decide_eq_true rfl
  | @step c p q hc h1 h2 h3 h4 ih =>
    have hp:p <= N:=hc.le h0;have key:(Work (seqT E mn mx N at0 c) c p mn mx) \/ (mx = -1 /\ ∃ c',c' < c /\ mn <= (c':Int) /\ Work (seqT E mn mx N at0 c') c' p mn mx):=by
      rcases ih with ih | ih
      · by_cases hs:mn <= (c:Int) /\ mx = -1 /\ (seqT E mn mx N at0 c).had p = true
        · obtain ⟨c0,a1,a2,a3⟩:=had_why p c hs.2.2;exact Or.inr ⟨hs.2.1,c0,a1,a2,a3⟩
        · exact Or.inl ⟨ih,hs⟩
      · exact Or.inr ih
    rcases key with key | ⟨hm,c',a1,a2,a3⟩
    · left;exact (work_effect hp key).2.2 q h1 h2 h3 h4
    · have hn:(seqT E mn mx N at0 (c' + 1)).now q = true:=(work_effect hp a3).2.2 q h1 h2 h3 (Or.inl hm);rcases Nat.lt_or_ge (c' + 1) (c + 1) with hlt | hge
      · right;refine ⟨hm,?_⟩;by_cases hs:mn <= ((c' + 1:Nat):Int) /\ mx = -1 /\ (seqT E mn mx N at0 (c' + 1)).had q = true
        · obtain ⟨c0,b1,b2,b3⟩:=had_why q (c' + 1) hs.2.2;exact ⟨c0,by omega,b2,b3⟩
        · exact ⟨c' + 1,hlt,by omega,hn,hs⟩
      · omega
theorem now_end (h0:at0 <= N) {c q:Nat} (h:(seqT E mn mx N at0 c).now q = true):c <= N:=by
  have h1:=now_ge q c h;have h2:=now_le q h0 c h;omega
theorem chain_end (h0:at0 <= N) {c j:Nat} (h:Chain E mx N at0 c j) (he:mn <= (c:Int) \/ E j j = true):timesB E mn mx N at0 j = true:=by
  have hj:j <= N:=h.le h0;have main:∃ c',c' <= N /\ Work (seqT E mn mx N at0 c') c' j mn mx /\ (mn <= (c':Int) \/ E j j = true):=by
    rcases chain_seen (mn:=mn) h0 h with hn | ⟨_,c',h1,h2,h3⟩
    · have hcN:=now_end h0 hn;by_cases hs:mn <= (c:Int) /\ mx = -1 /\ (seqT E mn mx N at0 c).had j = true
      · obtain ⟨c0,b1,b2,b3⟩:=had_why j c hs.2.2;exact ⟨c0,by omega,b3,Or.inl b2⟩
      · exact ⟨c,hcN,⟨hn,hs⟩,he⟩
    · exact ⟨c',now_end h0 h3.1,h3,Or.inl h2⟩
  obtain ⟨c',h1,h2,h3⟩:=main;exact b_mono j (c' + 1) (N + 1) (by omega) ((work_effect hj h2).2.1 h3)
theorem inP_still {l:LS} (c:Nat) (h:∀ q,q <= N -> l.now q = false):∀ p,p <= N + 1 -> inP E mn mx N l c p = ⟨l.had,l.b,fun _=>false⟩
  | 0,_=>rfl
  | p + 1,hp=>by
    have ih:=inP_still c h p (by omega);unfold inP;rw [ih,if_pos (by unfold skips;rw [h p (by omega)];rfl)]
theorem seq_still (c:Nat) (h:∀ q,q <= N -> (seqT E mn mx N at0 c).now q = false):∀ c',c <= c' -> (∀ q,q <= N -> (seqT E mn mx N at0 c').now q = false) /\ (seqT E mn mx N at0 c').b = (seqT E mn mx N at0 c).b:=by
  intro c' hc
  induction hc with
  | refl=>exact ⟨h,rfl⟩
  | @step m _ ih =>
    have e:seqT E mn mx N at0 (m + 1) = ⟨fun _=>false,(seqT E mn mx N at0 m).had,(seqT E mn mx N at0 m).b⟩:=by
      show rnd E mn mx N _ m = _;unfold rnd;rw [inP_still m ih.1 (N + 1) (Nat.le_refl _)]
    rw [e];exact ⟨fun _ _=>rfl,ih.2⟩
theorem seq_done (h0:at0 <= N) (c:Nat) (hc:c <= N + 1) (h:∀ q,q <= N -> (seqT E mn mx N at0 c).now q = false):(seqT E mn mx N at0 c).b = timesB E mn mx N at0:=(seq_still c h (N + 1) hc).2.symm
end
def endsP (T:List UInt8):Tr -> Nat -> Nat -> Bool
  | .e,i,j=>decide (j = i)
  | .set s,i,j=>decide (j = i + 1) && hasAt s T i
  | .beg,i,j=>decide (j = i) && decide (i = 0)
  | .fin,i,j=>decide (j = i) && decide (i = T.length)
  | .cat x y,i,j=>(List.range (T.length + 1)).any fun k=>endsP T x i k && endsP T y k j
  | .alt x y,i,j=>endsP T x i j || endsP T y i j
  | .times mn mx x,i,j=>timesB (endsP T x) mn mx T.length i j
  | .grp _ x,i,j=>endsP T x i j
  | .ref _,_,_=>false
def NumsOk:Tr -> Prop
  | .cat x y | .alt x y=>NumsOk x /\ NumsOk y
  | .times _ mx x=>(mx = -1 \/ 0 <= mx) /\ NumsOk x
  | .grp _ x=>NumsOk x
  | _=>True
theorem nums_fine (em:Prop):∀ t:Tr,t.Fine em -> NumsOk t
  | .e,_ | .set _,_ | .beg,_ | .fin,_ | .ref _,_=>trivial
  | .cat x y,h | .alt x y,h=>⟨nums_fine em x h.1,nums_fine em y h.2.1⟩
  | .times mn mx x,h=>⟨by have:=h.2.2.2.1;omega,nums_fine em x h.1⟩
  | .grp n x,h=>nums_fine em x h.1
theorem ends_sound {T:List UInt8}:∀ (t:Tr),refsT t = 0 -> NumsOk t -> ∀ (i j:Nat) (c a:Caps),i <= j -> j <= T.length -> fitP T t i j c = some a -> endsP T t i j = true
  | .e,_,_,i,j,c,a,hij,hj,h=>by
    unfold fitP at h;split at h
    · rename_i e;subst e;simp [endsP]
    · cases h
  | .set s,_,_,i,j,c,a,hij,hj,h=>by
    unfold fitP at h;split at h
    · rename_i e;simp [endsP,e.1,e.2]
    · cases h
  | .beg,_,_,i,j,c,a,hij,hj,h=>by
    unfold fitP at h;split at h
    · rename_i e;(have hi:i = 0:=by omega);simp [endsP,e,hi]
    · cases h
  | .fin,_,_,i,j,c,a,hij,hj,h=>by
    unfold fitP at h;split at h
    · rename_i e;(have hi:j = i:=by omega);simp [endsP,e,hi]
    · cases h
  | .cat x y,hr,hn,i,j,c,a,hij,hj,h=>by
    have hr:=noref_cat hr;unfold fitP at h;obtain ⟨k,h1,h2,h3⟩:=down_some h;cases hx:fitP T x i k c with
    | none=>rw [hx] at h3;cases h3
    | some b =>
      rw [hx,Option.bind_some] at h3;have e1:=ends_sound x hr.1 hn.1 i k c b h1 (by omega) hx;have e2:=ends_sound y hr.2 hn.2 k j b a (by omega) hj h3;unfold endsP;rw [List.any_eq_true];exact ⟨k,List.mem_range.2 (by omega),by rw [e1,e2];rfl⟩
  | .alt x y,hr,hn,i,j,c,a,hij,hj,h=>by
    have hr:=noref_cat hr;unfold fitP at h;unfold endsP;rw [Bool.or_eq_true];cases hx:fitP T x i j c with
    | some b=>exact Or.inl (ends_sound x hr.1 hn.1 i j c b hij hj hx)
    | none =>
      rw [hx] at h;exact Or.inr (ends_sound y hr.2 hn.2 i j c a hij hj h)
  | .times mn mx x,hr,hn,i,j,c,a,hij,hj,h=>by
    unfold fitP at h;obtain ⟨m,hc,hm⟩:=times_chain (E:=endsP T x) (f:=fitP T x) (N:=T.length) (fun p q c a h1 h2 h3=>ends_sound x hr hn.2 p q c a h1 h2 h3) hj (j - i) i 0 c a hij (by have:=hn.1;omega) h;(have e:(if mx = -1 then -1 else mx - ((0:Nat):Int)) = mx:=by split <;> omega);rw [e] at hc;unfold endsP;exact chain_end (by omega) hc (hm.imp (fun h=>by omega) id)
  | .grp n x,hr,hn,i,j,c,a,hij,hj,h=>by
    unfold fitP at h;cases hx:fitP T x i j c with
    | none=>rw [hx] at h;cases h
    | some b=>exact ends_sound x hr hn i j c b hij hj hx
  | .ref n,hr,_,_,_,_,_,_,_,_=>by cases hr
theorem reach_sound {T:List UInt8} {x:Tr} (hr:refsT x = 0) (hn:NumsOk x) {mn mx:Int} {j fuel p k:Nat} {c a:Caps} (hp:p <= j) (hj:j <= T.length) (hk:mx = -1 \/ (k:Int) <= mx) (h:timesP (fitP T x) mn mx j fuel p k c = some a) :
    timesB (endsP T x) (max 0 (mn - k)) (if mx = -1 then -1 else mx - k) T.length p j = true:=by
  obtain ⟨m,hc,hm⟩:=times_chain (E:=endsP T x) (f:=fitP T x) (N:=T.length) (fun p q c a h1 h2 h3=>ends_sound x hr hn p q c a h1 h2 h3) hj fuel p k c a hp hk h;exact chain_end (by omega) hc (hm.imp (fun h=>by omega) id)
end Go.Proofs.YtinallojhkaogaaGreatDoor.Mt
