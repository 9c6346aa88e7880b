/- The texts M6P M6a M6s. -/
import Derived.Deep.LoopGhost
import Derived.Test.YtinallojhkaogaaGreatDoorHk06
set_option linter.unusedVariables false
set_option linter.unusedSimpArgs false
set_option maxHeartbeats 6400000
set_option maxRecDepth 100000
namespace Go.Proofs.YtinallojhkaogaaGreatDoor.Mt
open Rx
open Rx.Tr
open St (mem)
def stC (a:Nat -> Nat -> Bool) (mn mx:Int) (j most:Nat):Nat -> Nat -> Bool
 | 0,p=>decide (p = j) && (decide (mn <= (most:Int)) || a j j)
 | u + 1,p=>if p = j then decide (mn <= ((most - (u + 1):Nat):Int)) || a j j
  else (List.range (j + 1)).any fun k=>decide (p < k) && (decide (mx = -1) || decide (((most - (u + 1):Nat):Int) < mx)) && a p k && stC a mn mx j most u k
def gP (T:List UInt8):Tr -> Nat -> Nat -> Bool
 | .e,i,j=>decide (i = j)
 | .set s,i,j=>decide (j = i + 1) && hasAt s T i
 | .beg,i,j=>decide (j = 0)
 | .fin,i,j=>decide (i = T.length)
 | .cat x y,i,j=>(List.range (j + 1)).any fun k=>decide (i <= k) && gP T x i k && gP T y k j
 | .alt x y,i,j=>gP T x i j || gP T y i j
 | .times mn mx x,i,j=>stC (gP T x) mn mx j (j + 2) (j + 2) i
 | .grp _ x,i,j=>gP T x i j
 | .ref _,_,_=>false
theorem st_sound {f:Nat -> Nat -> Caps -> Option Caps} {A:Nat -> Nat -> Bool} {mn mx:Int} {j N:Nat} (hA:∀ p q c a,p <= q -> q <= N -> f p q c = some a -> A p q = true) (hj:j <= N) :
  ∀ (fuel p k:Nat) (c a:Caps),p <= j -> k <= p -> timesP f mn mx j fuel p k c = some a -> stC A mn mx j (j + 2) (j + 2 - k) p = true:=by
 intro fuel
 induction fuel with
 | zero =>
  intro p k c a hp hk h;obtain ⟨u,he⟩:∃ u,j + 2 - k = u + 1:=⟨j + 1 - k,by omega⟩;(have hee:j + 2 - (u + 1) = k:=by omega);rw [he];unfold timesP at h;split at h
  ·
   rename_i e2;subst e2;unfold stC;rw [if_pos rfl,hee,Bool.or_eq_true];split at h
   · rename_i q;exact Or.inl (decide_eq_true q)
   · exact Or.inr (hA p p c a (Nat.le_refl _) hj h)
  · split at h <;> cases h
 | succ fuel ih =>
  intro p k c a hp hk h;obtain ⟨u,he⟩:∃ u,j + 2 - k = u + 1:=⟨j + 1 - k,by omega⟩;(have hee:j + 2 - (u + 1) = k:=by omega);rw [he];unfold timesP at h;split at h
  ·
   rename_i e2;subst e2;unfold stC;rw [if_pos rfl,hee,Bool.or_eq_true];split at h
   · rename_i q;exact Or.inl (decide_eq_true q)
   · exact Or.inr (hA p p c a (Nat.le_refl _) hj h)
  ·
   rename_i hne;split at h
   · cases h
   ·
    rename_i hmx;dsimp only at h;obtain ⟨q,h1,h2,h3⟩:=down_some h;cases hf:f p q c with
    | none=>rw [hf] at h3;cases h3
    | some b =>
     rw [hf,Option.bind_some] at h3;have hi:=ih q (k + 1) b a (by omega) (by omega) h3;rw [show j + 2 - (k + 1) = u by omega] at hi;unfold stC;rw [if_neg hne,List.any_eq_true];refine ⟨q,List.mem_range.2 (by omega),?_⟩;rw [hee,hi,hA p q c b (by omega) (by omega) hf,decide_eq_true (by omega:p < q)];by_cases e1:mx = -1
     · rw [decide_eq_true e1];rfl
     · rw [decide_eq_true (by omega:(k:Int) < mx)];simp
theorem g_sound {T:List UInt8}:∀ (t:Tr),refsT t = 0 -> ∀ (i j:Nat) (c a:Caps),i <= j -> j <= T.length -> fitP T t i j c = some a -> gP T t i j = true
 | .e,_,i,j,c,a,hij,hj,h=>by
  unfold fitP at h;split at h
  · rename_i e;simp [gP,e]
  · cases h
 | .set s,_,i,j,c,a,hij,hj,h=>by
  unfold fitP at h;split at h
  · rename_i e;simp [gP,e.1,e.2]
  · cases h
 | .beg,_,i,j,c,a,hij,hj,h=>by
  unfold fitP at h;split at h
  · rename_i e;simp [gP,e]
  · cases h
 | .fin,_,i,j,c,a,hij,hj,h=>by
  unfold fitP at h;split at h
  · rename_i e;simp [gP,e]
  · cases h
 | .cat x y,hr,i,j,c,a,hij,hj,h=>by
  have hr:=noref_cat hr;unfold fitP at h;obtain ⟨k,h1,h2,h3⟩:=down_some h;cases hx:fitP T x i k c with
  | none=>rw [hx] at h3;cases h3
  | some b =>
   rw [hx,Option.bind_some] at h3;have e1:=g_sound x hr.1 i k c b h1 (by omega) hx;have e2:=g_sound y hr.2 k j b a (by omega) hj h3;unfold gP;rw [List.any_eq_true];exact ⟨k,List.mem_range.2 (by omega),by rw [e1,e2,decide_eq_true h1];rfl⟩
 | .alt x y,hr,i,j,c,a,hij,hj,h=>by
  have hr:=noref_cat hr;unfold fitP at h;unfold gP;rw [Bool.or_eq_true];cases hx:fitP T x i j c with
  | some b=>exact Or.inl (g_sound x hr.1 i j c b hij hj hx)
  | none =>
   rw [hx] at h;exact Or.inr (g_sound y hr.2 i j c a hij hj h)
 | .times mn mx x,hr,i,j,c,a,hij,hj,h=>by
  unfold fitP at h;have:=st_sound (A:=gP T x) (f:=fitP T x) (N:=T.length) (fun p q c a h1 h2 h3=>g_sound x hr p q c a h1 h2 h3) hj (j - i) i 0 c a hij (by omega) h;exact this
 | .grp n x,hr,i,j,c,a,hij,hj,h=>by
  unfold fitP at h;cases hx:fitP T x i j c with
  | none=>rw [hx] at h;cases h
  | some b=>exact g_sound x hr i j c b hij hj hx
 | .ref n,hr,_,_,_,_,_,_,_=>by cases hr
def sT:Tr -> Nat -> Tr
 | .cat x y,k=>if k < x.size then sT x k else if k < x.size + y.size then sT y (k - x.size) else .cat x y
 | .alt x y,k=>if k < x.size then sT x k else if k < x.size + y.size then sT y (k - x.size) else .alt x y
 | .times a b x,k=>if k < x.size then sT x k else .times a b x
 | .grp n x,k=>if k < x.size then sT x k else .grp n x
 | t,_=>t
theorem sT_self:∀ t:Tr,sT t (t.size - 1) = t
 | .cat x y=>by
  unfold sT;have e:(Tr.cat x y).size = x.size + y.size + 1:=rfl;have:=size_pos x;rw [e,if_neg (by omega),if_neg (by omega)]
 | .alt x y=>by
  unfold sT;have e:(Tr.alt x y).size = x.size + y.size + 1:=rfl;have:=size_pos x;rw [e,if_neg (by omega),if_neg (by omega)]
 | .times a b x=>by
  unfold sT;have e:(Tr.times a b x).size = x.size + 1:=rfl;rw [e,if_neg (by omega)]
 | .grp n x=>by
  unfold sT;have e:(Tr.grp n x).size = x.size + 1:=rfl;rw [e,if_neg (by omega)]
 | .e | .set _ | .beg | .fin | .ref _=>rfl
def InT (t x:Tr) (o:Nat):Prop:=∀ m,m < x.size -> sT t (o + m) = sT x m
theorem in_self (t:Tr):InT t t 0:=fun m _=>by rw [Nat.zero_add]
theorem in_root {t x:Tr} {o:Nat} (h:InT t x o):sT t (o + x.size - 1) = x:=by
 have hp:=size_pos x;have:=h (x.size - 1) (by omega);rw [sT_self,show o + (x.size - 1) = o + x.size - 1 by omega] at this;exact this
theorem in_cat1 {t x y:Tr} {o:Nat} (h:InT t (.cat x y) o):InT t x o:=fun m hm=>by
 rw [h m (by show m < x.size + y.size + 1;omega),sT,if_pos hm]
theorem in_cat2 {t x y:Tr} {o:Nat} (h:InT t (.cat x y) o):InT t y (o + x.size):=fun m hm=>by
 rw [Nat.add_assoc,h (x.size + m) (by show _ < x.size + y.size + 1;omega),sT,if_neg (by omega),if_pos (by omega),show x.size + m - x.size = m by omega]
theorem in_alt1 {t x y:Tr} {o:Nat} (h:InT t (.alt x y) o):InT t x o:=fun m hm=>by
 rw [h m (by show m < x.size + y.size + 1;omega),sT,if_pos hm]
theorem in_alt2 {t x y:Tr} {o:Nat} (h:InT t (.alt x y) o):InT t y (o + x.size):=fun m hm=>by
 rw [Nat.add_assoc,h (x.size + m) (by show _ < x.size + y.size + 1;omega),sT,if_neg (by omega),if_pos (by omega),show x.size + m - x.size = m by omega]
theorem in_times {t x:Tr} {a b:Int} {o:Nat} (h:InT t (.times a b x) o):InT t x o:=fun m hm=>by
 rw [h m (by show m < x.size + 1;omega),sT,if_pos hm]
theorem in_grp {t x:Tr} {n:Int} {o:Nat} (h:InT t (.grp n x) o):InT t x o:=fun m hm=>by
 rw [h m (by show m < x.size + 1;omega),sT,if_pos hm]
theorem in_at:∀ (t:Tr) (k:Nat),k < t.size -> ∃ p,k + 1 = p + (sT t k).size /\ InT t (sT t k) p /\ ∀ (l:List Nd) (o:Nat),At l t o -> At l (sT t k) (o + p)
 | .cat x y,k,hk=>by
  have e:(Tr.cat x y).size = x.size + y.size + 1:=rfl;by_cases h1:k < x.size
  · obtain ⟨p,a1,a2,a3⟩:=in_at x k h1;(have es:sT (.cat x y) k = sT x k:=by rw [sT,if_pos h1]);rw [es];refine ⟨p,a1,fun m hm=>?_,fun l o hA=>a3 l o (at_left hA (by simp only [nodes,List.append_assoc];exact rfl))⟩;rw [<- a2 m hm,sT,if_pos (by omega)]
  ·
   by_cases h2:k < x.size + y.size
   ·
    obtain ⟨p,a1,a2,a3⟩:=in_at y (k - x.size) (by omega);(have es:sT (.cat x y) k = sT y (k - x.size):=by rw [sT,if_neg h1,if_pos h2]);rw [es];refine ⟨x.size + p,by omega,fun m hm=>?_,fun l o hA=>?_⟩
    · rw [<- a2 m hm,sT,if_neg (by omega),if_pos (by omega),show x.size + p + m - x.size = p + m by omega]
    · rw [<- Nat.add_assoc];exact a3 l (o + x.size) (at_right hA (by simp only [nodes,List.append_assoc];exact rfl))
   · (have es:sT (.cat x y) k = .cat x y:=by rw [sT,if_neg h1,if_neg h2]);rw [es];exact ⟨0,by omega,in_self _,fun l o hA=>hA⟩
 | .alt x y,k,hk=>by
  have e:(Tr.alt x y).size = x.size + y.size + 1:=rfl;by_cases h1:k < x.size
  · obtain ⟨p,a1,a2,a3⟩:=in_at x k h1;(have es:sT (.alt x y) k = sT x k:=by rw [sT,if_pos h1]);rw [es];refine ⟨p,a1,fun m hm=>?_,fun l o hA=>a3 l o (at_left hA (by simp only [nodes,List.append_assoc];exact rfl))⟩;rw [<- a2 m hm,sT,if_pos (by omega)]
  ·
   by_cases h2:k < x.size + y.size
   ·
    obtain ⟨p,a1,a2,a3⟩:=in_at y (k - x.size) (by omega);(have es:sT (.alt x y) k = sT y (k - x.size):=by rw [sT,if_neg h1,if_pos h2]);rw [es];refine ⟨x.size + p,by omega,fun m hm=>?_,fun l o hA=>?_⟩
    · rw [<- a2 m hm,sT,if_neg (by omega),if_pos (by omega),show x.size + p + m - x.size = p + m by omega]
    · rw [<- Nat.add_assoc];exact a3 l (o + x.size) (at_right hA (by simp only [nodes,List.append_assoc];exact rfl))
   · (have es:sT (.alt x y) k = .alt x y:=by rw [sT,if_neg h1,if_neg h2]);rw [es];exact ⟨0,by omega,in_self _,fun l o hA=>hA⟩
 | .times a b x,k,hk=>by
  have e:(Tr.times a b x).size = x.size + 1:=rfl;by_cases h1:k < x.size
  · obtain ⟨p,a1,a2,a3⟩:=in_at x k h1;(have es:sT (.times a b x) k = sT x k:=by rw [sT,if_pos h1]);rw [es];refine ⟨p,a1,fun m hm=>?_,fun l o hA=>a3 l o (at_left hA (by simp only [nodes];exact rfl))⟩;rw [<- a2 m hm,sT,if_pos (by omega)]
  · (have es:sT (.times a b x) k = .times a b x:=by rw [sT,if_neg h1]);rw [es];exact ⟨0,by omega,in_self _,fun l o hA=>hA⟩
 | .grp n x,k,hk=>by
  have e:(Tr.grp n x).size = x.size + 1:=rfl;by_cases h1:k < x.size
  · obtain ⟨p,a1,a2,a3⟩:=in_at x k h1;(have es:sT (.grp n x) k = sT x k:=by rw [sT,if_pos h1]);rw [es];refine ⟨p,a1,fun m hm=>?_,fun l o hA=>a3 l o (at_left hA (by simp only [nodes];exact rfl))⟩;rw [<- a2 m hm,sT,if_pos (by omega)]
  · (have es:sT (.grp n x) k = .grp n x:=by rw [sT,if_neg h1]);rw [es];exact ⟨0,by omega,in_self _,fun l o hA=>hA⟩
 | .e,k,hk | .set _,k,hk | .beg,k,hk | .fin,k,hk | .ref _,k,hk=>by
  (obtain rfl:k = 0:=by simp [size] at hk;omega);exact ⟨0,rfl,in_self _,fun l o hA=>hA⟩
open Go.RowKit Go.Shelf
open St (Wf word mem)
def R2 (w:World) (v:Value) (m n:Nat) (F:Nat -> Nat -> Bool):Prop :=
 ∃ r cap,v = .slice (some ⟨r,0,none⟩) m cap /\ m <= cap /\ r < w.heap.size /\ ∀ i,i < m -> ∃ q,w.cell? ⟨r,i,none⟩ = some (SL q n) /\ RB w q n (F i)
theorem R2.below {w w':World} {v:Value} {m n:Nat} {F:Nat -> Nat -> Bool} (h:R2 w v m n F) (hb:Below w.heap.size w w'):R2 w' v m n F:=by
 obtain ⟨r,cap,h1,h2,h3,h4⟩:=h;refine ⟨r,cap,h1,h2,Nat.lt_of_lt_of_le h3 hb.size,fun i hi=>?_⟩;obtain ⟨q,h5,h6⟩:=h4 i hi;exact ⟨q,(hb.cell h3).trans h5,h6.keep (hb.block q h6.lt)⟩
structure R2m (w0 w:World) (r m n c:Nat) (F:Nat -> Nat -> Bool):Prop where
 bel:Below w0.heap.size w0 w
 r0:w0.heap.size <= r
 row:∃ cs:Array Value,w.heap[r]? = some (.cells cs 165 (0,0)) /\ cs.size = m /\ ∀ i,c <= i -> i < m -> ∃ q,cs[i]? = some (SL q n) /\ q ≠ r /\ w0.heap.size <= q /\ RB w q n (F i)
theorem infoSB:(Tryz.prog.info? 165).map (fun i=>(i.zero,i.size,i.bytes)) = some (some (.slice none 0 0),1,24):=by kernel_rfl
def nilRow (n:Nat):Array Value:=(Array.range n).map fun _=>.slice none 0 0
theorem nilRow_size (n:Nat):(nilRow n).size = n:=by simp [nilRow]
theorem nilRow_made (n:Nat):madeCells (Value.slice none 0 0).cells (n * 1) = nilRow n:=by
 unfold madeCells nilRow;rw [Nat.mul_one];apply Array.map_congr_left;intro i _;simp [Value.cells,Nat.mod_one]
theorem make_rows (n:Nat) (hn:n <= 1000000) (w:World):(Instr.makeSlice 164 (.int .i64 (n:Nat)) (.int .i64 (n:Nat))).run Tryz.prog w = .ok (SL w.heap.size n) (w.alloc (.cells (nilRow n) 165)):=by
 obtain ⟨i0,hi,hz0,hz1,hz2⟩:=info_parts infoSB;have:=run_makeSlice (P:=Tryz.prog) w 164 165 i0 _ Tryz.underlying164 hi hz0 .i64 .i64 (n:Int) (n:Int) (by omega) (by omega) (by rw [hz1];omega) (by rw [hz2];omega) (by omega);rw [Int.toNat_natCast,hz1,nilRow_made] at this;exact this
theorem r2m_start {w:World} (m n:Nat) (F:Nat -> Nat -> Bool):R2m w (w.alloc (.cells (nilRow m) 165)) w.heap.size m n m F :=
 ⟨(Below.refl _ _).alloc (Nat.le_refl _) _,Nat.le_refl _,_,heap_alloc_new _ _,nilRow_size m,fun i h1 h2=>by omega⟩
theorem R2m.lay {w0 w:World} {r m n c:Nat} {F:Nat -> Nat -> Bool} (h:R2m w0 w r m n (c + 1) F) (hc:c < m) (f:Nat -> Bool) :
  R2m w0 ((w.alloc (.cells (bcn n f) 4)).setCell ⟨r,c,none⟩ (SL w.heap.size n)) r m n (c + 1) F /\ RB ((w.alloc (.cells (bcn n f) 4)).setCell ⟨r,c,none⟩ (SL w.heap.size n)) w.heap.size n f /\ ((w.alloc (.cells (bcn n f) 4)).setCell ⟨r,c,none⟩ (SL w.heap.size n)).cell? ⟨r,c,none⟩ = some (SL w.heap.size n) /\
   ∀ i,c < i -> i < m -> ∀ p,((w.alloc (.cells (bcn n f) 4)).setCell ⟨r,c,none⟩ (SL w.heap.size n)).cell? ⟨r,i,none⟩ = some (SL p n) -> p ≠ w.heap.size:=by
 obtain ⟨cs,h1,h2,h3⟩:=h.row;have hr:r < w.heap.size:=lt_heap' h1;have ha:(w.alloc (.cells (bcn n f) 4)).heap[r]? = some (.cells cs 165 (0,0)):=(Below.heap_alloc _ _ _ hr).trans h1;have hs:=Go.Joins.block_setCell ha (i:=c) (SL w.heap.size n);have hnew:RB ((w.alloc (.cells (bcn n f) 4)).setCell ⟨r,c,none⟩ (SL w.heap.size n)) w.heap.size n f:=(Below.heap_setCell _ ⟨r,c,none⟩ _ w.heap.size (by show w.heap.size ≠ r;omega)).trans (heap_alloc_new _ _);refine ⟨⟨(h.bel.alloc h.bel.size _).setCell h.r0 _,h.r0,_,hs,by rw [Array.size_setIfInBounds];exact h2,fun i i1 i2=>?_⟩,hnew,?_,fun i i1 i2 p hp=>?_⟩
 · obtain ⟨q,q1,q2,q3,q4⟩:=h3 i i1 i2;refine ⟨q,by rw [Array.getElem?_setIfInBounds_ne (by omega)];exact q1,q2,q3,?_⟩;exact ((Below.heap_setCell _ ⟨r,c,none⟩ _ q q2).trans (Below.heap_alloc _ _ _ q4.lt)).trans q4
 · rw [Lib.cell_of_heap hs];exact Array.getElem?_setIfInBounds_self_of_lt (by omega)
 · obtain ⟨q,q1,q2,q3,q4⟩:=h3 i (by omega) i2;rw [Lib.cell_of_heap hs,Array.getElem?_setIfInBounds_ne (by omega),q1] at hp;(have e:q = p:=by simpa using hp);have:=q4.lt;omega
structure Rk (w1:World) (q:Nat) (w:World):Prop where
 os:w.os = w1.os
 tape:w.tape = w1.tape
 output:w.output = w1.output
 size:w.heap.size = w1.heap.size
 far:∀ k,k ≠ q -> w.heap[k]? = w1.heap[k]?
theorem Rk.refl (w:World) (q:Nat):Rk w q w:=⟨rfl,rfl,rfl,rfl,fun _ _=>rfl⟩
theorem Rk.set {w1 w:World} {q:Nat} (h:Rk w1 q w) (i:Nat) (v:Value):Rk w1 q (w.setCell ⟨q,i,none⟩ v) :=
 ⟨h.os,h.tape,h.output,by have:=h.size;simpa using this,fun k hk=>(Below.heap_setCell w ⟨q,i,none⟩ v k hk).trans (h.far k hk)⟩
theorem Rk.drew {w1 w:World} {q:Nat} (h:Rk w1 q w):Rk w1 q w.drew:=⟨h.os,h.tape,h.output,h.size,h.far⟩
theorem Rk.below {w1 w:World} {q n:Nat} (h:Rk w1 q w) (hn:n <= q):Below n w1 w:=⟨h.os,h.tape,h.output,by rw [h.size];exact Nat.le_refl _,fun k hk=>h.far k (by omega)⟩
theorem Rk.cell {w1 w:World} {q b o:Nat} {v:Value} (h:Rk w1 q w) (hb:b ≠ q) (hc:w1.cell? ⟨b,o,none⟩ = some v):w.cell? ⟨b,o,none⟩ = some v:=by
 rw [<- hc];simp only [World.cell?];rw [h.far b hb]
theorem R2m.put {w0 w1 w:World} {r m n c q:Nat} {F:Nat -> Nat -> Bool} (h:R2m w0 w1 r m n (c + 1) F) (hcell:w1.cell? ⟨r,c,none⟩ = some (SL q n)) (hq:q ≠ r) (hq0:w0.heap.size <= q) (hnew:∀ i,c < i -> i < m -> ∀ p,w1.cell? ⟨r,i,none⟩ = some (SL p n) -> p ≠ q) (hk:Rk w1 q w) (hrow:RB w q n (F c)):R2m w0 w r m n c F:=by
 obtain ⟨cs,h1,h2,h3⟩:=h.row;refine ⟨h.bel.trans (hk.below hq0),h.r0,cs,(hk.far r (Ne.symm hq)).trans h1,h2,fun i i1 i2=>?_⟩;by_cases hi:i = c
 · subst hi;rw [Lib.cell_of_heap h1] at hcell;exact ⟨q,hcell,hq,hq0,hrow⟩
 · obtain ⟨p,p1,p2,p3,p4⟩:=h3 i (by omega) i2;have:=hnew i (by omega) i2 p (by rw [Lib.cell_of_heap h1];exact p1);exact ⟨p,p1,p2,p3,(hk.far p this).trans p4⟩
def R2n (w:World) (B:Nat) (v:Value) (m n:Nat) (F:Nat -> Nat -> Bool):Prop:=∃ r,v = SL r m /\ B <= r /\ r < w.heap.size /\ ∀ i,i < m -> ∃ q,w.cell? ⟨r,i,none⟩ = some (SL q n) /\ B <= q /\ RB w q n (F i)
theorem R2m.done {w0 w:World} {r m n:Nat} {F:Nat -> Nat -> Bool} (h:R2m w0 w r m n 0 F) {B:Nat} (hB:B <= w0.heap.size):R2n w B (SL r m) m n F:=by
 obtain ⟨cs,h1,h2,h3⟩:=h.row;refine ⟨r,rfl,Nat.le_trans hB h.r0,lt_heap' h1,fun i hi=>?_⟩;obtain ⟨q,q1,q2,q3,q4⟩:=h3 i (Nat.zero_le _) hi;exact ⟨q,by rw [Lib.cell_of_heap h1];exact q1,Nat.le_trans hB q3,q4⟩
theorem R2n.keep {w w':World} {B m n:Nat} {v:Value} {F:Nat -> Nat -> Bool} (h:R2n w B v m n F) (hk:∀ k,B <= k -> k < w.heap.size -> w'.heap[k]? = w.heap[k]?) (hs:w.heap.size <= w'.heap.size):R2n w' B v m n F:=by
 obtain ⟨r,h1,h2,h3,h4⟩:=h;refine ⟨r,h1,h2,Nat.lt_of_lt_of_le h3 hs,fun i hi=>?_⟩;obtain ⟨q,q1,q2,q3⟩:=h4 i hi;refine ⟨q,?_,q2,q3.keep (hk q q2 q3.lt)⟩;rw [<- q1];simp only [World.cell?];rw [hk r h2 h3]
theorem R2n.read {w:World} {B m n:Nat} {v:Value} {F:Nat -> Nat -> Bool} (h:R2n w B v m n F):R2 w v m n F:=by
 obtain ⟨r,h1,h2,h3,h4⟩:=h;refine ⟨r,m,h1,Nat.le_refl _,h3,fun i hi=>?_⟩;obtain ⟨q,q1,q2,q3⟩:=h4 i hi;exact ⟨q,q1,q3⟩
theorem R2.row {w:World} {r cap m n:Nat} {F:Nat -> Nat -> Bool} (h:R2 w (.slice (some ⟨r,0,none⟩) m cap) m n F) {i:Nat} (hi:i < m):∃ q,w.cell? ⟨r,i,none⟩ = some (SL q n) /\ RB w q n (F i):=by
 obtain ⟨r',cap',h1,h2,h3,h4⟩:=h;simp only [Value.slice.injEq,Option.some.injEq,Addr.mk.injEq,and_true,true_and] at h1;obtain ⟨rfl,rfl⟩:=h1;exact h4 i hi
def accK (a:Nat -> Nat -> Bool) (cm:Bool) (f:Nat -> Bool) (p K:Nat):Bool:=(List.range K).any fun k=>decide (p < k) && cm && a p k && f k
theorem acc_start (a:Nat -> Nat -> Bool) (cm:Bool) (f:Nat -> Bool) (p:Nat):accK a cm f p (p + 1) = false:=by
 unfold accK;rw [List.any_eq_false];intro k hk;have:=List.mem_range.1 hk;rw [decide_eq_false (by omega)];simp
theorem acc_next (a:Nat -> Nat -> Bool) (f:Nat -> Bool) {p k:Nat} (h:p < k):accK a true f p (k + 1) = (accK a true f p k || (a p k && f k)):=by
 unfold accK;rw [List.range_succ,List.any_append];simp [h]
theorem acc_off (a:Nat -> Nat -> Bool) (f:Nat -> Bool) (p K:Nat):accK a false f p K = false:=by
 unfold accK;rw [List.any_eq_false];intro k hk;simp
def stF (a:Nat -> Nat -> Bool) (mn mx:Int) (j:Nat) (c p:Nat):Bool:=stC a mn mx j (j + 2) (j + 2 - c) p
theorem stF_at (a:Nat -> Nat -> Bool) (mn mx:Int) (j c:Nat) (hc:c <= j + 2):stF a mn mx j c j = (decide (mn <= (c:Int)) || a j j):=by
 unfold stF;cases h:j + 2 - c with
 | zero =>
  (have:c = j + 2:=by omega);subst this;simp [stC]
 | succ u =>
  unfold stC;rw [if_pos rfl,show j + 2 - (u + 1) = c by omega]
theorem stF_else (a:Nat -> Nat -> Bool) (mn mx:Int) (j c p:Nat) (hc:c <= j + 2) (hp:p ≠ j):stF a mn mx j c p = accK a (decide (c < j + 2) && (decide (mx = -1) || decide ((c:Int) < mx))) (stF a mn mx j (c + 1)) p (j + 1):=by
 show stC a mn mx j (j + 2) (j + 2 - c) p = _;cases h:j + 2 - c with
 | zero =>
  (have:c = j + 2:=by omega);subst this;rw [decide_eq_false (by omega:¬ j + 2 < j + 2),Bool.false_and,acc_off];simp [stC,hp]
 | succ u =>
  rw [stC,if_neg hp,decide_eq_true (by omega:c < j + 2),Bool.true_and];unfold accK stF;rw [show j + 2 - (u + 1) = c by omega,show j + 2 - (c + 1) = u by omega]
theorem nv_cells {w:World} {g:Nat} {nd:Nd} {t:TypeId} (h:w.heap[g]? = some (.cells (NC nd) t (0,0))):w.cell? ⟨g,7,none⟩ = some (E nd.mn) /\ w.cell? ⟨g,8,none⟩ = some (E nd.mx):=⟨(Lib.cell_of_heap h 7).trans rfl,(Lib.cell_of_heap h 8).trans rfl⟩
theorem steps_any (nd:Nd) (A:Nat -> Nat -> Bool) (av:Value) (M:Nat) (j:Nat) (hj:j <= 100) (w:World) (hA:R2 w av M M A) (hM:j < M) :
  Calls Tryz.prog 97 #[NV nd,av,E (j:Nat)] w fun e w'=>∃ r,e = .returned (SL r (j + 3)) /\ R2n w' w.heap.size (SL r (j + 3)) (j + 3) (j + 1) (stF A nd.mn nd.mx j) /\ Below w.heap.size w w':=by
 obtain ⟨ra,capa,rfl,hcapa,hra,hrows⟩:=hA;have HRA:=Lib.hid (And.intro hra hcapa);have HRW:=Lib.hid hrows;have HJ:=Lib.hid (And.intro hj hM);(have hmk:=fun (n:Nat) (hn:n <= 1000000) (W:World)=>make_row n hn W);have hmk1:∀ W:World,(Instr.makeSlice 165 (.int .i64 ((j:Int) + 1)) (.int .i64 ((j:Int) + 1))).run Tryz.prog W = .ok (SL W.heap.size (j + 1)) (W.alloc (.cells (bcn (j + 1) fun _=>false) 4)):=fun W=>by
  have:=make_row (j + 1) (by omega) W
  rwa [show ((j + 1:Nat):Int) = (j:Int) + 1 from by omega] at this
 have hmk3:∀ W:World,(Instr.makeSlice 164 (.int .i64 ((j:Int) + 2 + 1)) (.int .i64 ((j:Int) + 2 + 1))).run Tryz.prog W = .ok (SL W.heap.size (j + 3)) (W.alloc (.cells (nilRow (j + 3)) 165)):=fun W=>by
  have:=make_rows (j + 3) (by omega) W
  rwa [show ((j + 3:Nat):Int) = (j:Int) + 2 + 1 from by omega] at this
 (have hw2:IntKind.i64.wrap ((j:Int) + 2) = (j:Int) + 2:=by rw [IntKind.wrap_i64];omega);(have hw3:IntKind.i64.wrap ((j:Int) + 2 + 1) = (j:Int) + 2 + 1:=by rw [IntKind.wrap_i64];omega);(have hw1:IntKind.i64.wrap ((j:Int) + 1) = (j:Int) + 1:=by rw [IntKind.wrap_i64];omega);clear hmk hrows hra hcapa;go_enter Tryz.func97,Tryz.ntmps97;go_wp2;obtain ⟨W1,hW1⟩:∃ W1,w.alloc (.cells (NC nd) 87) = W1:=⟨_,rfl⟩;(have hs1:W1.heap.size = w.heap.size + 1:=by rw [<- hW1];simp);have HB1:=Lib.hid (show Below w.heap.size w W1 from by rw [<- hW1];exact (Below.refl _ _).alloc (Nat.le_refl _) _);have HBX:=Lib.hid (show W1.heap[w.heap.size]? = some (.cells (NC nd) 87 (0,0)) from by rw [<- hW1];exact heap_alloc_new _ _);obtain ⟨F,hF⟩:∃ F,stF A nd.mn nd.mx j = F:=⟨_,rfl⟩;have HFj:=Lib.hid (show ∀ c,c <= j + 2 -> F c j = (decide (nd.mn <= (c:Int)) || A j j) from fun c hc=>by rw [<- hF];exact stF_at A nd.mn nd.mx j c hc);have HFe:=Lib.hid (show ∀ c p,c <= j + 2 -> p ≠ j -> F c p = accK A (decide (c < j + 2) && (decide (nd.mx = -1) || decide ((c:Int) < nd.mx))) (F (c + 1)) p (j + 1) from fun c p hc hp=>by rw [<- hF];exact stF_else A nd.mn nd.mx j c p hc hp);have HFF:=Lib.hid hF;have HR0:=Lib.hid (show R2m W1 (W1.alloc (.cells (nilRow (j + 3)) 165)) W1.heap.size (j + 3) (j + 1) (j + 3) F from r2m_start _ _ _);have HRW2:=Lib.hid (fun (wr:World) (hb:Below W1.heap.size W1 wr) (p:Nat) (hp:p < M)=>show ∃ qa,wr.cell? ⟨ra,p,none⟩ = some (SL qa M) /\ RB wr qa M (A p) /\ qa < W1.heap.size from by
  obtain ⟨qa,h1,h2⟩:=HRW.out p hp;have hb2:=HB1.out.trans (hb.mono HB1.out.size);exact ⟨qa,(hb2.cell HRA.out.1).trans h1,h2.keep (hb2.block qa h2.lt),Nat.lt_of_lt_of_le h2.lt HB1.out.size⟩)
 have HBX2:=Lib.hid (fun (wr:World) (hb:Below W1.heap.size W1 wr)=>nv_cells ((hb.block w.heap.size (by rw [hs1];omega)).trans HBX.out));have HBL:=Lib.hid (show w.heap.size < W1.heap.size /\ ra < W1.heap.size from by have:=HRA.out.1;omega);rw [hW1];rw [<- hs1];obtain ⟨b3,hb3⟩:∃ b3,w.heap.size = b3:=⟨_,rfl⟩;rw [hb3] at HBX2 HBL ⊢;clear hW1 hs1 hF hb3 HRW hj hM;go_loopw [9] (fun cv wr=>∃ C:Nat,C <= j + 3 /\ cv = .int .i64 ((C:Int) - 1) /\ Hid (R2m W1 wr W1.heap.size (j + 3) (j + 1) C F)) (fun cv _=>(intOf cv + 1).toNat);(case atStart=>exact ⟨j + 3,Nat.le_refl _,by congr 1;omega,HR0⟩);case round =>
  clear HR0;obtain ⟨C,hC,rfl,HR⟩:=hrel;by_cases hC0:0 < C
  ·
   obtain ⟨c,rfl⟩:∃ c,C = c + 1:=⟨C - 1,by omega⟩;rw [show (((c + 1:Nat):Int) - 1) = (c:Int) from by omega];(have hc0:(0:Int) <= (c:Int):=by omega);(have hc1:(c:Int) < (j:Int) + 3:=by omega);(have hc1n:c < j + 3:=by omega);(have hwc:IntKind.i64.wrap ((c:Int) - 1) = (c:Int) - 1:=by rw [IntKind.wrap_i64];have:=HJ.out;omega);(have hwc1:IntKind.i64.wrap ((c:Int) + 1) = (c:Int) + 1:=by rw [IntKind.wrap_i64];have:=HJ.out;omega);obtain ⟨cs,g1,g2,g3⟩:=HR.out.row;have ha:(wr.alloc (.cells (bcn (j + 1) fun _=>false) 4)).heap[W1.heap.size]? = some (.cells cs 165 (0,0)):=(Below.heap_alloc _ _ _ (lt_heap' g1)).trans g1;obtain ⟨z,hz⟩:∃ z,cs[c]? = some z:=⟨cs[c]'(by omega),Array.getElem?_eq_getElem (by omega)⟩;(have hcc:(wr.alloc (.cells (bcn (j + 1) fun _=>false) 4)).cell? ⟨W1.heap.size,c,none⟩ = some z:=by rw [Lib.cell_of_heap ha];exact hz);(have hff:(wr.alloc (.cells (bcn (j + 1) fun _=>false) 4)).frozen? ⟨W1.heap.size,c,none⟩ = false:=by simp [World.frozen?,ha]);have hlay:=HR.out.lay hc1n (fun _=>false);have HQ0:=Lib.hid (show W1.heap.size <= wr.heap.size from HR.out.bel.size);have HQ1:=Lib.hid (show W1.heap.size ≠ wr.heap.size from by have:=lt_heap' g1;omega);have HC:=Lib.hid hc1n;clear g1 g2 g3 ha hz hC hC0;go_wp2;generalize hW2:World.setCell _ _ _ = W2 at hlay ⊢;clear hcc hff hW2;generalize hq:wr.heap.size = q at hlay HQ0 HQ1 ⊢;obtain ⟨l1,l2,l3,l4⟩:=hlay;have HL1:=Lib.hid l1;have HL3:=Lib.hid l3;have HL4:=Lib.hid l4;have HBW:=Lib.hid l1.bel;have HG0:=Lib.hid (l2.congr (g:=fun i=>decide (j + 1 <= i) && F c i) (fun i hi=>by rw [decide_eq_false (by omega)];rfl));clear l1 l2 l3 l4 hq HR;go_loopw [10] (fun pv wr=>∃ P:Nat,P <= j + 1 /\ pv = .int .i64 ((P:Int) - 1) /\ Hid (Rk W2 q wr) /\ Hid (RB wr q (j + 1) (fun i=>decide (P <= i) && F c i))) (fun pv _=>(intOf pv + 1).toNat);(case atStart=>exact ⟨j + 1,Nat.le_refl _,by congr 1;omega,Lib.hid (Rk.refl _ _),HG0⟩);case round =>
    clear HG0;obtain ⟨P,hP,rfl,HK,HG⟩:=hrel;by_cases hP0:0 < P
    ·
     obtain ⟨p,rfl⟩:∃ p,P = p + 1:=⟨P - 1,by omega⟩;rw [show (((p + 1:Nat):Int) - 1) = (p:Int) from by omega];(have hp0:(0:Int) <= (p:Int):=by omega);(have hpj:p <= j:=by omega);(have hp1:(p:Int) < (j:Int) + 1:=by omega);(have hwp:IntKind.i64.wrap ((p:Int) - 1) = (p:Int) - 1:=by rw [IntKind.wrap_i64];have:=HJ.out;omega);(have hwp1:IntKind.i64.wrap ((p:Int) + 1) = (p:Int) + 1:=by rw [IntKind.wrap_i64];have:=HJ.out;omega);have HPJ:=Lib.hid hpj;have HBR:=Lib.hid (HBW.out.trans (HK.out.below HQ0.out));by_cases hpe:p = j
     ·
      (have hq1:((p:Int) == (j:Int)) = true:=by rw [hpe];simp);have h1:=HK.out.cell HQ1.out HL3.out;have h2:=HG.out.cell (i:=p) (by omega);have h3:=HG.out.fz p;obtain ⟨qa,h4,h5,_⟩:=HRW2.out _ HBR.out j HJ.out.2;have h6:=h5.cell (i:=j) HJ.out.2;have h7:=(HBX2.out _ HBR.out).1;(have hjM:(j:Int) < (M:Int):=by have:=HJ.out;omega);(have hj0:(0:Int) <= (j:Int):=by omega);have hFv:=HFj.out c (by omega);have HPE:=Lib.hid hpe;have HNX:=Lib.hid (fun (v:Bool) (hv:v = F c j)=>HG.out.put (k:=p) (v:=v) (g:=fun i=>decide (p <= i) && F c i) (fun i hi=>by
       by_cases e:i = p
       · rw [if_pos e,e,decide_eq_true (Nat.le_refl p),Bool.true_and,hv,hpe]
       · rw [if_neg e];congr 1;rw [decide_eq_decide];omega))
      by_cases hmn:nd.mn <= (c:Int)
      · have hmd:=decide_eq_true hmn;rw [decide_eq_true hmn,Bool.true_or] at hFv;have HQ:=Lib.hid (HNX.out true hFv.symm);clear hpj hP hP0 hpe h5 hFv;go_wp2;go_region;go_wp2;go_roundw;(case rel=>exact ⟨p,by have:=HPJ.out;omega,rfl,Lib.hid ((HK.out.set _ _).drew),HQ⟩);case measure=>simp [intOf]
      ·
       have hmd:=decide_eq_false hmn;cases hAj:A j j with
       | true =>
        rw [hAj] at h6 hFv;rw [Bool.or_true] at hFv;have HQ:=Lib.hid (HNX.out true hFv.symm);clear hpj hP hP0 hpe h5 hFv hAj;go_wp2;go_region;go_wp2;go_roundw;(case rel=>exact ⟨p,by have:=HPJ.out;omega,rfl,Lib.hid ((HK.out.set _ _).drew),HQ⟩);case measure=>simp [intOf]
       | false =>
        rw [hAj] at h6 hFv;rw [Bool.or_false,decide_eq_false hmn] at hFv;have HQ:=Lib.hid (HNX.out false hFv.symm);clear hpj hP hP0 hpe h5 hFv hAj;go_wp2;go_region;go_wp2;go_roundw;(case rel=>exact ⟨p,by have:=HPJ.out;omega,rfl,Lib.hid ((HK.out.set _ _).drew),HQ⟩);case measure=>simp [intOf]
     ·
      (have hq1:((p:Int) == (j:Int)) = false:=by rw [beq_eq_false_iff_ne];omega);have HPL:=Lib.hid (show p < j from by omega);have hFe:=HFe.out c p (by omega) hpe;(have hjp:(p:Int) + 1 <= (j:Int):=by omega);clear hpe hpj hP hP0;by_cases hc2:c < j + 2
      ·
       (have hc2i:(c:Int) < (j:Int) + 2:=by omega);have HCL:=Lib.hid hc2;rw [decide_eq_true hc2,Bool.true_and] at hFe;by_cases hmx:nd.mx = -1
       ·
        (have hm1:(nd.mx == -1) = true:=by rw [hmx];rfl);rw [decide_eq_true hmx,Bool.true_or] at hFe;have HFV:=Lib.hid hFe;clear hFe hmx hc2
        skip
        go_wp2;go_loopw [11] (fun kv wr3=>∃ K:Nat,p + 1 <= K /\ K <= j + 1 /\ kv = .int .i64 (K:Nat) /\ Hid (Rk W2 q wr3) /\ Hid (RB wr3 q (j + 1) (fun i=>if i = p then accK A true (F (c + 1)) p K else (decide (p + 1 <= i) && F c i)))) (fun kv _=>j + 1 - (intOf kv).toNat);case atStart=>exact ⟨p + 1,Nat.le_refl _,by omega,by congr 1,HK,Lib.hid (HG.out.congr (fun i hi=>by
         by_cases e:i = p
         · rw [if_pos e,acc_start,e,decide_eq_false (by omega),Bool.false_and]
         · rw [if_neg e]))⟩
        case round =>
         clear HK HG HBR;obtain ⟨K,hK1,hK2,rfl,HK,HG⟩:=hrel;have HBR:=Lib.hid (HBW.out.trans (HK.out.below HQ0.out));by_cases hKj:K <= j
         ·
          (have hkj:(K:Int) <= (j:Int):=by omega);(have hK0:(0:Int) <= (K:Int):=by omega);(have hKn:(K:Int) < (j:Int) + 1:=by omega);(have hKM:(K:Int) < (M:Int):=by have:=HJ.out;omega);(have hpM:(p:Int) < (M:Int):=by have:=HJ.out;have:=HPL.out;omega);(have hwK:IntKind.i64.wrap ((K:Int) + 1) = (K:Int) + 1:=by rw [IntKind.wrap_i64];have:=HJ.out;omega);(have hc13:(c:Int) + 1 < (j:Int) + 3:=by have:=HCL.out;omega);(have hc10:(0:Int) <= (c:Int) + 1:=by omega);have h1:=HK.out.cell HQ1.out HL3.out;have h2:=HG.out.cell (i:=p) (by have:=HPL.out;omega);rw [if_pos rfl] at h2;have h3:=HG.out.fz p;obtain ⟨qa,h4,h5,_⟩:=HRW2.out _ HBR.out p (by have:=HJ.out;have:=HPL.out;omega);have h6:=h5.cell (i:=K) (by have:=HJ.out;omega);have h7:=(HBX2.out _ HBR.out).2;obtain ⟨cs2,g1,g2,g3⟩:=HL1.out.row;obtain ⟨q1,k1,k2,k3,k4⟩:=g3 (c + 1) (Nat.le_refl _) (by have:=HCL.out;omega);(have k5:W2.cell? ⟨W1.heap.size,c + 1,none⟩ = some (SL q1 (j + 1)):=by rw [Lib.cell_of_heap g1];exact k1);have k6:=HL4.out (c + 1) (Nat.lt_succ_self c) (by have:=HCL.out;omega) q1 k5;have h8:=HK.out.cell HQ1.out k5;have h9:=(k4.keep (HK.out.far q1 k6)).cell (i:=K) (by omega);have HKB:=Lib.hid (show p + 1 <= K /\ K <= j from ⟨hK1,hKj⟩);have hnx:=acc_next A (F (c + 1)) (show p < K by omega);have HNX:=Lib.hid (fun (v:Bool) (hv:v = accK A true (F (c + 1)) p (K + 1))=>HG.out.put (k:=p) (v:=v) (g:=fun i=>if i = p then accK A true (F (c + 1)) p (K + 1) else (decide (p + 1 <= i) && F c i)) (fun i hi=>by
           by_cases e:i = p
           · rw [if_pos e,if_pos e,hv]
           · rw [if_neg e,if_neg e,if_neg e]))
          clear h5 g1 g2 g3 k1 k2 k3 k4 k5 k6 hK1 hK2 hKj;cases hacc:accK A true (F (c + 1)) p K with
          | true =>
           rw [hacc] at h2 hnx;rw [Bool.true_or] at hnx;have HQ:=Lib.hid (HNX.out true hnx.symm);clear hnx hacc;go_wp2;go_region;go_wp2;go_roundw;(case rel=>exact ⟨K + 1,by have:=HKB.out;omega,by have:=HKB.out;omega,by go_num,Lib.hid ((HK.out.set _ _).drew),HQ⟩);case measure=>have:=HKB.out;simp [intOf];omega
          | false =>
           rw [hacc] at h2 hnx;rw [Bool.false_or] at hnx;cases hA:A p K with
           | false =>
            rw [hA] at h6 hnx;rw [Bool.false_and] at hnx;have HQ:=Lib.hid (HNX.out false hnx.symm);clear hnx hacc hA;go_wp2;go_region;go_wp2;go_roundw;(case rel=>exact ⟨K + 1,by have:=HKB.out;omega,by have:=HKB.out;omega,by go_num,Lib.hid ((HK.out.set _ _).drew),HQ⟩);case measure=>have:=HKB.out;simp [intOf];omega
           | true =>
            rw [hA] at h6 hnx;rw [Bool.true_and] at hnx;cases hf:F (c + 1) K with
            | false =>
             rw [hf] at h9 hnx;have HQ:=Lib.hid (HNX.out false hnx.symm);clear hnx hacc hA hf;go_wp2;go_region;go_wp2;go_roundw;(case rel=>exact ⟨K + 1,by have:=HKB.out;omega,by have:=HKB.out;omega,by go_num,Lib.hid ((HK.out.set _ _).drew),HQ⟩);case measure=>have:=HKB.out;simp [intOf];omega
            | true =>
             rw [hf] at h9 hnx;have HQ:=Lib.hid (HNX.out true hnx.symm);clear hnx hacc hA hf;go_wp2;go_region;go_wp2;go_roundw;(case rel=>exact ⟨K + 1,by have:=HKB.out;omega,by have:=HKB.out;omega,by go_num,Lib.hid ((HK.out.set _ _).drew),HQ⟩);case measure=>have:=HKB.out;simp [intOf];omega
         ·
          (obtain rfl:K = j + 1:=by omega);(have hkj:¬ ((j + 1:Nat):Int) <= (j:Int):=by omega);have HN:=Lib.hid (HG.out.congr (g:=fun i=>decide (p <= i) && F c i) (fun i hi=>by
           by_cases e:i = p
           · rw [if_pos e,e,decide_eq_true (Nat.le_refl p),Bool.true_and,HFV.out]
           · rw [if_neg e];congr 1;rw [decide_eq_decide];omega))
          clear hK1 hK2 hKj;go_wp2;go_roundw;(case rel=>exact ⟨p,by have:=HPL.out;omega,rfl,HK,HN⟩);case measure=>simp [intOf]
       ·
        (have hm1:(nd.mx == -1) = false:=by rw [beq_eq_false_iff_ne];exact hmx);rw [decide_eq_false hmx,Bool.false_or] at hFe;by_cases hcm:(c:Int) < nd.mx
        ·
         have hcd:=decide_eq_true hcm;rw [hcd] at hFe;have HFV:=Lib.hid hFe;clear hFe hmx hc2
         skip
         go_wp2;go_loopw [11] (fun kv wr3=>∃ K:Nat,p + 1 <= K /\ K <= j + 1 /\ kv = .int .i64 (K:Nat) /\ Hid (Rk W2 q wr3) /\ Hid (RB wr3 q (j + 1) (fun i=>if i = p then accK A true (F (c + 1)) p K else (decide (p + 1 <= i) && F c i)))) (fun kv _=>j + 1 - (intOf kv).toNat);case atStart=>exact ⟨p + 1,Nat.le_refl _,by omega,by congr 1,HK,Lib.hid (HG.out.congr (fun i hi=>by
          by_cases e:i = p
          · rw [if_pos e,acc_start,e,decide_eq_false (by omega),Bool.false_and]
          · rw [if_neg e]))⟩
         case round =>
          clear HK HG HBR;obtain ⟨K,hK1,hK2,rfl,HK,HG⟩:=hrel;have HBR:=Lib.hid (HBW.out.trans (HK.out.below HQ0.out));by_cases hKj:K <= j
          ·
           (have hkj:(K:Int) <= (j:Int):=by omega);(have hK0:(0:Int) <= (K:Int):=by omega);(have hKn:(K:Int) < (j:Int) + 1:=by omega);(have hKM:(K:Int) < (M:Int):=by have:=HJ.out;omega);(have hpM:(p:Int) < (M:Int):=by have:=HJ.out;have:=HPL.out;omega);(have hwK:IntKind.i64.wrap ((K:Int) + 1) = (K:Int) + 1:=by rw [IntKind.wrap_i64];have:=HJ.out;omega);(have hc13:(c:Int) + 1 < (j:Int) + 3:=by have:=HCL.out;omega);(have hc10:(0:Int) <= (c:Int) + 1:=by omega);have h1:=HK.out.cell HQ1.out HL3.out;have h2:=HG.out.cell (i:=p) (by have:=HPL.out;omega);rw [if_pos rfl] at h2;have h3:=HG.out.fz p;obtain ⟨qa,h4,h5,_⟩:=HRW2.out _ HBR.out p (by have:=HJ.out;have:=HPL.out;omega);have h6:=h5.cell (i:=K) (by have:=HJ.out;omega);have h7:=(HBX2.out _ HBR.out).2;obtain ⟨cs2,g1,g2,g3⟩:=HL1.out.row;obtain ⟨q1,k1,k2,k3,k4⟩:=g3 (c + 1) (Nat.le_refl _) (by have:=HCL.out;omega);(have k5:W2.cell? ⟨W1.heap.size,c + 1,none⟩ = some (SL q1 (j + 1)):=by rw [Lib.cell_of_heap g1];exact k1);have k6:=HL4.out (c + 1) (Nat.lt_succ_self c) (by have:=HCL.out;omega) q1 k5;have h8:=HK.out.cell HQ1.out k5;have h9:=(k4.keep (HK.out.far q1 k6)).cell (i:=K) (by omega);have HKB:=Lib.hid (show p + 1 <= K /\ K <= j from ⟨hK1,hKj⟩);have hnx:=acc_next A (F (c + 1)) (show p < K by omega);have HNX:=Lib.hid (fun (v:Bool) (hv:v = accK A true (F (c + 1)) p (K + 1))=>HG.out.put (k:=p) (v:=v) (g:=fun i=>if i = p then accK A true (F (c + 1)) p (K + 1) else (decide (p + 1 <= i) && F c i)) (fun i hi=>by
            by_cases e:i = p
            · rw [if_pos e,if_pos e,hv]
            · rw [if_neg e,if_neg e,if_neg e]))
           clear h5 g1 g2 g3 k1 k2 k3 k4 k5 k6 hK1 hK2 hKj;cases hacc:accK A true (F (c + 1)) p K with
           | true =>
            rw [hacc] at h2 hnx;rw [Bool.true_or] at hnx;have HQ:=Lib.hid (HNX.out true hnx.symm);clear hnx hacc;go_wp2;go_region;go_wp2;go_roundw;(case rel=>exact ⟨K + 1,by have:=HKB.out;omega,by have:=HKB.out;omega,by go_num,Lib.hid ((HK.out.set _ _).drew),HQ⟩);case measure=>have:=HKB.out;simp [intOf];omega
           | false =>
            rw [hacc] at h2 hnx;rw [Bool.false_or] at hnx;cases hA:A p K with
            | false =>
             rw [hA] at h6 hnx;rw [Bool.false_and] at hnx;have HQ:=Lib.hid (HNX.out false hnx.symm);clear hnx hacc hA;go_wp2;go_region;go_wp2;go_roundw;(case rel=>exact ⟨K + 1,by have:=HKB.out;omega,by have:=HKB.out;omega,by go_num,Lib.hid ((HK.out.set _ _).drew),HQ⟩);case measure=>have:=HKB.out;simp [intOf];omega
            | true =>
             rw [hA] at h6 hnx;rw [Bool.true_and] at hnx;cases hf:F (c + 1) K with
             | false =>
              rw [hf] at h9 hnx;have HQ:=Lib.hid (HNX.out false hnx.symm);clear hnx hacc hA hf;go_wp2;go_region;go_wp2;go_roundw;(case rel=>exact ⟨K + 1,by have:=HKB.out;omega,by have:=HKB.out;omega,by go_num,Lib.hid ((HK.out.set _ _).drew),HQ⟩);case measure=>have:=HKB.out;simp [intOf];omega
             | true =>
              rw [hf] at h9 hnx;have HQ:=Lib.hid (HNX.out true hnx.symm);clear hnx hacc hA hf;go_wp2;go_region;go_wp2;go_roundw;(case rel=>exact ⟨K + 1,by have:=HKB.out;omega,by have:=HKB.out;omega,by go_num,Lib.hid ((HK.out.set _ _).drew),HQ⟩);case measure=>have:=HKB.out;simp [intOf];omega
          ·
           (obtain rfl:K = j + 1:=by omega);(have hkj:¬ ((j + 1:Nat):Int) <= (j:Int):=by omega);have HN:=Lib.hid (HG.out.congr (g:=fun i=>decide (p <= i) && F c i) (fun i hi=>by
            by_cases e:i = p
            · rw [if_pos e,e,decide_eq_true (Nat.le_refl p),Bool.true_and,HFV.out]
            · rw [if_neg e];congr 1;rw [decide_eq_decide];omega))
           clear hK1 hK2 hKj;go_wp2;go_roundw;(case rel=>exact ⟨p,by have:=HPL.out;omega,rfl,HK,HN⟩);case measure=>simp [intOf]
        ·
         have hcd:=decide_eq_false hcm;rw [hcd] at hFe;have HFV:=Lib.hid hFe;clear hFe hmx hc2
         skip
         go_wp2;go_loopw [11] (fun kv wr3=>∃ K:Nat,p + 1 <= K /\ K <= p + 1 /\ kv = .int .i64 (K:Nat) /\ Hid (Rk W2 q wr3) /\ Hid (RB wr3 q (j + 1) (fun i=>if i = p then accK A false (F (c + 1)) p K else (decide (p + 1 <= i) && F c i)))) (fun kv _=>j + 1 - (intOf kv).toNat);case atStart=>exact ⟨p + 1,Nat.le_refl _,by omega,by congr 1,HK,Lib.hid (HG.out.congr (fun i hi=>by
          by_cases e:i = p
          · rw [if_pos e,acc_start,e,decide_eq_false (by omega),Bool.false_and]
          · rw [if_neg e]))⟩
         case round =>
          clear HK HG;obtain ⟨K,hK1,hK2,rfl,HK,HG⟩:=hrel;(obtain rfl:K = p + 1:=by omega);have h7:=(HBX2.out _ (HBW.out.trans (HK.out.below HQ0.out))).2;have HN:=Lib.hid (HG.out.congr (g:=fun i=>decide (p <= i) && F c i) (fun i hi=>by
           by_cases e:i = p
           · rw [if_pos e,e,decide_eq_true (Nat.le_refl p),Bool.true_and,HFV.out,acc_off,acc_off]
           · rw [if_neg e];congr 1;rw [decide_eq_decide];omega))
          (have hkj:((p + 1:Nat):Int) <= (j:Int):=by have:=HPL.out;omega);clear hK1 hK2;go_wp2;go_roundw;(case rel=>exact ⟨p,by have:=HPL.out;omega,rfl,HK,HN⟩);case measure=>simp [intOf]
      ·
       (have hc2i:¬ (c:Int) < (j:Int) + 2:=by omega);rw [decide_eq_false hc2,Bool.false_and] at hFe;have HFV:=Lib.hid hFe;clear hFe hc2
       skip
       go_wp2;go_loopw [11] (fun kv wr3=>∃ K:Nat,p + 1 <= K /\ K <= p + 1 /\ kv = .int .i64 (K:Nat) /\ Hid (Rk W2 q wr3) /\ Hid (RB wr3 q (j + 1) (fun i=>if i = p then accK A false (F (c + 1)) p K else (decide (p + 1 <= i) && F c i)))) (fun kv _=>j + 1 - (intOf kv).toNat);case atStart=>exact ⟨p + 1,Nat.le_refl _,by omega,by congr 1,HK,Lib.hid (HG.out.congr (fun i hi=>by
        by_cases e:i = p
        · rw [if_pos e,acc_start,e,decide_eq_false (by omega),Bool.false_and]
        · rw [if_neg e]))⟩
       case round =>
        clear HK HG;obtain ⟨K,hK1,hK2,rfl,HK,HG⟩:=hrel;(obtain rfl:K = p + 1:=by omega);have HN:=Lib.hid (HG.out.congr (g:=fun i=>decide (p <= i) && F c i) (fun i hi=>by
         by_cases e:i = p
         · rw [if_pos e,e,decide_eq_true (Nat.le_refl p),Bool.true_and,HFV.out,acc_off,acc_off]
         · rw [if_neg e];congr 1;rw [decide_eq_decide];omega))
        (have hkj:((p + 1:Nat):Int) <= (j:Int):=by have:=HPL.out;omega);clear hK1 hK2;go_wp2;go_roundw;(case rel=>exact ⟨p,by have:=HPL.out;omega,rfl,HK,HN⟩);case measure=>simp [intOf]
    · (obtain rfl:P = 0:=by omega);(have hn0:¬ (0:Int) <= ((0:Nat):Int) - 1:=by omega);have HR2:=Lib.hid (HL1.out.put HL3.out (Ne.symm HQ1.out) HQ0.out HL4.out HK.out (HG.out.congr (g:=F c) (fun i hi=>by simp)));go_wp2;go_roundw;(case rel=>exact ⟨c,by have:=HC.out;omega,rfl,HR2⟩);case measure=>simp [intOf]
  · (obtain rfl:C = 0:=by omega);(have hn0:¬ (0:Int) <= ((0:Nat):Int) - 1:=by omega);go_wp2;go_ret;exact ⟨_,rfl,by rw [HFF.out];exact HR.out.done HB1.out.size,HB1.out.trans (HR.out.bel.mono HB1.out.size)⟩
end Go.Proofs.YtinallojhkaogaaGreatDoor.Mt
