/- The texts MtM MtA. -/
import Derived.Test.YtinallojhkaogaaGreatDoorHk10
set_option linter.unusedVariables false
set_option linter.unusedSimpArgs false
set_option maxHeartbeats 1600000
set_option maxRecDepth 100000
namespace Go.Proofs.YtinallojhkaogaaGreatDoor.Mt
open Go.RowKit Go.Shelf
open Rx
open Rx.Tr
open St (Wf word zeroW)
theorem at_inj {l:List Nd}:∀ (x y:Tr) (o p:Nat),At l x o -> At l y p -> o + x.size = p + y.size -> x = y /\ o = p:=by
  intro x
  induction x with
  | e | set s | beg | fin | ref n =>
    intro y o p hx hy h;have py:=size_pos y;have r1:=at_root hx;have r2:=at_root hy;rw [show p + y.size - 1 = o + Tr.size _ - 1 from by rw [<- h]] at r2;rw [r1] at r2;have r3:=Option.some.inj r2;cases y <;> simp_all [root,size]
  | cat x1 x2 ih1 ih2 | alt x1 x2 ih1 ih2 =>
    intro y o p hx hy h;have px1:=size_pos x1;have px2:=size_pos x2;have r1:=at_root hx;have r2:=at_root hy;rw [show p + y.size - 1 = o + Tr.size _ - 1 from by rw [<- h]] at r2;rw [r1] at r2;have r3:=Option.some.inj r2;cases y with
    | cat y1 y2 | alt y1 y2 =>
      first
        | (simp only [root,Nd.mk.injEq] at r3;exfalso;have:=r3.1;revert this;decide)
        | (have py1:=size_pos y1
           have py2:=size_pos y2;simp only [root,Nd.mk.injEq] at r3;simp only [size] at h;have e1:=ih2 y2 (o + x1.size) (p + y1.size) (at_right hx (by simp only [nodes,List.append_assoc];rfl)) (at_right hy (by simp only [nodes,List.append_assoc];rfl)) (by omega);have e2:=ih1 y1 o p (at_left hx (by simp only [nodes,List.append_assoc];rfl)) (at_left hy (by simp only [nodes,List.append_assoc];rfl)) (by omega);obtain ⟨rfl,_⟩:=e1;obtain ⟨rfl,rfl⟩:=e2;exact ⟨rfl,rfl⟩)
    | e | set s | beg | fin | ref n | times mn mx y1 | grp n y1=>simp [root] at r3
  | times mn mx x1 ih | grp n x1 ih =>
    intro y o p hx hy h;have px1:=size_pos x1;have r1:=at_root hx;have r2:=at_root hy;rw [show p + y.size - 1 = o + Tr.size _ - 1 from by rw [<- h]] at r2;rw [r1] at r2;have r3:=Option.some.inj r2;cases y with
    | times mn' mx' y1 | grp n' y1 =>
      first
        | (simp only [root,Nd.mk.injEq] at r3;exfalso;have:=r3.1;revert this;decide)
        | (have py1:=size_pos y1
           simp only [root,Nd.mk.injEq] at r3;simp only [size] at h;have e2:=ih y1 o p (at_left hx (by simp only [nodes];rfl)) (at_left hy (by simp only [nodes];rfl)) (by omega);obtain ⟨rfl,rfl⟩:=e2;simp [r3])
    | e | set s | beg | fin | ref n | cat y1 y2 | alt y1 y2=>simp [root] at r3
structure Par where
  w0:World
  T:List UInt8
  t:Tr
  v:Value
  bm:Nat
  b1:Nat
  b2:Nat
abbrev Par.l (X:Par):List Nd:=X.t.nodes 0
abbrev Par.N (X:Par):Nat:=X.T.length
def Par.refs (X:Par):Bool:=decide (0 < refsT X.t)
structure Par.Ok (X:Par):Prop where
  good:Rx.Good X.t
  sets:SetsOk X.t
  nodes:Ns X.w0 X.v X.l
  len:X.N <= 100000
  m:X.w0.heap.size <= X.bm
  m1:X.w0.heap.size <= X.b1
  m2:X.w0.heap.size <= X.b2
  n12:X.b1 ≠ X.b2
def LeftOk (N:Nat) (r:Option Caps) (c:Caps) (b:Bool):Prop:=CapsOk N c /\ match r with
  | some a=>b = true /\ c = a
  | none=>b = false
abbrev LV (c:Caps) (b:Bool):Value:=.agg #[capV (gr c 0),capV (gr c 1),capV (gr c 2),capV (gr c 3),capV (gr c 4),capV (gr c 5),capV (gr c 6),capV (gr c 7),capV (gr c 8),capV (gr c 9),.bool b]
structure MM (X:Par) (pr:Nat -> Prop) (w:World):Prop where
  bel:Below X.w0.heap.size X.w0 w
  hb:w.heap[X.bm]? = some (.cells #[X.v,S X.T,.bool X.refs,.map (some X.b1),.map (some X.b2)] 127 (0,0))
  e1:∃ es clk,w.heap[X.b1]? = some (.map es clk) /\ ∀ e ∈ es.toList,∃ x o i g,At X.l x o /\ e.key = PK (o + x.size - 1) i /\ e.val = SL g (X.N + 1) /\ RB w g (X.N + 1) (endsP X.T x i) /\ ¬ pr g
  e2:∃ es clk,w.heap[X.b2]? = some (.map es clk) /\ ∀ e ∈ es.toList,∃ x o i j c c' b,At X.l x o /\ CapsOk X.N c /\ e.key = TK (o + x.size - 1) i j c /\ e.val = LV c' b /\ LeftOk X.N (fitP X.T x i j c) c' b
  lt:∀ k,pr k -> k < w.heap.size
structure Km (X:Par) (w w':World):Prop where
  size:w.heap.size <= w'.heap.size
  keep:∀ k,k < w.heap.size -> k ≠ X.b1 -> k ≠ X.b2 -> w'.heap[k]? = w.heap[k]?
theorem Km.refl (X:Par) (w:World):Km X w w:=⟨Nat.le_refl _,fun _ _ _ _=>rfl⟩
theorem Km.trans {X:Par} {w1 w2 w3:World} (h:Km X w1 w2) (k:Km X w2 w3):Km X w1 w3 :=
  ⟨Nat.le_trans h.size k.size,fun i h1 h2 h3=>(k.keep i (Nat.lt_of_lt_of_le h1 h.size) h2 h3).trans (h.keep i h1 h2 h3)⟩
theorem Km.of_below {X:Par} {w w':World} (hb:Below w.heap.size w w'):Km X w w':=⟨hb.size,fun k h1 _ _=>hb.block k h1⟩
theorem Km.below {X:Par} {w1 w2 w3:World} (h:Km X w1 w2) (hb:Below w2.heap.size w2 w3):Km X w1 w3:=h.trans (Km.of_below hb)
section
variable {X:Par} {pr pr':Nat -> Prop} {w w':World}
theorem MM.below (h:MM X pr w) (hb:Below w.heap.size w w'):MM X pr w':=by
  obtain ⟨es1,c1,h1,k1⟩:=h.e1;obtain ⟨es2,c2,h2,k2⟩:=h.e2;refine ⟨h.bel.trans (hb.mono h.bel.size),(hb.block _ (lt_heap' h.hb)).trans h.hb,⟨es1,c1,(hb.block _ (lt_heap' h1)).trans h1,fun e he=>?_⟩,⟨es2,c2,(hb.block _ (lt_heap' h2)).trans h2,k2⟩,fun k hk=>Nat.lt_of_lt_of_le (h.lt k hk) hb.size⟩;obtain ⟨x,o,i,g,a1,a2,a3,a4,a5⟩:=k1 e he;exact ⟨x,o,i,g,a1,a2,a3,(hb.block _ a4.lt).trans a4,a5⟩
theorem MM.hide (h:MM X pr w) (hn:∀ k,pr' k -> pr k \/ w.heap.size <= k) (hb:Below w.heap.size w w') (hl:∀ k,pr' k -> k < w'.heap.size):MM X pr' w':=by
  have h':=h.below hb;obtain ⟨es1,c1,h1,k1⟩:=h.e1;refine ⟨h'.bel,h'.hb,⟨es1,c1,(hb.block _ (lt_heap' h1)).trans h1,fun e he=>?_⟩,h'.e2,hl⟩;obtain ⟨x,o,i,g,a1,a2,a3,a4,a5⟩:=k1 e he;refine ⟨x,o,i,g,a1,a2,a3,(hb.block _ a4.lt).trans a4,fun q=>?_⟩;rcases hn g q with q | q
  · exact a5 q
  · have:=a4.lt;omega
theorem MM.mono (h:MM X pr w) (hn:∀ k,pr' k -> pr k):MM X pr' w:=by
  obtain ⟨es1,c1,h1,k1⟩:=h.e1;refine ⟨h.bel,h.hb,⟨es1,c1,h1,fun e he=>?_⟩,h.e2,fun k hk=>h.lt k (hn k hk)⟩;obtain ⟨x,o,i,g,a1,a2,a3,a4,a5⟩:=k1 e he;exact ⟨x,o,i,g,a1,a2,a3,a4,fun q=>a5 (hn g q)⟩
theorem MM.own (h:MM X pr w) {B:Nat} (hB:pr B) (h0:X.w0.heap.size <= B) (hm:B ≠ X.bm) (h1:B ≠ X.b1) (h2:B ≠ X.b2) (hs:w.heap.size <= w'.heap.size) (hk:∀ k,k < w.heap.size -> k ≠ B -> w'.heap[k]? = w.heap[k]?) (hbl:Below X.w0.heap.size X.w0 w'):MM X pr w':=by
  obtain ⟨es1,c1,a1,k1⟩:=h.e1;obtain ⟨es2,c2,a2,k2⟩:=h.e2;refine ⟨hbl,(hk _ (lt_heap' h.hb) hm.symm).trans h.hb,⟨es1,c1,(hk _ (lt_heap' a1) h1.symm).trans a1,fun e he=>?_⟩,⟨es2,c2,(hk _ (lt_heap' a2) h2.symm).trans a2,k2⟩,fun k q=>Nat.lt_of_lt_of_le (h.lt k q) hs⟩;obtain ⟨x,o,i,g,b1,b2,b3,b4,b5⟩:=k1 e he;exact ⟨x,o,i,g,b1,b2,b3,(hk _ b4.lt (fun q=>b5 (by rw [q];exact hB))).trans b4,b5⟩
theorem MM.cell (h:MM X pr w) {B:Nat} (hB:pr B) (h0:X.w0.heap.size <= B) (hm:B ≠ X.bm) (h1:B ≠ X.b1) (h2:B ≠ X.b2) (i:Nat) (u:Value):MM X pr (w.setCell ⟨B,i,none⟩ u) :=
  h.own hB h0 hm h1 h2 (by simp) (fun k _ hk=>Below.heap_setCell w ⟨B,i,none⟩ u k hk) (h.bel.setCell h0 _)
theorem MM.facts (h:MM X pr w) :
    (w.cell? ⟨X.bm,0,none⟩ = some X.v /\ w.cell? ⟨X.bm,1,none⟩ = some (S X.T) /\ w.cell? ⟨X.bm,2,none⟩ = some (.bool X.refs) /\ w.cell? ⟨X.bm,3,none⟩ = some (.map (some X.b1)) /\ w.cell? ⟨X.bm,4,none⟩ = some (.map (some X.b2))) :=
  ⟨(Lib.cell_of_heap h.hb 0).trans rfl,(Lib.cell_of_heap h.hb 1).trans rfl,(Lib.cell_of_heap h.hb 2).trans rfl,(Lib.cell_of_heap h.hb 3).trans rfl,(Lib.cell_of_heap h.hb 4).trans rfl⟩
theorem MM.apart (h:MM X pr w) {B n:Nat} {f:Nat -> Bool} (hr:RB w B n f):B ≠ X.bm /\ B ≠ X.b1 /\ B ≠ X.b2:=by
  obtain ⟨es1,c1,a1,k1⟩:=h.e1;obtain ⟨es2,c2,a2,k2⟩:=h.e2;refine ⟨?_,?_,?_⟩
  · rintro rfl;have:=h.hb.symm.trans hr;simp only [Option.some.injEq,Obj.cells.injEq] at this;exact absurd this.2.1 (by decide)
  · rintro rfl;have:=a1.symm.trans hr;simp at this
  · rintro rfl;have:=a2.symm.trans hr;simp at this
theorem MM.put1 (h:MM X pr w) (hX:X.Ok) {x:Tr} {o i g:Nat} (ha:At X.l x o) (hr:RB w g (X.N + 1) (endsP X.T x i)) (hg:¬ pr g) :
    ∃ w',(Instr.mapUpdate 124 (.map (some X.b1)) (PK (o + x.size - 1) i) (SL g (X.N + 1))).run Tryz.prog w = .ok () w' /\ MM X pr w' /\ Km X w w' /\ RB w' g (X.N + 1) (endsP X.T x i):=by
  obtain ⟨es1,c1,a1,k1⟩:=h.e1;obtain ⟨es2,c2,a2,k2⟩:=h.e2;have hK:KeysIn placeKeys es1:=fun e he=>by
    obtain ⟨x,o,i,g,_,b2,_⟩:=k1 e he;exact ⟨(o + x.size - 1,i),trivial,b2⟩
  obtain ⟨es',clk',hrun,hes⟩:=put_run placeKeys Tryz.underlying124 (k:=(o + x.size - 1,i)) trivial hK (SL g (X.N + 1)) w X.b1 c1 a1;have hset:∀ k,k ≠ X.b1 -> (ChangeMaps.setBlock w X.b1 (.map es' clk')).heap[k]? = w.heap[k]?:=fun k hk=>by
    simp only [ChangeMaps.setBlock,Array.getElem?_setIfInBounds_ne (Ne.symm hk)]
  have hsame:(ChangeMaps.setBlock w X.b1 (.map es' clk')).heap[X.b1]? = some (.map es' clk'):=by
    simp only [ChangeMaps.setBlock,Array.getElem?_setIfInBounds_self_of_lt (lt_heap' a1)]
  (have hsz:(ChangeMaps.setBlock w X.b1 (.map es' clk')).heap.size = w.heap.size:=by simp [ChangeMaps.setBlock]);have hap:=h.apart hr;have hbl:Below X.w0.heap.size X.w0 (ChangeMaps.setBlock w X.b1 (.map es' clk')):=h.bel.trans ⟨rfl,rfl,rfl,by rw [hsz];exact Nat.le_refl _,fun k hk=>hset k (by have:=hX.m1;omega)⟩;refine ⟨_,hrun,⟨hbl,(hset _ ?_).trans h.hb,⟨es',clk',hsame,fun e he=>?_⟩,⟨es2,c2,(hset _ hX.n12.symm).trans a2,k2⟩,fun k hk=>by rw [hsz];exact h.lt k hk⟩,⟨by rw [hsz];exact Nat.le_refl _,fun k _ hk _=>hset k hk⟩,(hset g hap.2.1).trans hr⟩
  · intro q;have:=h.hb.symm.trans (q ▸ a1);simp at this
  · rcases hes e he with he | ⟨e1,e2⟩
    · obtain ⟨x',o',i',g',b1,b2,b3,b4,b5⟩:=k1 e he;exact ⟨x',o',i',g',b1,b2,b3,(hset g' (h.apart b4).2.1).trans b4,b5⟩
    · exact ⟨x,o,i,g,ha,e1,e2,(hset g hap.2.1).trans hr,hg⟩
theorem MM.look1 (h:MM X pr w) {x:Tr} {o:Nat} (ha:At X.l x o) (hx:0 < x.size) (i:Nat) :
    ∃ v b,(∀ w':World,w'.heap[X.b1]? = w.heap[X.b1]? -> (Instr.lookup 124 (.map (some X.b1)) (PK (o + x.size - 1) i) true).run Tryz.prog w' = .ok (.tuple #[v,.bool b]) w') /\
      ((b = false /\ v = .slice none 0 0) \/ (b = true /\ ∃ g,v = SL g (X.N + 1) /\ RB w g (X.N + 1) (endsP X.T x i) /\ ¬ pr g)):=by
  obtain ⟨es1,c1,a1,k1⟩:=h.e1;have hK:KeysIn placeKeys es1:=fun e he=>by
    obtain ⟨x,o,i,g,_,b2,_⟩:=k1 e he;exact ⟨(o + x.size - 1,i),trivial,b2⟩
  obtain ⟨v,b,h1,h2⟩:=look_run placeKeys Tryz.underlying124 (z:=.slice none 0 0) (fun w=>by kernel_rfl) (k:=(o + x.size - 1,i)) trivial hK;refine ⟨v,b,fun w' hw=>h1 w' X.b1 c1 (hw.trans a1),?_⟩;rcases h2 with h2 | ⟨rfl,e,he,hk,rfl⟩
  · exact Or.inl h2
  · right;obtain ⟨x',o',i',g',b1,b2,b3,b4,b5⟩:=k1 e he;have hp:=size_pos x';obtain ⟨q1,rfl⟩:=pk_inj.1 (b2.symm.trans hk);obtain ⟨rfl,rfl⟩:=at_inj x' x o' o b1 ha (by omega);exact ⟨rfl,g',b3,b4,b5⟩
theorem MM.look2 (h:MM X pr w) (hX:X.Ok) {x:Tr} {o:Nat} (ha:At X.l x o) (hx:0 < x.size) (i j:Nat) {c:Caps} (hc:CapsOk X.N c) :
    ∃ v b,(∀ w':World,w'.heap[X.b2]? = w.heap[X.b2]? -> (Instr.lookup 125 (.map (some X.b2)) (TK (o + x.size - 1) i j c) true).run Tryz.prog w' = .ok (.tuple #[v,.bool b]) w') /\
      ((b = false /\ ∃ z,v = .agg #[z,z,z,z,z,z,z,z,z,z,.bool false] /\ z = .complex .f64 0 0) \/ (b = true /\ ∃ c' b',v = LV c' b' /\ LeftOk X.N (fitP X.T x i j c) c' b')):=by
  obtain ⟨es2,c2,a2,k2⟩:=h.e2;(have hN:X.N <= 999999999:=by have:=hX.len;omega);have hK:KeysIn (tryKeys X.N hN) es2:=fun e he=>by
    obtain ⟨x,o,i,j,c,c',b,_,b1,b2,_⟩:=k2 e he;exact ⟨(o + x.size - 1,i,j,c),b1,b2⟩
  obtain ⟨v,b,h1,h2⟩:=look_run (tryKeys X.N hN) Tryz.underlying125 (z:=.agg #[.complex .f64 0 0,.complex .f64 0 0,.complex .f64 0 0,.complex .f64 0 0,.complex .f64 0 0,.complex .f64 0 0,.complex .f64 0 0,.complex .f64 0 0,.complex .f64 0 0,.complex .f64 0 0,.bool false]) (fun w=>by kernel_rfl) (k:=(o + x.size - 1,i,j,c)) hc hK;refine ⟨v,b,fun w' hw=>h1 w' X.b2 c2 (hw.trans a2),?_⟩;rcases h2 with h2 | ⟨rfl,e,he,hk,rfl⟩
  · exact Or.inl ⟨h2.1,_,h2.2,rfl⟩
  · right;obtain ⟨x',o',i',j',c',d',b',b1,b2,b3,b4,b5⟩:=k2 e he;have hp:=size_pos x';obtain ⟨q1,rfl,rfl,rfl⟩:=(tk_inj hN b2 hc).1 (b3.symm.trans hk);obtain ⟨rfl,rfl⟩:=at_inj x' x o' o b1 ha (by omega);exact ⟨rfl,d',b',b4,b5⟩
theorem MM.put2 (h:MM X pr w) (hX:X.Ok) {x:Tr} {o i j:Nat} {c c':Caps} {b:Bool} (ha:At X.l x o) (hc:CapsOk X.N c) (hl:LeftOk X.N (fitP X.T x i j c) c' b) :
    ∃ w',(Instr.mapUpdate 125 (.map (some X.b2)) (TK (o + x.size - 1) i j c) (LV c' b)).run Tryz.prog w = .ok () w' /\ MM X pr w' /\ Km X w w':=by
  obtain ⟨es1,c1,a1,k1⟩:=h.e1;obtain ⟨es2,c2,a2,k2⟩:=h.e2;(have hN:X.N <= 999999999:=by have:=hX.len;omega);have hK:KeysIn (tryKeys X.N hN) es2:=fun e he=>by
    obtain ⟨x,o,i,j,c,c',b,_,b1,b2,_⟩:=k2 e he;exact ⟨(o + x.size - 1,i,j,c),b1,b2⟩
  obtain ⟨es',clk',hrun,hes⟩:=put_run (tryKeys X.N hN) Tryz.underlying125 (k:=(o + x.size - 1,i,j,c)) hc hK (LV c' b) w X.b2 c2 a2;have hset:∀ k,k ≠ X.b2 -> (ChangeMaps.setBlock w X.b2 (.map es' clk')).heap[k]? = w.heap[k]?:=fun k hk=>by
    simp only [ChangeMaps.setBlock,Array.getElem?_setIfInBounds_ne (Ne.symm hk)]
  have hsame:(ChangeMaps.setBlock w X.b2 (.map es' clk')).heap[X.b2]? = some (.map es' clk'):=by
    simp only [ChangeMaps.setBlock,Array.getElem?_setIfInBounds_self_of_lt (lt_heap' a2)]
  (have hsz:(ChangeMaps.setBlock w X.b2 (.map es' clk')).heap.size = w.heap.size:=by simp [ChangeMaps.setBlock]);have hbl:Below X.w0.heap.size X.w0 (ChangeMaps.setBlock w X.b2 (.map es' clk')):=h.bel.trans ⟨rfl,rfl,rfl,by rw [hsz];exact Nat.le_refl _,fun k hk=>hset k (by have:=hX.m2;omega)⟩;refine ⟨_,hrun,⟨hbl,(hset _ ?_).trans h.hb,⟨es1,c1,(hset _ hX.n12).trans a1,fun e he=>?_⟩,⟨es',clk',hsame,fun e he=>?_⟩,fun k hk=>by rw [hsz];exact h.lt k hk⟩,⟨by rw [hsz];exact Nat.le_refl _,fun k _ _ hk=>hset k hk⟩⟩
  · intro q;have:=h.hb.symm.trans (q ▸ a2);simp at this
  · obtain ⟨x',o',i',g',b1,b2,b3,b4,b5⟩:=k1 e he;exact ⟨x',o',i',g',b1,b2,b3,(hset g' (h.apart b4).2.2).trans b4,b5⟩
  · rcases hes e he with he | ⟨e1,e2⟩
    · exact k2 e he
    · exact ⟨x,o,i,j,c,c',b,ha,hc,e1,e2,hl⟩
theorem MM.node (h:MM X pr w) (hX:X.Ok) {x:Tr} {o:Nat} (ha:At X.l x o):∃ nb no cap,X.v = .slice (some ⟨nb,no,none⟩) X.l.length cap /\ o + x.size - 1 < X.l.length /\ NCell w nb (no + (o + x.size - 1) * 10) (x.root o):=by
  have hr:=at_root ha;have hlt:o + x.size - 1 < X.l.length:=(List.getElem?_eq_some_iff.1 hr).1;obtain ⟨ao,cap,hv,_⟩:=hX.nodes;have hN:=(hX.nodes.below h.bel);rw [hv] at hN;obtain ⟨b,o',e,hc⟩:=hN.at hlt;subst e;rw [List.getElem?_eq_getElem hlt] at hr;rw [Option.some.inj hr] at hc;exact ⟨b,o',cap,hv,hlt,hc⟩
end
structure Ob (B:Nat) (w w':World):Prop where
 bel:Below B w w'
 far:∀ k,k < w.heap.size -> k ≠ B -> w'.heap[k]? = w.heap[k]?
theorem Ob.refl (B:Nat) (w:World):Ob B w w:=⟨Below.refl _ _,fun _ _ _=>rfl⟩
theorem Ob.trans {B:Nat} {a b c:World} (h:Ob B a b) (k:Ob B b c):Ob B a c :=
 ⟨h.bel.trans k.bel,fun i h1 h2=>(k.far i (Nat.lt_of_lt_of_le h1 h.bel.size) h2).trans (h.far i h1 h2)⟩
theorem Ob.set {B:Nat} {a b:World} (h:Ob B a b) (i:Nat) (u:Value):Ob B a (b.setCell ⟨B,i,none⟩ u) :=
 h.trans ⟨(Below.refl B b).setCell (Nat.le_refl _) _,fun k _ hk=>Below.heap_setCell b ⟨B,i,none⟩ u k hk⟩
theorem Ob.drew {B:Nat} {a b:World} (h:Ob B a b):Ob B a b.drew:=⟨h.bel.drew,h.far⟩
theorem index_any (g n:Nat) (f:Nat -> Bool) (hn:n <= 1000000) (w:World) (h:RB w g n f) :
  Calls Tryz.prog 176 #[SL g n,.bool true] w fun e w'=>∃ r:Int,e = .returned (E r) /\ decide (0 <= r) = (List.range n).any f /\ w = w':=by
 have HR:=Hd h;clear h;go_enter Tryz.func176,Tryz.ntmps176;go_wp2;go_loopw [8] (fun i wr=>∃ (k:Nat),k <= n /\ i = .int .i64 (k:Nat) /\ Hid (∀ j,j < k -> f j = false) /\ Hid (w = wr)) (fun i _=>n - (intOf i).toNat);(case atStart=>exact ⟨0,Nat.zero_le _,rfl,Hd (by intro j hj;omega),Hd rfl⟩);case round =>
  obtain ⟨k,hk,rfl,HF,HW⟩:=hrel;obtain rfl:=HW.out;by_cases hlt:k < n
  ·
   (have hlt':((k:Nat):Int) < ((n:Nat):Int):=by omega);(have hk0:(0:Int) <= ((k:Nat):Int):=by omega);have hc:=HR.out.cell hlt;(have hw1:IntKind.i64.wrap ((k:Int) + 1) = (k:Int) + 1:=by rw [IntKind.wrap_i64];omega);cases hf:f k
   ·
    rw [hf] at hc;have HF2:=Hd (show ∀ j,j < k + 1 -> f j = false from fun j hj=>by
     rcases Nat.lt_or_ge j k with q | q
     · exact HF.out j q
     · (obtain rfl:j = k:=by omega);exact hf)
    clear hf;go_wp2;go_roundw;(case rel=>exact ⟨k + 1,by omega,by go_num,HF2,Hd (by first | trivial | rfl)⟩);case measure=>simp [intOf];omega
   ·
    rw [hf] at hc;have HO:=Hd (show decide ((0:Int) <= (k:Int)) = (List.range n).any f from by
     rw [decide_eq_true hk0];symm;rw [List.any_eq_true];exact ⟨k,List.mem_range.2 hlt,hf⟩)
    clear hf;go_wp2;go_ret;exact ⟨_,rfl,HO.out,rfl⟩
  ·
   (obtain rfl:k = n:=by omega);have HO:=Hd (show decide ((0:Int) <= (-1:Int)) = (List.range k).any f from by
    rw [decide_eq_false (by decide)];symm;rw [List.any_eq_false];intro j hj;rw [HF.out j (List.mem_range.1 hj)];simp)
   (have hlt':¬ ((k:Nat):Int) < ((k:Nat):Int):=by omega);go_wp2;go_ret;exact ⟨_,rfl,HO.out,rfl⟩
theorem contains_any (g n:Nat) (f:Nat -> Bool) (hn:n <= 1000000) (w:World) (h:RB w g n f) :
  Calls Tryz.prog 153 #[SL g n,.bool true] w fun e w'=>e = .returned (.bool ((List.range n).any f)) /\ w = w':=by
 have HI:=Hd (index_any g n f hn w h);generalize (List.range n).any f = z at *;clear h;go_enter Tryz.func153,Tryz.ntmps153;go_wp2_with (go_at_call 176;refine HI.out.mono ?_;rintro e w' ⟨r,rfl,hr,rfl⟩);go_ret;exact ⟨by rw [<- hr];rfl,rfl⟩
def orK (f s:Nat -> Bool) (k:Nat):Nat -> Bool:=fun j=>f j || (decide (j < k) && s j)
theorem orK_next {f s:Nat -> Bool} {k:Nat} (v:Bool) (hv:v = (orK f s k k || s k)):∀ i,orK f s (k + 1) i = if i = k then v else orK f s k i:=by
 intro i;unfold orK at *;by_cases e:i = k
 · subst e;rw [if_pos rfl,hv];simp
 ·
  rw [if_neg e]
  congr 2
  rw [Bool.eq_iff_iff,decide_eq_true_eq,decide_eq_true_eq];omega
theorem orK_zero (f s:Nat -> Bool):∀ i,orK f s 0 i = f i:=fun i=>by simp [orK]
theorem orK_all (f s:Nat -> Bool) (n:Nat):∀ i,i < n -> (f i || s i) = orK f s n i:=fun i hi=>by simp [orK,hi]
theorem add_any (gs gb bb n:Nat) (f s:Nat -> Bool) (hn:n <= 1000000) (w:World) (hs:RB w gs n s) (hb:RB w gb n f) (hbb:w.heap[bb]? = some (.cells #[SL gb n] 165 (0,0))) (hne:gs ≠ gb) :
  Calls Tryz.prog 129 #[SL gs n,PT bb] w fun e w'=>e = .returned (.tuple #[]) /\ RB w' gb n (fun j=>f j || s j) /\ Ob gb w w':=by
 have HS:=Hd hs;have HB:=Hd (hb.congr (g:=orK f s 0) (fun i _=>orK_zero f s i));have HBB:=Hd hbb;have HNE:=Hd (show bb ≠ gb from by
  rintro rfl;have:=hbb.symm.trans hb;simp only [Option.some.injEq,Obj.cells.injEq] at this;exact absurd this.2.1 (by decide))
 have HLT:=Hd (show bb < w.heap.size /\ gs < w.heap.size from ⟨lt_heap' hbb,hs.lt⟩);have HN2:=Hd hne;clear hs hb hbb hne;go_enter Tryz.func129,Tryz.ntmps129;go_wp2;go_loopw [7] (fun i wr=>∃ (k:Nat),k <= n /\ i = .int .i64 (k:Nat) /\ Hid (RB wr gb n (orK f s k)) /\ Hid (Ob gb w wr)) (fun i _=>n - (intOf i).toNat);(case atStart=>exact ⟨0,Nat.zero_le _,rfl,HB,Hd (Ob.refl _ _)⟩);case round =>
  clear HB;obtain ⟨k,hk,rfl,HR,HO⟩:=hrel;by_cases hlt:k < n
  ·
   (have hlt':((k:Nat):Int) < ((n:Nat):Int):=by omega);(have hk0:(0:Int) <= ((k:Nat):Int):=by omega);(have hw1:IntKind.i64.wrap ((k:Int) + 1) = (k:Int) + 1:=by rw [IntKind.wrap_i64];omega);have hcb:=HR.out.cell hlt;have hfb:=HR.out.fz k;have hS:=(HO.out.far gs HLT.out.2 HN2.out).trans HS.out;have hcs:=RB.cell (n:=n) (f:=s) hS hlt;have hBB:=(HO.out.far bb HLT.out.1 HNE.out).trans HBB.out;have hcc:=(Lib.cell_of_heap hBB 0).trans rfl;clear hS hBB;cases hf:orK f s k k
   ·
    rw [hf] at hcb;cases hs2:s k
    · rw [hs2] at hcs;have HQ:=Hd (HR.out.put (g:=orK f s (k + 1)) (v:=false) (fun i _=>orK_next false (by rw [hf,hs2];rfl) i));clear hf hs2;go_wp2;go_region;go_wp2;go_roundw;(case rel=>exact ⟨k + 1,by omega,by go_num,HQ,Hd ((HO.out.set _ _).drew)⟩);case measure=>simp [intOf];omega
    · rw [hs2] at hcs;have HQ:=Hd (HR.out.put (g:=orK f s (k + 1)) (v:=true) (fun i _=>orK_next true (by rw [hf,hs2];rfl) i));clear hf hs2;go_wp2;go_region;go_wp2;go_roundw;(case rel=>exact ⟨k + 1,by omega,by go_num,HQ,Hd ((HO.out.set _ _).drew)⟩);case measure=>simp [intOf];omega
   ·
    rw [hf] at hcb;cases hs2:s k
    · rw [hs2] at hcs;have HQ:=Hd (HR.out.put (g:=orK f s (k + 1)) (v:=true) (fun i _=>orK_next true (by rw [hf,hs2];rfl) i));clear hf hs2;go_wp2;go_region;go_wp2;go_roundw;(case rel=>exact ⟨k + 1,by omega,by go_num,HQ,Hd ((HO.out.set _ _).drew)⟩);case measure=>simp [intOf];omega
    · rw [hs2] at hcs;have HQ:=Hd (HR.out.put (g:=orK f s (k + 1)) (v:=true) (fun i _=>orK_next true (by rw [hf,hs2];rfl) i));clear hf hs2;go_wp2;go_region;go_wp2;go_roundw;(case rel=>exact ⟨k + 1,by omega,by go_num,HQ,Hd ((HO.out.set _ _).drew)⟩);case measure=>simp [intOf];omega
  · (obtain rfl:k = n:=by omega);have HQ:=Hd (HR.out.congr (g:=fun j=>f j || s j) (fun i hi=>orK_all f s k i hi));(have hlt':¬ ((k:Nat):Int) < ((k:Nat):Int):=by omega);go_wp2;go_end0;exact ⟨rfl,HQ.out,HO.out⟩
end Go.Proofs.YtinallojhkaogaaGreatDoor.Mt
