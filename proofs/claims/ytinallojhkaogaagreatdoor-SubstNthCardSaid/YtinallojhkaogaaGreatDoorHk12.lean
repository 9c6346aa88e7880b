/- The texts MtT. -/
import Derived.Test.YtinallojhkaogaaGreatDoorHk11
set_option linter.unusedVariables false
set_option linter.unusedSimpArgs false
set_option maxHeartbeats 6400000
set_option maxRecDepth 100000
namespace Go.Proofs.YtinallojhkaogaaGreatDoor.Mt
open Go.RowKit Go.Shelf
open Rx
open St (word)
def FromOk (X:Par) (x:Tr) (ia:Nat):Prop:=∀ (pr:Nat -> Prop) (i:Nat) (w:World),i <= X.N -> MM X pr w ->
 Calls Tryz.prog 102 #[PT X.bm,E (ia:Nat),E (i:Nat)] w fun e w'=>∃ g,e = .returned (SL g (X.N + 1)) /\ RB w' g (X.N + 1) (endsP X.T x i) /\ ¬ pr g /\ MM X pr w' /\ Km X w w'
structure Kb (X:Par) (B:Nat) (w w':World):Prop where
 size:w.heap.size <= w'.heap.size
 keep:∀ k,k < w.heap.size -> k ≠ X.b1 -> k ≠ X.b2 -> k ≠ B -> w'.heap[k]? = w.heap[k]?
theorem Kb.refl (X:Par) (B:Nat) (w:World):Kb X B w w:=⟨Nat.le_refl _,fun _ _ _ _ _=>rfl⟩
theorem Kb.trans {X:Par} {B:Nat} {w1 w2 w3:World} (h:Kb X B w1 w2) (k:Kb X B w2 w3):Kb X B w1 w3 :=
 ⟨Nat.le_trans h.size k.size,fun i h1 h2 h3 h4=>(k.keep i (Nat.lt_of_lt_of_le h1 h.size) h2 h3 h4).trans (h.keep i h1 h2 h3 h4)⟩
theorem Km.kb {X:Par} {B:Nat} {w w':World} (h:Km X w w'):Kb X B w w':=⟨h.size,fun k h1 h2 h3 _=>h.keep k h1 h2 h3⟩
def Pv (pr:Nat -> Prop) (l:List Nat):Nat -> Prop:=fun k=>pr k \/ k ∈ l
structure TI (X:Par) (pr:Nat -> Prop) (w:World) (nd:Nd) (gb gn gh gx:Nat) (now:Nat -> Bool) (s:IS) (wr:World):Prop where
 mm:MM X (Pv pr [w.heap.size,gn,gh,gx]) wr
 nb:wr.heap[w.heap.size]? = some (.cells (NC nd) 72 (0,0))
 rb:RB wr gb (X.N + 1) s.b
 rn:RB wr gn (X.N + 1) now
 rh:RB wr gh (X.N + 1) s.had
 rx:RB wr gx (X.N + 1) s.next
 pb:pr gb
 ne1:gn ≠ gh
 ne2:gn ≠ gb
 ne3:gh ≠ gb
 ne4:gx ≠ gn
 ne5:gx ≠ gh
 ne6:gx ≠ gb
 kb:Kb X gb w wr
 base:X.w0.heap.size <= gb /\ X.w0.heap.size <= w.heap.size
 new:w.heap.size <= gn /\ w.heap.size <= gh /\ w.heap.size <= gx
theorem nb_row {w:World} {a b n:Nat} {nd:Nd} {f:Nat -> Bool} (h1:w.heap[a]? = some (.cells (NC nd) 72 (0,0))) (h2:RB w b n f):a ≠ b:=by
 rintro rfl;have:=h1.symm.trans h2;simp only [Option.some.injEq,Obj.cells.injEq] at this;exact absurd this.2.1 (by decide)
section
variable {X:Par} {pr:Nat -> Prop} {w wr w':World} {nd:Nd} {gb gn gh gx g:Nat} {now:Nat -> Bool} {s s':IS}
theorem TI.call (h:TI X pr w nd gb gn gh gx now s wr) (hm:MM X (Pv pr [w.heap.size,gn,gh,gx]) w') (hk:Km X wr w'):TI X pr w nd gb gn gh gx now s w':=by
 have k:∀ {b f},RB wr b (X.N + 1) f -> RB w' b (X.N + 1) f:=fun hr=>by
  have ha:=h.mm.apart hr;exact hr.keep (hk.keep _ hr.lt ha.2.1 ha.2.2)
 obtain ⟨es1,c1,a1,_⟩:=h.mm.e1;obtain ⟨es2,c2,a2,_⟩:=h.mm.e2;refine ⟨hm,(hk.keep _ (lt_heap' h.nb) ?_ ?_).trans h.nb,k h.rb,k h.rn,k h.rh,k h.rx,h.pb,h.ne1,h.ne2,h.ne3,h.ne4,h.ne5,h.ne6,h.kb.trans hk.kb,h.base,h.new⟩
 · intro q;have:=(q ▸ h.nb).symm.trans a1;simp at this
 · intro q;have:=(q ▸ h.nb).symm.trans a2;simp at this
theorem kb_set (hk:Kb X gb w wr) {B:Nat} (hB:B = gb \/ w.heap.size <= B) (i:Nat) (u:Value):Kb X gb w (wr.setCell ⟨B,i,none⟩ u) :=
 ⟨by simpa using hk.size,fun k h1 h2 h3 h4=>(Below.heap_setCell wr ⟨B,i,none⟩ u k (by show k ≠ B;rcases hB with rfl | hB;exact h4;omega)).trans (hk.keep k h1 h2 h3 h4)⟩
theorem rb_far {b B n:Nat} {f:Nat -> Bool} (h:RB wr b n f) (hne:b ≠ B) (i:Nat) (u:Value):RB (wr.setCell ⟨B,i,none⟩ u) b n f:=setne h hne
theorem TI.had (h:TI X pr w nd gb gn gh gx now s wr) {p:Nat} {f:Nat -> Bool} (hf:∀ i,i < X.N + 1 -> f i = if i = p then true else s.had i):TI X pr w nd gb gn gh gx now ⟨f,s.b,s.next⟩ (wr.setCell ⟨gh,p,none⟩ (.bool true)):=by
 have ha:=h.mm.apart h.rh;refine ⟨h.mm.cell (B:=gh) (Or.inr (by simp)) (by have:=h.base;have:=h.new;omega) ha.1 ha.2.1 ha.2.2 p _,setne h.nb (nb_row h.nb h.rh),rb_far h.rb h.ne3.symm _ _,rb_far h.rn h.ne1 _ _,h.rh.put hf,rb_far h.rx h.ne5 _ _,h.pb,h.ne1,h.ne2,h.ne3,h.ne4,h.ne5,h.ne6,kb_set h.kb (Or.inr h.new.2.1) _ _,h.base,h.new⟩
theorem TI.setb (h:TI X pr w nd gb gn gh gx now s wr) {p:Nat} {v:Bool} {f:Nat -> Bool} (hf:∀ i,i < X.N + 1 -> f i = if i = p then v else s.b i):TI X pr w nd gb gn gh gx now ⟨s.had,f,s.next⟩ (wr.setCell ⟨gb,p,none⟩ (.bool v)):=by
 have ha:=h.mm.apart h.rb;exact ⟨h.mm.cell (B:=gb) (Or.inl h.pb) h.base.1 ha.1 ha.2.1 ha.2.2 p _,setne h.nb (nb_row h.nb h.rb),h.rb.put hf,rb_far h.rn h.ne2 _ _,rb_far h.rh h.ne3 _ _,rb_far h.rx h.ne6 _ _,h.pb,h.ne1,h.ne2,h.ne3,h.ne4,h.ne5,h.ne6,kb_set h.kb (Or.inl rfl) _ _,h.base,h.new⟩
theorem TI.setx (h:TI X pr w nd gb gn gh gx now s wr) {p:Nat} {v:Bool} {f:Nat -> Bool} (hf:∀ i,i < X.N + 1 -> f i = if i = p then v else s.next i):TI X pr w nd gb gn gh gx now ⟨s.had,s.b,f⟩ (wr.setCell ⟨gx,p,none⟩ (.bool v)):=by
 have ha:=h.mm.apart h.rx;exact ⟨h.mm.cell (B:=gx) (Or.inr (by simp)) (by have:=h.base;have:=h.new;omega) ha.1 ha.2.1 ha.2.2 p _,setne h.nb (nb_row h.nb h.rx),rb_far h.rb h.ne6.symm _ _,rb_far h.rn h.ne4.symm _ _,rb_far h.rh h.ne5.symm _ _,h.rx.put hf,h.pb,h.ne1,h.ne2,h.ne3,h.ne4,h.ne5,h.ne6,kb_set h.kb (Or.inr h.new.2.2) _ _,h.base,h.new⟩
theorem TI.congr (h:TI X pr w nd gb gn gh gx now s wr) (h1:∀ i,i < X.N + 1 -> s'.had i = s.had i) (h2:∀ i,i < X.N + 1 -> s'.b i = s.b i) (h3:∀ i,i < X.N + 1 -> s'.next i = s.next i):TI X pr w nd gb gn gh gx now s' wr :=
 ⟨h.mm,h.nb,h.rb.congr h2,h.rn,h.rh.congr h1,h.rx.congr h3,h.pb,h.ne1,h.ne2,h.ne3,h.ne4,h.ne5,h.ne6,h.kb,h.base,h.new⟩
theorem nb_cells {b:Nat} (h:wr.heap[b]? = some (.cells (NC nd) 72 (0,0))):wr.cell? ⟨b,5,none⟩ = some (E nd.a) /\ wr.cell? ⟨b,7,none⟩ = some (E nd.mn) /\ wr.cell? ⟨b,8,none⟩ = some (E nd.mx) :=
 ⟨(Lib.cell_of_heap h 5).trans rfl,(Lib.cell_of_heap h 7).trans rfl,(Lib.cell_of_heap h 8).trans rfl⟩
structure TS (X:Par) (pr:Nat -> Prop) (w:World) (nd:Nd) (gb gn gh:Nat) (l:LS) (wr:World):Prop where
 mm:MM X (Pv pr [w.heap.size,gn,gh]) wr
 nb:wr.heap[w.heap.size]? = some (.cells (NC nd) 72 (0,0))
 rb:RB wr gb (X.N + 1) l.b
 rn:RB wr gn (X.N + 1) l.now
 rh:RB wr gh (X.N + 1) l.had
 pb:pr gb
 ne1:gn ≠ gh
 ne2:gn ≠ gb
 ne3:gh ≠ gb
 kb:Kb X gb w wr
 base:X.w0.heap.size <= gb /\ X.w0.heap.size <= w.heap.size
 new:w.heap.size <= gn /\ w.heap.size <= gh
theorem TS.begin {l:LS} (h:TS X pr w nd gb gn gh l wr):TI X pr w nd gb gn gh wr.heap.size l.now ⟨l.had,l.b,fun _=>false⟩ (wr.alloc (.cells (bcn (X.N + 1) fun _=>false) 4)):=by
 have hb:Below wr.heap.size wr (wr.alloc (.cells (bcn (X.N + 1) fun _=>false) 4)):=(Below.refl _ _).alloc (Nat.le_refl _) _;(have k:∀ {b f},RB wr b (X.N + 1) f -> RB (wr.alloc (.cells (bcn (X.N + 1) fun _=>false) 4)) b (X.N + 1) f:=fun hr=>hr.keep (hb.block _ hr.lt));refine ⟨h.mm.hide (fun k hk=>?_) hb (fun k hk=>?_),(hb.block _ (lt_heap' h.nb)).trans h.nb,k h.rb,k h.rn,k h.rh,heap_alloc_new _ _,h.pb,h.ne1,h.ne2,h.ne3,?_,?_,?_,⟨Nat.le_trans h.kb.size hb.size,fun k h1 h2 h3 h4=>(hb.block _ (Nat.lt_of_lt_of_le h1 h.kb.size)).trans (h.kb.keep k h1 h2 h3 h4)⟩,h.base,⟨h.new.1,h.new.2,h.kb.size⟩⟩
 ·
  rcases hk with hk | hk
  · exact Or.inl (Or.inl hk)
  ·
   simp only [List.mem_cons,List.not_mem_nil,or_false] at hk;rcases hk with rfl | rfl | rfl | rfl
   · exact Or.inl (Or.inr (by simp))
   · exact Or.inl (Or.inr (by simp))
   · exact Or.inl (Or.inr (by simp))
   · exact Or.inr (Nat.le_refl _)
 ·
  (have hs:(wr.alloc (.cells (bcn (X.N + 1) fun _=>false) 4)).heap.size = wr.heap.size + 1:=by simp);rw [hs];rcases hk with hk | hk
  · have:=h.mm.lt k (Or.inl hk);omega
  ·
   simp only [List.mem_cons,List.not_mem_nil,or_false] at hk;rcases hk with rfl | rfl | rfl | rfl
   · have:=lt_heap' h.nb;omega
   · have:=h.rn.lt;omega
   · have:=h.rh.lt;omega
   · omega
 · have:=h.rn.lt;omega
 · have:=h.rh.lt;omega
 · have:=h.rb.lt;omega
theorem TI.done (h:TI X pr w nd gb gn gh gx now s wr):TS X pr w nd gb gx gh ⟨s.next,s.had,s.b⟩ wr :=
 ⟨h.mm.mono (fun k hk=>by
  rcases hk with hk | hk
  · exact Or.inl hk
  · simp only [List.mem_cons,List.not_mem_nil,or_false] at hk;rcases hk with rfl | rfl | rfl <;> exact Or.inr (by simp)),h.nb,h.rb,h.rx,h.rh,h.pb,h.ne5,h.ne6,h.ne3,h.kb,h.base,⟨h.new.2.2,h.new.2.1⟩⟩
theorem pv_not {k:Nat} (h:¬ Pv pr [w.heap.size,gn,gh,gx] k):k ≠ gn /\ k ≠ gh /\ k ≠ gx:=⟨fun q=>h (Or.inr (by simp [q])),fun q=>h (Or.inr (by simp [q])),fun q=>h (Or.inr (by simp [q]))⟩
end
def nxK (E:Nat -> Nat -> Bool) (cm:Bool) (s:IS) (p k:Nat):Nat -> Bool:=fun q=>s.next q || (decide (p < q) && decide (q < k) && cm && E p q)
theorem nxK_zero (E:Nat -> Nat -> Bool) (cm:Bool) (s:IS) (p:Nat):∀ i,nxK E cm s p (p + 1) i = s.next i:=fun i=>by
 unfold nxK;by_cases h:p < i
 · rw [decide_eq_false (by omega:¬ i < p + 1)];simp
 · rw [decide_eq_false h];simp
theorem nxK_next {E:Nat -> Nat -> Bool} {s:IS} {p k:Nat} (hpk:p < k) (v:Bool) (hv:v = (nxK E true s p k k || E p k)):∀ i,nxK E true s p (k + 1) i = if i = k then v else nxK E true s p k i:=by
 intro i;unfold nxK at *;by_cases e:i = k
 · subst e;rw [if_pos rfl,hv,decide_eq_true hpk];simp
 ·
  rw [if_neg e]
  congr 4
  rw [Bool.eq_iff_iff,decide_eq_true_eq,decide_eq_true_eq];omega
theorem ts_start {X:Par} {pr:Nat -> Prop} {w:World} (nd:Nd) {gb at0:Nat} (hM:MM X pr w) (hb:RB w gb (X.N + 1) fun _=>false) (hpb:pr gb) (hbase:X.w0.heap.size <= gb) (hat:at0 <= X.N) (mn mx:Int) (E:Nat -> Nat -> Bool) :
  TS X pr w nd gb (w.heap.size + 1) (w.heap.size + 1 + 1) (seqT E mn mx X.N at0 0) (((w.alloc (.cells (NC nd) 72)).alloc (.cells ((bcn (X.N + 1) fun _=>false).setIfInBounds at0 (.bool true)) 4)).alloc (.cells (bcn (X.N + 1) fun _=>false) 4)):=by
 rw [show (bcn (X.N + 1) fun _=>false).setIfInBounds at0 (.bool true) = bcn (X.N + 1) (fun q=>decide (q = at0)) from by
  rw [bcn_set];(refine bcn_congr fun i hi=>?_);by_cases e:i = at0
  · rw [if_pos e,decide_eq_true e]
  · rw [if_neg e,decide_eq_false e]]
 have b1:Below w.heap.size w (w.alloc (.cells (NC nd) 72)):=(Below.refl _ _).alloc (Nat.le_refl _) _;have b2:Below w.heap.size w ((w.alloc (.cells (NC nd) 72)).alloc (.cells (bcn (X.N + 1) fun q=>decide (q = at0)) 4)):=b1.alloc (by simp) _;have b4:=b2.alloc (by simp;omega) (.cells (bcn (X.N + 1) fun _=>false) 4);(have s4:(((w.alloc (.cells (NC nd) 72)).alloc (.cells (bcn (X.N + 1) fun q=>decide (q = at0)) 4)).alloc (.cells (bcn (X.N + 1) fun _=>false) 4)).heap.size = w.heap.size + 3:=by simp);have hn2:RB ((w.alloc (.cells (NC nd) 72)).alloc (.cells (bcn (X.N + 1) fun q=>decide (q = at0)) 4)) (w.heap.size + 1) (X.N + 1) fun q=>decide (q = at0):=by
  have:=heap_alloc_new (w.alloc (.cells (NC nd) 72)) (.cells (bcn (X.N + 1) fun q=>decide (q = at0)) 4)
  rwa [show (w.alloc (.cells (NC nd) 72)).heap.size = w.heap.size + 1 by simp] at this
 have hlt:=hb.lt;refine ⟨hM.hide (fun k hk=>?_) b4 (fun k hk=>?_),?_,hb.keep (b4.block _ hlt),?_,?_,hpb,by omega,by omega,by omega,(Km.of_below b4).kb,⟨hbase,hM.bel.size⟩,by omega,by omega⟩
 ·
  rcases hk with hk | hk
  · exact Or.inl hk
  · simp only [List.mem_cons,List.not_mem_nil,or_false] at hk;right;omega
 ·
  rw [s4];rcases hk with hk | hk
  · have:=hM.lt k hk;omega
  · simp only [List.mem_cons,List.not_mem_nil,or_false] at hk;omega
 · exact (Below.heap_alloc _ _ _ (by simp;omega)).trans ((Below.heap_alloc _ _ _ (by simp)).trans (heap_alloc_new _ _))
 · exact (Below.heap_alloc _ _ _ (by simp)).trans hn2
 ·
  have:=heap_alloc_new ((w.alloc (.cells (NC nd) 72)).alloc (.cells (bcn (X.N + 1) fun q=>decide (q = at0)) 4)) (.cells (bcn (X.N + 1) fun _=>false) 4)
  rwa [show ((w.alloc (.cells (NC nd) 72)).alloc (.cells (bcn (X.N + 1) fun q=>decide (q = at0)) 4)).heap.size = w.heap.size + 1 + 1 by simp] at this
theorem times_any (X:Par) (hX:X.Ok) (x:Tr) (ia:Nat) (HF:FromOk X x ia) (nd:Nd) (hna:nd.a = ((ia:Nat):Int)) (at0:Nat) (hat:at0 <= X.N) (pr:Nat -> Prop) (w:World) (hM:MM X pr w) (gb:Nat) (hb:RB w gb (X.N + 1) fun _=>false) (hpb:pr gb) (hbase:X.w0.heap.size <= gb) :
  Calls Tryz.prog 131 #[PT X.bm,NV nd,E (at0:Nat),SL gb (X.N + 1)] w fun e w'=>e = .returned (.tuple #[]) /\ RB w' gb (X.N + 1) (timesB (endsP X.T x) nd.mn nd.mx X.N at0) /\ MM X pr w' /\ Kb X gb w w':=by
 have HS0:=Hd (ts_start nd hM hb hpb hbase hat nd.mn nd.mx (endsP X.T x));have hlen:=hX.len;have HFr:=Hd HF;have hmk:∀ W:World,(Instr.makeSlice 165 (.int .i64 ((X.N:Int) + 1)) (.int .i64 ((X.N:Int) + 1))).run Tryz.prog W = .ok (SL W.heap.size (X.N + 1)) (W.alloc (.cells (bcn (X.N + 1) fun _=>false) 4)):=fun W=>by
  have:=make_row (X.N + 1) (by omega) W
  rwa [show ((X.N + 1:Nat):Int) = (X.N:Int) + 1 from by omega] at this
 have HLE:=Hd (fun q=>now_le (E:=endsP X.T x) (mn:=nd.mn) (mx:=nd.mx) (N:=X.N) (at0:=at0) q hat);have HEND:=Hd (fun c q=>now_end (E:=endsP X.T x) (mn:=nd.mn) (mx:=nd.mx) (N:=X.N) (at0:=at0) hat (c:=c) (q:=q));have HDONE:=Hd (fun c=>seq_done (E:=endsP X.T x) (mn:=nd.mn) (mx:=nd.mx) (N:=X.N) (at0:=at0) hat c);obtain ⟨E0,hE0⟩:∃ E0,endsP X.T x = E0:=⟨_,rfl⟩;have HE0:=Hd hE0;rw [hE0] at HS0 HLE HEND HDONE ⊢;(have hat1:(at0:Int) < (X.N:Int) + 1:=by omega);(have hat2:(0:Int) <= (at0:Int):=by omega);have hnow0:=(RB.cell (n:=X.N + 1) (f:=fun _=>false) (w:=(w.alloc (.cells (NC nd) 72)).alloc (.cells (bcn (X.N + 1) fun _=>false) 4)) (b:=w.heap.size + 1) (by
  have:=heap_alloc_new (w.alloc (.cells (NC nd) 72)) (.cells (bcn (X.N + 1) fun _=>false) 4)
  rwa [show (w.alloc (.cells (NC nd) 72)).heap.size = w.heap.size + 1 by simp] at this) (i:=at0) (by omega))
 have hfz0:((w.alloc (.cells (NC nd) 72)).alloc (.cells (bcn (X.N + 1) fun _=>false) 4)).frozen? ⟨w.heap.size + 1,at0,none⟩ = false:=RB.fz (n:=X.N + 1) (f:=fun _=>false) (by
  have:=heap_alloc_new (w.alloc (.cells (NC nd) 72)) (.cells (bcn (X.N + 1) fun _=>false) 4)
  rwa [show (w.alloc (.cells (NC nd) 72)).heap.size = w.heap.size + 1 by simp] at this) at0
 clear hM hb hpb hbase hE0 HF hX;go_enter Tryz.func131,Tryz.ntmps131;go_wp2;go_loopw [8,10] (fun nv cv wr=>∃ (c gn gh:Nat),c <= X.N + 1 /\ nv = SL gn (X.N + 1) /\ cv = .int .i64 (c:Nat) /\ Hid (gh = w.heap.size + 1 + 1 /\ TS X pr w nd gb gn gh (seqT E0 nd.mn nd.mx X.N at0 c) wr)) (fun _ cv _=>X.N + 2 - (intOf cv).toNat);(case atStart=>exact ⟨0,_,_,by omega,rfl,rfl,Hd ⟨rfl,HS0.out⟩⟩);case round =>
  clear HS0 hnow0 hfz0 hat1 hat2;obtain ⟨c,gn,gh,hc,rfl,rfl,hpack⟩:=hrel;obtain ⟨hgh,hss⟩:=hpack.out;subst hgh;have HS:=Hd hss;clear hpack hss;have HC:=Hd (contains_any gn (X.N + 1) (seqT E0 nd.mn nd.mx X.N at0 c).now (by omega) wr HS.out.rn);cases hany:(List.range (X.N + 1)).any (seqT E0 nd.mn nd.mx X.N at0 c).now
  ·
   have HD:=Hd (HDONE.out c hc (fun q hq=>by
    rw [List.any_eq_false] at hany;have:=hany q (List.mem_range.2 (by omega));simpa using this))
   rw [hany] at HC;clear hany;go_wp2_with (go_at_call 153;refine HC.out.mono ?_;rintro e w2 ⟨rfl,rfl⟩);go_end0;refine ⟨rfl,?_,HS.out.mm.mono (fun k hk=>Or.inl hk),HS.out.kb⟩;rw [<- HD.out];exact HS.out.rb
  ·
   have hcN:c <= X.N:=by
    rw [List.any_eq_true] at hany;obtain ⟨q,_,hq⟩:=hany;exact HEND.out c q hq
   rw [hany] at HC;clear hany;(have hwc:IntKind.i64.wrap ((c:Int) + 1) = (c:Int) + 1:=by rw [IntKind.wrap_i64];omega);have HB:=Hd HS.out.begin;have hsw:=HS.out.kb.size;clear HS;generalize hl:seqT E0 nd.mn nd.mx X.N at0 c = l at *;have HL:=Hd hl;clear hl;go_wp2_with (go_at_call 153;refine HC.out.mono ?_;rintro e w2 ⟨rfl,rfl⟩);clear HC;generalize hgx:wr.heap.size = gx at *;go_loopw [34] (fun pv wq=>∃ (p:Nat),p <= X.N + 1 /\ pv = .int .i64 (p:Nat) /\ Hid (TI X pr w nd gb gn (w.heap.size + 1 + 1) gx l.now (inP E0 nd.mn nd.mx X.N l c p) wq)) (fun pv _=>X.N + 1 - (intOf pv).toNat);(case atStart=>exact ⟨0,by omega,rfl,HB⟩);case round =>
   clear HB;obtain ⟨p,hp,rfl,HT⟩:=hrel;by_cases hpl:p <= X.N
   ·
    (have hlt':(p:Int) < (X.N:Int) + 1:=by omega);(have hp0:(0:Int) <= (p:Int):=by omega);(have hwp:IntKind.i64.wrap ((p:Int) + 1) = (p:Int) + 1:=by rw [IntKind.wrap_i64];omega);(have hst:inP E0 nd.mn nd.mx X.N l c (p + 1) = if skips nd.mn nd.mx l.now c (inP E0 nd.mn nd.mx X.N l c p) p = true then inP E0 nd.mn nd.mx X.N l c p else workP E0 nd.mn nd.mx X.N c (inP E0 nd.mn nd.mx X.N l c p) p:=rfl);generalize inP E0 nd.mn nd.mx X.N l c p = s at *;have hcn:=HT.out.rn.cell (i:=p) (by omega);have hch:=HT.out.rh.cell (i:=p) (by omega);have hfh:=HT.out.rh.fz p;obtain ⟨n5,n7,n8⟩:=nb_cells HT.out.nb;rw [hna] at n5;cases hnow:l.now p
    ·
     skip
     rw [hnow] at hcn;have HST:=Hd (show inP E0 nd.mn nd.mx X.N l c (p + 1) = s from by rw [hst,if_pos (by unfold skips;simp [hnow])]);clear hst hnow;go_wp2;go_roundw;(case rel=>exact ⟨p + 1,by omega,by go_num,by rw [HST.out];exact HT⟩);case measure=>simp [intOf];omega
    ·
     by_cases hA:nd.mn <= (c:Int)
     ·
      by_cases hB:nd.mx = -1
      ·
       cases hhad:s.had p
       ·
        skip
        rw [hhad] at hch;rw [hnow] at hcn;(have hB1:(nd.mx == -1) = true:=by rw [beq_iff_eq];exact hB);have HST:=Hd (show inP E0 nd.mn nd.mx X.N l c (p + 1) = workP E0 nd.mn nd.mx X.N c s p from by rw [hst,if_neg (by unfold skips;simp [hnow,hA,hB,hhad])]);have hdA:decide (nd.mn <= (c:Int)) = true:=decide_eq_true hA;(have hcm:(decide (nd.mx = -1) || decide ((c:Int) < nd.mx)) = true:=by simp [hB]);clear hst hnow hhad;have HT1:=Hd (HT.out.had (p:=p) (f:=fun q=>s.had q || (decide (nd.mn <= (c:Int)) && decide (q = p))) (fun i hi=>by
         rw [hdA];by_cases e:i = p
         · rw [if_pos e,decide_eq_true e];simp
         · rw [if_neg e,decide_eq_false e];simp))
        obtain ⟨m5,m7,m8⟩:=nb_cells HT1.out.nb;rw [hna] at m5;have HF1:=Hd (HFr.out _ p _ hpl HT1.out.mm);rw [HE0.out] at HF1;have HW:=Hd (show workP E0 nd.mn nd.mx X.N c s p = ⟨fun q=>s.had q || (decide (nd.mn <= (c:Int)) && decide (q = p)),fun q=>if q = p then s.b p || true || E0 p p else s.b q,nxK E0 true s p (X.N + 1)⟩ from by
         unfold workP nxK;rw [hcm,hdA]
         congr 1
         funext q
         congr 3
         rw [show decide (q <= X.N) = decide (q < X.N + 1) from by rw [Bool.eq_iff_iff,decide_eq_true_eq,decide_eq_true_eq];omega])
        clear hdA hcm;cases hbp:s.b p
        ·
         skip
         go_wp2_with (go_at_call 102;refine HF1.out.mono ?_;rintro e w2 ⟨g,rfl,hg,hng,hm,hk⟩;have HT2:=Hd (HT1.out.call hm hk);have HG:=Hd hg;have HNG:=Hd hng;clear hm hk hng hg;obtain ⟨o5,o7,o8⟩:=nb_cells HT2.out.nb;have hcb2:=HT2.out.rb.cell (i:=p) (by omega);have hfb2:=HT2.out.rb.fz p;(try dsimp only at hcb2);rw [hbp] at hcb2;have hce:=HG.out.cell (i:=p) (by omega));have HT3:=Hd (HT2.out.setb (p:=p) (v:=true) (f:=fun q=>if q = p then s.b p || true || E0 p p else s.b q) (fun i hi=>by
          by_cases e:i = p
          · rw [if_pos e,if_pos e];simp [hbp]
          · rw [if_neg e,if_neg e]))
         (have hgg:g ≠ gb:=fun q=>HNG.out (Or.inl (q ▸ HT2.out.pb)));have HG3:=Hd (rb_far HG.out hgg p (.bool true));have HGX:=Hd (pv_not HNG.out).2.2;clear HT1 HT2 HG HNG hgg HF1 m5 m7 m8 o5 o7 o8 hcb2 hfb2 hce HT n5 n7 n8 hcn hch hfh hbp;go_loopw [15] (fun kv wk=>∃ (k:Nat),p < k /\ k <= X.N + 1 /\ kv = .int .i64 (k:Nat) /\ Hid (TI X pr w nd gb gn (w.heap.size + 1 + 1) gx l.now ⟨fun q=>s.had q || (decide (nd.mn <= (c:Int)) && decide (q = p)),fun q=>if q = p then s.b p || true || E0 p p else s.b q,nxK E0 true s p k⟩ wk) /\ Hid (RB wk g (X.N + 1) (E0 p))) (fun kv _=>X.N + 1 - (intOf kv).toNat);(case atStart=>exact ⟨p + 1,by omega,by omega,by go_num,Hd (HT3.out.congr (s':=⟨fun q=>s.had q || (decide (nd.mn <= (c:Int)) && decide (q = p)),fun q=>if q = p then s.b p || true || E0 p p else s.b q,nxK E0 true s p (p + 1)⟩) (fun _ _=>rfl) (fun _ _=>rfl) (fun i _=>nxK_zero E0 true s p i)),HG3⟩);case round =>
          clear HT3 HG3;obtain ⟨k,hpk,hk,rfl,HK,HG⟩:=hrel;obtain ⟨n5,n7,n8⟩:=nb_cells HK.out.nb;by_cases hkl:k <= X.N
          ·
           (have hlk:(k:Int) < (X.N:Int) + 1:=by omega);(have hk0:(0:Int) <= (k:Int):=by omega);(have hwk:IntKind.i64.wrap ((k:Int) + 1) = (k:Int) + 1:=by rw [IntKind.wrap_i64];omega);have hcx:=HK.out.rx.cell (i:=k) (by omega);have hfx:=HK.out.rx.fz k;have hcg:=HG.out.cell (i:=k) (by omega);(try dsimp only at hcx);cases hnk:nxK E0 true s p k k
           ·
            cases hek:E0 p k
            · rw [hnk] at hcx;rw [hek] at hcg;have HK2:=Hd (HK.out.setx (p:=k) (v:=false) (f:=nxK E0 true s p (k + 1)) (fun i _=>nxK_next hpk false (by rw [hnk];rw [hek];rfl) i));have HG2:=Hd (rb_far HG.out HGX.out k (.bool false));clear hnk HK HG;go_wp2;go_roundw;(case rel=>exact ⟨k + 1,by omega,by omega,by go_num,HK2,HG2⟩);case measure=>simp [intOf];omega
            · rw [hnk] at hcx;rw [hek] at hcg;have HK2:=Hd (HK.out.setx (p:=k) (v:=true) (f:=nxK E0 true s p (k + 1)) (fun i _=>nxK_next hpk true (by rw [hnk];rw [hek];rfl) i));have HG2:=Hd (rb_far HG.out HGX.out k (.bool true));clear hnk HK HG;go_wp2;go_roundw;(case rel=>exact ⟨k + 1,by omega,by omega,by go_num,HK2,HG2⟩);case measure=>simp [intOf];omega
           · rw [hnk] at hcx;have HK2:=Hd (HK.out.setx (p:=k) (v:=true) (f:=nxK E0 true s p (k + 1)) (fun i _=>nxK_next hpk true (by rw [hnk];rfl) i));have HG2:=Hd (rb_far HG.out HGX.out k (.bool true));clear hnk HK HG;go_wp2;go_roundw;(case rel=>exact ⟨k + 1,by omega,by omega,by go_num,HK2,HG2⟩);case measure=>simp [intOf];omega
          ·
           (obtain rfl:k = X.N + 1:=by omega);have HT9:=Hd (show TI X pr w nd gb gn (w.heap.size + 1 + 1) gx l.now (inP E0 nd.mn nd.mx X.N l c (p + 1)) _ from by
            rw [HST.out,HW.out];exact HK.out)
           (have hlk:¬ (X.N:Int) + 1 < (X.N:Int) + 1:=by omega);go_wp2;go_roundw;(case rel=>exact ⟨p + 1,by omega,by go_num,HT9⟩);case measure=>simp [intOf];omega
        ·
         skip
         go_wp2_with (go_at_call 102;refine HF1.out.mono ?_;rintro e w2 ⟨g,rfl,hg,hng,hm,hk⟩;have HT2:=Hd (HT1.out.call hm hk);have HG:=Hd hg;have HNG:=Hd hng;clear hm hk hng hg;obtain ⟨o5,o7,o8⟩:=nb_cells HT2.out.nb;have hcb2:=HT2.out.rb.cell (i:=p) (by omega);have hfb2:=HT2.out.rb.fz p;(try dsimp only at hcb2);rw [hbp] at hcb2;have hce:=HG.out.cell (i:=p) (by omega));have HT3:=Hd (HT2.out.setb (p:=p) (v:=true) (f:=fun q=>if q = p then s.b p || true || E0 p p else s.b q) (fun i hi=>by
          by_cases e:i = p
          · rw [if_pos e,if_pos e];simp [hbp]
          · rw [if_neg e,if_neg e]))
         (have hgg:g ≠ gb:=fun q=>HNG.out (Or.inl (q ▸ HT2.out.pb)));have HG3:=Hd (rb_far HG.out hgg p (.bool true));have HGX:=Hd (pv_not HNG.out).2.2;clear HT1 HT2 HG HNG hgg HF1 m5 m7 m8 o5 o7 o8 hcb2 hfb2 hce HT n5 n7 n8 hcn hch hfh hbp;go_loopw [15] (fun kv wk=>∃ (k:Nat),p < k /\ k <= X.N + 1 /\ kv = .int .i64 (k:Nat) /\ Hid (TI X pr w nd gb gn (w.heap.size + 1 + 1) gx l.now ⟨fun q=>s.had q || (decide (nd.mn <= (c:Int)) && decide (q = p)),fun q=>if q = p then s.b p || true || E0 p p else s.b q,nxK E0 true s p k⟩ wk) /\ Hid (RB wk g (X.N + 1) (E0 p))) (fun kv _=>X.N + 1 - (intOf kv).toNat);(case atStart=>exact ⟨p + 1,by omega,by omega,by go_num,Hd (HT3.out.congr (s':=⟨fun q=>s.had q || (decide (nd.mn <= (c:Int)) && decide (q = p)),fun q=>if q = p then s.b p || true || E0 p p else s.b q,nxK E0 true s p (p + 1)⟩) (fun _ _=>rfl) (fun _ _=>rfl) (fun i _=>nxK_zero E0 true s p i)),HG3⟩);case round =>
          clear HT3 HG3;obtain ⟨k,hpk,hk,rfl,HK,HG⟩:=hrel;obtain ⟨n5,n7,n8⟩:=nb_cells HK.out.nb;by_cases hkl:k <= X.N
          ·
           (have hlk:(k:Int) < (X.N:Int) + 1:=by omega);(have hk0:(0:Int) <= (k:Int):=by omega);(have hwk:IntKind.i64.wrap ((k:Int) + 1) = (k:Int) + 1:=by rw [IntKind.wrap_i64];omega);have hcx:=HK.out.rx.cell (i:=k) (by omega);have hfx:=HK.out.rx.fz k;have hcg:=HG.out.cell (i:=k) (by omega);(try dsimp only at hcx);cases hnk:nxK E0 true s p k k
           ·
            cases hek:E0 p k
            · rw [hnk] at hcx;rw [hek] at hcg;have HK2:=Hd (HK.out.setx (p:=k) (v:=false) (f:=nxK E0 true s p (k + 1)) (fun i _=>nxK_next hpk false (by rw [hnk];rw [hek];rfl) i));have HG2:=Hd (rb_far HG.out HGX.out k (.bool false));clear hnk HK HG;go_wp2;go_roundw;(case rel=>exact ⟨k + 1,by omega,by omega,by go_num,HK2,HG2⟩);case measure=>simp [intOf];omega
            · rw [hnk] at hcx;rw [hek] at hcg;have HK2:=Hd (HK.out.setx (p:=k) (v:=true) (f:=nxK E0 true s p (k + 1)) (fun i _=>nxK_next hpk true (by rw [hnk];rw [hek];rfl) i));have HG2:=Hd (rb_far HG.out HGX.out k (.bool true));clear hnk HK HG;go_wp2;go_roundw;(case rel=>exact ⟨k + 1,by omega,by omega,by go_num,HK2,HG2⟩);case measure=>simp [intOf];omega
           · rw [hnk] at hcx;have HK2:=Hd (HK.out.setx (p:=k) (v:=true) (f:=nxK E0 true s p (k + 1)) (fun i _=>nxK_next hpk true (by rw [hnk];rfl) i));have HG2:=Hd (rb_far HG.out HGX.out k (.bool true));clear hnk HK HG;go_wp2;go_roundw;(case rel=>exact ⟨k + 1,by omega,by omega,by go_num,HK2,HG2⟩);case measure=>simp [intOf];omega
          ·
           (obtain rfl:k = X.N + 1:=by omega);have HT9:=Hd (show TI X pr w nd gb gn (w.heap.size + 1 + 1) gx l.now (inP E0 nd.mn nd.mx X.N l c (p + 1)) _ from by
            rw [HST.out,HW.out];exact HK.out)
           (have hlk:¬ (X.N:Int) + 1 < (X.N:Int) + 1:=by omega);go_wp2;go_roundw;(case rel=>exact ⟨p + 1,by omega,by go_num,HT9⟩);case measure=>simp [intOf];omega
       · rw [hhad] at hch;(have hB1:(nd.mx == -1) = true:=by rw [beq_iff_eq];exact hB);rw [hnow] at hcn;have HST:=Hd (show inP E0 nd.mn nd.mx X.N l c (p + 1) = s from by rw [hst,if_pos (by unfold skips;simp [hnow,hA,hB,hhad])]);clear hst hnow hhad;go_wp2;go_roundw;(case rel=>exact ⟨p + 1,by omega,by go_num,by rw [HST.out];exact HT⟩);case measure=>simp [intOf];omega
      ·
       by_cases hC:(c:Int) < nd.mx
       ·
        skip
        rw [hnow] at hcn;(have hB1:(nd.mx == -1) = false:=by rw [beq_eq_false_iff_ne];exact hB);have HST:=Hd (show inP E0 nd.mn nd.mx X.N l c (p + 1) = workP E0 nd.mn nd.mx X.N c s p from by rw [hst,if_neg (by unfold skips;simp [hnow,hA,hB])]);have hdA:decide (nd.mn <= (c:Int)) = true:=decide_eq_true hA;(have hcm:(decide (nd.mx = -1) || decide ((c:Int) < nd.mx)) = true:=by simp [hB,hC]);clear hst hnow;have HT1:=Hd (HT.out.had (p:=p) (f:=fun q=>s.had q || (decide (nd.mn <= (c:Int)) && decide (q = p))) (fun i hi=>by
         rw [hdA];by_cases e:i = p
         · rw [if_pos e,decide_eq_true e];simp
         · rw [if_neg e,decide_eq_false e];simp))
        obtain ⟨m5,m7,m8⟩:=nb_cells HT1.out.nb;rw [hna] at m5;have HF1:=Hd (HFr.out _ p _ hpl HT1.out.mm);rw [HE0.out] at HF1;have HW:=Hd (show workP E0 nd.mn nd.mx X.N c s p = ⟨fun q=>s.had q || (decide (nd.mn <= (c:Int)) && decide (q = p)),fun q=>if q = p then s.b p || true || E0 p p else s.b q,nxK E0 true s p (X.N + 1)⟩ from by
         unfold workP nxK;rw [hcm,hdA]
         congr 1
         funext q
         congr 3
         rw [show decide (q <= X.N) = decide (q < X.N + 1) from by rw [Bool.eq_iff_iff,decide_eq_true_eq,decide_eq_true_eq];omega])
        clear hdA hcm;cases hbp:s.b p
        ·
         skip
         go_wp2_with (go_at_call 102;refine HF1.out.mono ?_;rintro e w2 ⟨g,rfl,hg,hng,hm,hk⟩;have HT2:=Hd (HT1.out.call hm hk);have HG:=Hd hg;have HNG:=Hd hng;clear hm hk hng hg;obtain ⟨o5,o7,o8⟩:=nb_cells HT2.out.nb;have hcb2:=HT2.out.rb.cell (i:=p) (by omega);have hfb2:=HT2.out.rb.fz p;(try dsimp only at hcb2);rw [hbp] at hcb2;have hce:=HG.out.cell (i:=p) (by omega));have HT3:=Hd (HT2.out.setb (p:=p) (v:=true) (f:=fun q=>if q = p then s.b p || true || E0 p p else s.b q) (fun i hi=>by
          by_cases e:i = p
          · rw [if_pos e,if_pos e];simp [hbp]
          · rw [if_neg e,if_neg e]))
         (have hgg:g ≠ gb:=fun q=>HNG.out (Or.inl (q ▸ HT2.out.pb)));have HG3:=Hd (rb_far HG.out hgg p (.bool true));have HGX:=Hd (pv_not HNG.out).2.2;clear HT1 HT2 HG HNG hgg HF1 m5 m7 m8 o5 o7 o8 hcb2 hfb2 hce HT n5 n7 n8 hcn hch hfh hbp;go_loopw [15] (fun kv wk=>∃ (k:Nat),p < k /\ k <= X.N + 1 /\ kv = .int .i64 (k:Nat) /\ Hid (TI X pr w nd gb gn (w.heap.size + 1 + 1) gx l.now ⟨fun q=>s.had q || (decide (nd.mn <= (c:Int)) && decide (q = p)),fun q=>if q = p then s.b p || true || E0 p p else s.b q,nxK E0 true s p k⟩ wk) /\ Hid (RB wk g (X.N + 1) (E0 p))) (fun kv _=>X.N + 1 - (intOf kv).toNat);(case atStart=>exact ⟨p + 1,by omega,by omega,by go_num,Hd (HT3.out.congr (s':=⟨fun q=>s.had q || (decide (nd.mn <= (c:Int)) && decide (q = p)),fun q=>if q = p then s.b p || true || E0 p p else s.b q,nxK E0 true s p (p + 1)⟩) (fun _ _=>rfl) (fun _ _=>rfl) (fun i _=>nxK_zero E0 true s p i)),HG3⟩);case round =>
          clear HT3 HG3;obtain ⟨k,hpk,hk,rfl,HK,HG⟩:=hrel;obtain ⟨n5,n7,n8⟩:=nb_cells HK.out.nb;by_cases hkl:k <= X.N
          ·
           (have hlk:(k:Int) < (X.N:Int) + 1:=by omega);(have hk0:(0:Int) <= (k:Int):=by omega);(have hwk:IntKind.i64.wrap ((k:Int) + 1) = (k:Int) + 1:=by rw [IntKind.wrap_i64];omega);have hcx:=HK.out.rx.cell (i:=k) (by omega);have hfx:=HK.out.rx.fz k;have hcg:=HG.out.cell (i:=k) (by omega);(try dsimp only at hcx);cases hnk:nxK E0 true s p k k
           ·
            cases hek:E0 p k
            · rw [hnk] at hcx;rw [hek] at hcg;have HK2:=Hd (HK.out.setx (p:=k) (v:=false) (f:=nxK E0 true s p (k + 1)) (fun i _=>nxK_next hpk false (by rw [hnk];rw [hek];rfl) i));have HG2:=Hd (rb_far HG.out HGX.out k (.bool false));clear hnk HK HG;go_wp2;go_roundw;(case rel=>exact ⟨k + 1,by omega,by omega,by go_num,HK2,HG2⟩);case measure=>simp [intOf];omega
            · rw [hnk] at hcx;rw [hek] at hcg;have HK2:=Hd (HK.out.setx (p:=k) (v:=true) (f:=nxK E0 true s p (k + 1)) (fun i _=>nxK_next hpk true (by rw [hnk];rw [hek];rfl) i));have HG2:=Hd (rb_far HG.out HGX.out k (.bool true));clear hnk HK HG;go_wp2;go_roundw;(case rel=>exact ⟨k + 1,by omega,by omega,by go_num,HK2,HG2⟩);case measure=>simp [intOf];omega
           · rw [hnk] at hcx;have HK2:=Hd (HK.out.setx (p:=k) (v:=true) (f:=nxK E0 true s p (k + 1)) (fun i _=>nxK_next hpk true (by rw [hnk];rfl) i));have HG2:=Hd (rb_far HG.out HGX.out k (.bool true));clear hnk HK HG;go_wp2;go_roundw;(case rel=>exact ⟨k + 1,by omega,by omega,by go_num,HK2,HG2⟩);case measure=>simp [intOf];omega
          ·
           (obtain rfl:k = X.N + 1:=by omega);have HT9:=Hd (show TI X pr w nd gb gn (w.heap.size + 1 + 1) gx l.now (inP E0 nd.mn nd.mx X.N l c (p + 1)) _ from by
            rw [HST.out,HW.out];exact HK.out)
           (have hlk:¬ (X.N:Int) + 1 < (X.N:Int) + 1:=by omega);go_wp2;go_roundw;(case rel=>exact ⟨p + 1,by omega,by go_num,HT9⟩);case measure=>simp [intOf];omega
        ·
         skip
         go_wp2_with (go_at_call 102;refine HF1.out.mono ?_;rintro e w2 ⟨g,rfl,hg,hng,hm,hk⟩;have HT2:=Hd (HT1.out.call hm hk);have HG:=Hd hg;have HNG:=Hd hng;clear hm hk hng hg;obtain ⟨o5,o7,o8⟩:=nb_cells HT2.out.nb;have hcb2:=HT2.out.rb.cell (i:=p) (by omega);have hfb2:=HT2.out.rb.fz p;(try dsimp only at hcb2);rw [hbp] at hcb2;have hce:=HG.out.cell (i:=p) (by omega));have HT3:=Hd (HT2.out.setb (p:=p) (v:=true) (f:=fun q=>if q = p then s.b p || true || E0 p p else s.b q) (fun i hi=>by
          by_cases e:i = p
          · rw [if_pos e,if_pos e];simp [hbp]
          · rw [if_neg e,if_neg e]))
         (have hgg:g ≠ gb:=fun q=>HNG.out (Or.inl (q ▸ HT2.out.pb)));have HG3:=Hd (rb_far HG.out hgg p (.bool true));have HGX:=Hd (pv_not HNG.out).2.2;clear HT1 HT2 HG HNG hgg HF1 m5 m7 m8 o5 o7 o8 hcb2 hfb2 hce HT n5 n7 n8 hcn hch hfh hbp;go_loopw [15] (fun kv wk=>∃ (k:Nat),p < k /\ k <= X.N + 1 /\ kv = .int .i64 (k:Nat) /\ Hid (TI X pr w nd gb gn (w.heap.size + 1 + 1) gx l.now ⟨fun q=>s.had q || (decide (nd.mn <= (c:Int)) && decide (q = p)),fun q=>if q = p then s.b p || true || E0 p p else s.b q,nxK E0 true s p k⟩ wk) /\ Hid (RB wk g (X.N + 1) (E0 p))) (fun kv _=>X.N + 1 - (intOf kv).toNat);(case atStart=>exact ⟨p + 1,by omega,by omega,by go_num,Hd (HT3.out.congr (s':=⟨fun q=>s.had q || (decide (nd.mn <= (c:Int)) && decide (q = p)),fun q=>if q = p then s.b p || true || E0 p p else s.b q,nxK E0 true s p (p + 1)⟩) (fun _ _=>rfl) (fun _ _=>rfl) (fun i _=>nxK_zero E0 true s p i)),HG3⟩);case round =>
          clear HT3 HG3;obtain ⟨k,hpk,hk,rfl,HK,HG⟩:=hrel;obtain ⟨n5,n7,n8⟩:=nb_cells HK.out.nb;by_cases hkl:k <= X.N
          ·
           (have hlk:(k:Int) < (X.N:Int) + 1:=by omega);(have hk0:(0:Int) <= (k:Int):=by omega);(have hwk:IntKind.i64.wrap ((k:Int) + 1) = (k:Int) + 1:=by rw [IntKind.wrap_i64];omega);have hcx:=HK.out.rx.cell (i:=k) (by omega);have hfx:=HK.out.rx.fz k;have hcg:=HG.out.cell (i:=k) (by omega);(try dsimp only at hcx);cases hnk:nxK E0 true s p k k
           ·
            cases hek:E0 p k
            · rw [hnk] at hcx;rw [hek] at hcg;have HK2:=Hd (HK.out.setx (p:=k) (v:=false) (f:=nxK E0 true s p (k + 1)) (fun i _=>nxK_next hpk false (by rw [hnk];rw [hek];rfl) i));have HG2:=Hd (rb_far HG.out HGX.out k (.bool false));clear hnk HK HG;go_wp2;go_roundw;(case rel=>exact ⟨k + 1,by omega,by omega,by go_num,HK2,HG2⟩);case measure=>simp [intOf];omega
            · rw [hnk] at hcx;rw [hek] at hcg;have HK2:=Hd (HK.out.setx (p:=k) (v:=true) (f:=nxK E0 true s p (k + 1)) (fun i _=>nxK_next hpk true (by rw [hnk];rw [hek];rfl) i));have HG2:=Hd (rb_far HG.out HGX.out k (.bool true));clear hnk HK HG;go_wp2;go_roundw;(case rel=>exact ⟨k + 1,by omega,by omega,by go_num,HK2,HG2⟩);case measure=>simp [intOf];omega
           · rw [hnk] at hcx;have HK2:=Hd (HK.out.setx (p:=k) (v:=true) (f:=nxK E0 true s p (k + 1)) (fun i _=>nxK_next hpk true (by rw [hnk];rfl) i));have HG2:=Hd (rb_far HG.out HGX.out k (.bool true));clear hnk HK HG;go_wp2;go_roundw;(case rel=>exact ⟨k + 1,by omega,by omega,by go_num,HK2,HG2⟩);case measure=>simp [intOf];omega
          ·
           (obtain rfl:k = X.N + 1:=by omega);have HT9:=Hd (show TI X pr w nd gb gn (w.heap.size + 1 + 1) gx l.now (inP E0 nd.mn nd.mx X.N l c (p + 1)) _ from by
            rw [HST.out,HW.out];exact HK.out)
           (have hlk:¬ (X.N:Int) + 1 < (X.N:Int) + 1:=by omega);go_wp2;go_roundw;(case rel=>exact ⟨p + 1,by omega,by go_num,HT9⟩);case measure=>simp [intOf];omega
       ·
        skip
        rw [hnow] at hcn;(have hB1:(nd.mx == -1) = false:=by rw [beq_eq_false_iff_ne];exact hB);have HST:=Hd (show inP E0 nd.mn nd.mx X.N l c (p + 1) = workP E0 nd.mn nd.mx X.N c s p from by rw [hst,if_neg (by unfold skips;simp [hnow,hA,hB])]);have hdA:decide (nd.mn <= (c:Int)) = true:=decide_eq_true hA;(have hcm:(decide (nd.mx = -1) || decide ((c:Int) < nd.mx)) = false:=by simp [hB,hC]);clear hst hnow;have HT1:=Hd (HT.out.had (p:=p) (f:=fun q=>s.had q || (decide (nd.mn <= (c:Int)) && decide (q = p))) (fun i hi=>by
         rw [hdA];by_cases e:i = p
         · rw [if_pos e,decide_eq_true e];simp
         · rw [if_neg e,decide_eq_false e];simp))
        obtain ⟨m5,m7,m8⟩:=nb_cells HT1.out.nb;rw [hna] at m5;have HF1:=Hd (HFr.out _ p _ hpl HT1.out.mm);rw [HE0.out] at HF1;have HW:=Hd (show workP E0 nd.mn nd.mx X.N c s p = ⟨fun q=>s.had q || (decide (nd.mn <= (c:Int)) && decide (q = p)),fun q=>if q = p then s.b p || true || E0 p p else s.b q,nxK E0 false s p (X.N + 1)⟩ from by
         unfold workP nxK;rw [hcm,hdA]
         congr 1
         funext q
         congr 3
         rw [show decide (q <= X.N) = decide (q < X.N + 1) from by rw [Bool.eq_iff_iff,decide_eq_true_eq,decide_eq_true_eq];omega])
        clear hdA hcm;cases hbp:s.b p
        ·
         skip
         go_wp2_with (go_at_call 102;refine HF1.out.mono ?_;rintro e w2 ⟨g,rfl,hg,hng,hm,hk⟩;have HT2:=Hd (HT1.out.call hm hk);have HG:=Hd hg;have HNG:=Hd hng;clear hm hk hng hg;obtain ⟨o5,o7,o8⟩:=nb_cells HT2.out.nb;have hcb2:=HT2.out.rb.cell (i:=p) (by omega);have hfb2:=HT2.out.rb.fz p;(try dsimp only at hcb2);rw [hbp] at hcb2;have hce:=HG.out.cell (i:=p) (by omega));have HT3:=Hd (HT2.out.setb (p:=p) (v:=true) (f:=fun q=>if q = p then s.b p || true || E0 p p else s.b q) (fun i hi=>by
          by_cases e:i = p
          · rw [if_pos e,if_pos e];simp [hbp]
          · rw [if_neg e,if_neg e]))
         (have hgg:g ≠ gb:=fun q=>HNG.out (Or.inl (q ▸ HT2.out.pb)));have HG3:=Hd (rb_far HG.out hgg p (.bool true));have HGX:=Hd (pv_not HNG.out).2.2;clear HT1 HT2 HG HNG hgg HF1 m5 m7 m8 o5 o7 o8 hcb2 hfb2 hce HT n5 n7 n8 hcn hch hfh hbp;go_loopw [15] (fun kv wk=>∃ (k:Nat),p < k /\ k <= X.N + 1 /\ kv = .int .i64 (k:Nat) /\ Hid (TI X pr w nd gb gn (w.heap.size + 1 + 1) gx l.now ⟨fun q=>s.had q || (decide (nd.mn <= (c:Int)) && decide (q = p)),fun q=>if q = p then s.b p || true || E0 p p else s.b q,nxK E0 false s p k⟩ wk) /\ Hid (RB wk g (X.N + 1) (E0 p))) (fun kv _=>X.N + 1 - (intOf kv).toNat);(case atStart=>exact ⟨p + 1,by omega,by omega,by go_num,Hd (HT3.out.congr (s':=⟨fun q=>s.had q || (decide (nd.mn <= (c:Int)) && decide (q = p)),fun q=>if q = p then s.b p || true || E0 p p else s.b q,nxK E0 false s p (p + 1)⟩) (fun _ _=>rfl) (fun _ _=>rfl) (fun i _=>nxK_zero E0 false s p i)),HG3⟩);case round =>
          clear HT3 HG3;obtain ⟨k,hpk,hk,rfl,HK,HG⟩:=hrel;obtain ⟨n5,n7,n8⟩:=nb_cells HK.out.nb;have HT9:=Hd (show TI X pr w nd gb gn (w.heap.size + 1 + 1) gx l.now (inP E0 nd.mn nd.mx X.N l c (p + 1)) _ from by
           rw [HST.out,HW.out];refine HK.out.congr (fun _ _=>rfl) (fun _ _=>rfl) (fun i hi=>?_);show nxK E0 false s p (X.N + 1) i = nxK E0 false s p k i;unfold nxK;simp)
          by_cases hkl:k <= X.N
          · (have hlk:(k:Int) < (X.N:Int) + 1:=by omega);go_wp2;go_roundw;(case rel=>exact ⟨p + 1,by omega,by go_num,HT9⟩);case measure=>simp [intOf];omega
          · (have hlk:¬ (k:Int) < (X.N:Int) + 1:=by omega);go_wp2;go_roundw;(case rel=>exact ⟨p + 1,by omega,by go_num,HT9⟩);case measure=>simp [intOf];omega
        ·
         skip
         go_wp2_with (go_at_call 102;refine HF1.out.mono ?_;rintro e w2 ⟨g,rfl,hg,hng,hm,hk⟩;have HT2:=Hd (HT1.out.call hm hk);have HG:=Hd hg;have HNG:=Hd hng;clear hm hk hng hg;obtain ⟨o5,o7,o8⟩:=nb_cells HT2.out.nb;have hcb2:=HT2.out.rb.cell (i:=p) (by omega);have hfb2:=HT2.out.rb.fz p;(try dsimp only at hcb2);rw [hbp] at hcb2;have hce:=HG.out.cell (i:=p) (by omega));have HT3:=Hd (HT2.out.setb (p:=p) (v:=true) (f:=fun q=>if q = p then s.b p || true || E0 p p else s.b q) (fun i hi=>by
          by_cases e:i = p
          · rw [if_pos e,if_pos e];simp [hbp]
          · rw [if_neg e,if_neg e]))
         (have hgg:g ≠ gb:=fun q=>HNG.out (Or.inl (q ▸ HT2.out.pb)));have HG3:=Hd (rb_far HG.out hgg p (.bool true));have HGX:=Hd (pv_not HNG.out).2.2;clear HT1 HT2 HG HNG hgg HF1 m5 m7 m8 o5 o7 o8 hcb2 hfb2 hce HT n5 n7 n8 hcn hch hfh hbp;go_loopw [15] (fun kv wk=>∃ (k:Nat),p < k /\ k <= X.N + 1 /\ kv = .int .i64 (k:Nat) /\ Hid (TI X pr w nd gb gn (w.heap.size + 1 + 1) gx l.now ⟨fun q=>s.had q || (decide (nd.mn <= (c:Int)) && decide (q = p)),fun q=>if q = p then s.b p || true || E0 p p else s.b q,nxK E0 false s p k⟩ wk) /\ Hid (RB wk g (X.N + 1) (E0 p))) (fun kv _=>X.N + 1 - (intOf kv).toNat);(case atStart=>exact ⟨p + 1,by omega,by omega,by go_num,Hd (HT3.out.congr (s':=⟨fun q=>s.had q || (decide (nd.mn <= (c:Int)) && decide (q = p)),fun q=>if q = p then s.b p || true || E0 p p else s.b q,nxK E0 false s p (p + 1)⟩) (fun _ _=>rfl) (fun _ _=>rfl) (fun i _=>nxK_zero E0 false s p i)),HG3⟩);case round =>
          clear HT3 HG3;obtain ⟨k,hpk,hk,rfl,HK,HG⟩:=hrel;obtain ⟨n5,n7,n8⟩:=nb_cells HK.out.nb;have HT9:=Hd (show TI X pr w nd gb gn (w.heap.size + 1 + 1) gx l.now (inP E0 nd.mn nd.mx X.N l c (p + 1)) _ from by
           rw [HST.out,HW.out];refine HK.out.congr (fun _ _=>rfl) (fun _ _=>rfl) (fun i hi=>?_);show nxK E0 false s p (X.N + 1) i = nxK E0 false s p k i;unfold nxK;simp)
          by_cases hkl:k <= X.N
          · (have hlk:(k:Int) < (X.N:Int) + 1:=by omega);go_wp2;go_roundw;(case rel=>exact ⟨p + 1,by omega,by go_num,HT9⟩);case measure=>simp [intOf];omega
          · (have hlk:¬ (k:Int) < (X.N:Int) + 1:=by omega);go_wp2;go_roundw;(case rel=>exact ⟨p + 1,by omega,by go_num,HT9⟩);case measure=>simp [intOf];omega
     ·
      by_cases hB:nd.mx = -1
      ·
       skip
       rw [hnow] at hcn;(have hB1:(nd.mx == -1) = true:=by rw [beq_iff_eq];exact hB);have HST:=Hd (show inP E0 nd.mn nd.mx X.N l c (p + 1) = workP E0 nd.mn nd.mx X.N c s p from by rw [hst,if_neg (by unfold skips;simp [hnow,hA,hB])]);have hdA:decide (nd.mn <= (c:Int)) = false:=decide_eq_false hA;(have hcm:(decide (nd.mx = -1) || decide ((c:Int) < nd.mx)) = true:=by simp [hB]);clear hst hnow;have HT1:=Hd (HT.out.congr (s':=⟨fun q=>s.had q || (decide (nd.mn <= (c:Int)) && decide (q = p)),s.b,s.next⟩) (fun i hi=>by show (s.had i || _) = _;rw [hdA];simp) (fun _ _=>rfl) (fun _ _=>rfl));obtain ⟨m5,m7,m8⟩:=nb_cells HT1.out.nb;rw [hna] at m5;have HF1:=Hd (HFr.out _ p _ hpl HT1.out.mm);rw [HE0.out] at HF1;have HW:=Hd (show workP E0 nd.mn nd.mx X.N c s p = ⟨fun q=>s.had q || (decide (nd.mn <= (c:Int)) && decide (q = p)),fun q=>if q = p then s.b p || false || E0 p p else s.b q,nxK E0 true s p (X.N + 1)⟩ from by
        unfold workP nxK;rw [hcm,hdA]
        congr 1
        funext q
        congr 3
        rw [show decide (q <= X.N) = decide (q < X.N + 1) from by rw [Bool.eq_iff_iff,decide_eq_true_eq,decide_eq_true_eq];omega])
       clear hdA hcm;cases hbp:s.b p
       ·
        cases hee:E0 p p
        ·
         skip
         go_wp2_with (go_at_call 102;refine HF1.out.mono ?_;rintro e w2 ⟨g,rfl,hg,hng,hm,hk⟩;have HT2:=Hd (HT1.out.call hm hk);have HG:=Hd hg;have HNG:=Hd hng;clear hm hk hng hg;obtain ⟨o5,o7,o8⟩:=nb_cells HT2.out.nb;have hcb2:=HT2.out.rb.cell (i:=p) (by omega);have hfb2:=HT2.out.rb.fz p;(try dsimp only at hcb2);rw [hbp] at hcb2;have hce:=HG.out.cell (i:=p) (by omega);rw [hee] at hce);have HT3:=Hd (HT2.out.setb (p:=p) (v:=(decide (nd.mn <= (c:Int)))) (f:=fun q=>if q = p then s.b p || false || E0 p p else s.b q) (fun i hi=>by
          by_cases e:i = p
          · rw [if_pos e,if_pos e];simp [hbp,hee,hA]
          · rw [if_neg e,if_neg e]))
         (have hgg:g ≠ gb:=fun q=>HNG.out (Or.inl (q ▸ HT2.out.pb)));have HG3:=Hd (rb_far HG.out hgg p (.bool (decide (nd.mn <= (c:Int)))));have HGX:=Hd (pv_not HNG.out).2.2;clear HT1 HT2 HG HNG hgg HF1 m5 m7 m8 o5 o7 o8 hcb2 hfb2 hce HT n5 n7 n8 hcn hch hfh hbp hee;go_loopw [15] (fun kv wk=>∃ (k:Nat),p < k /\ k <= X.N + 1 /\ kv = .int .i64 (k:Nat) /\ Hid (TI X pr w nd gb gn (w.heap.size + 1 + 1) gx l.now ⟨fun q=>s.had q || (decide (nd.mn <= (c:Int)) && decide (q = p)),fun q=>if q = p then s.b p || false || E0 p p else s.b q,nxK E0 true s p k⟩ wk) /\ Hid (RB wk g (X.N + 1) (E0 p))) (fun kv _=>X.N + 1 - (intOf kv).toNat);(case atStart=>exact ⟨p + 1,by omega,by omega,by go_num,Hd (HT3.out.congr (s':=⟨fun q=>s.had q || (decide (nd.mn <= (c:Int)) && decide (q = p)),fun q=>if q = p then s.b p || false || E0 p p else s.b q,nxK E0 true s p (p + 1)⟩) (fun _ _=>rfl) (fun _ _=>rfl) (fun i _=>nxK_zero E0 true s p i)),HG3⟩);case round =>
          clear HT3 HG3;obtain ⟨k,hpk,hk,rfl,HK,HG⟩:=hrel;obtain ⟨n5,n7,n8⟩:=nb_cells HK.out.nb;by_cases hkl:k <= X.N
          ·
           (have hlk:(k:Int) < (X.N:Int) + 1:=by omega);(have hk0:(0:Int) <= (k:Int):=by omega);(have hwk:IntKind.i64.wrap ((k:Int) + 1) = (k:Int) + 1:=by rw [IntKind.wrap_i64];omega);have hcx:=HK.out.rx.cell (i:=k) (by omega);have hfx:=HK.out.rx.fz k;have hcg:=HG.out.cell (i:=k) (by omega);(try dsimp only at hcx);cases hnk:nxK E0 true s p k k
           ·
            cases hek:E0 p k
            · rw [hnk] at hcx;rw [hek] at hcg;have HK2:=Hd (HK.out.setx (p:=k) (v:=false) (f:=nxK E0 true s p (k + 1)) (fun i _=>nxK_next hpk false (by rw [hnk];rw [hek];rfl) i));have HG2:=Hd (rb_far HG.out HGX.out k (.bool false));clear hnk HK HG;go_wp2;go_roundw;(case rel=>exact ⟨k + 1,by omega,by omega,by go_num,HK2,HG2⟩);case measure=>simp [intOf];omega
            · rw [hnk] at hcx;rw [hek] at hcg;have HK2:=Hd (HK.out.setx (p:=k) (v:=true) (f:=nxK E0 true s p (k + 1)) (fun i _=>nxK_next hpk true (by rw [hnk];rw [hek];rfl) i));have HG2:=Hd (rb_far HG.out HGX.out k (.bool true));clear hnk HK HG;go_wp2;go_roundw;(case rel=>exact ⟨k + 1,by omega,by omega,by go_num,HK2,HG2⟩);case measure=>simp [intOf];omega
           · rw [hnk] at hcx;have HK2:=Hd (HK.out.setx (p:=k) (v:=true) (f:=nxK E0 true s p (k + 1)) (fun i _=>nxK_next hpk true (by rw [hnk];rfl) i));have HG2:=Hd (rb_far HG.out HGX.out k (.bool true));clear hnk HK HG;go_wp2;go_roundw;(case rel=>exact ⟨k + 1,by omega,by omega,by go_num,HK2,HG2⟩);case measure=>simp [intOf];omega
          ·
           (obtain rfl:k = X.N + 1:=by omega);have HT9:=Hd (show TI X pr w nd gb gn (w.heap.size + 1 + 1) gx l.now (inP E0 nd.mn nd.mx X.N l c (p + 1)) _ from by
            rw [HST.out,HW.out];exact HK.out)
           (have hlk:¬ (X.N:Int) + 1 < (X.N:Int) + 1:=by omega);go_wp2;go_roundw;(case rel=>exact ⟨p + 1,by omega,by go_num,HT9⟩);case measure=>simp [intOf];omega
        ·
         skip
         go_wp2_with (go_at_call 102;refine HF1.out.mono ?_;rintro e w2 ⟨g,rfl,hg,hng,hm,hk⟩;have HT2:=Hd (HT1.out.call hm hk);have HG:=Hd hg;have HNG:=Hd hng;clear hm hk hng hg;obtain ⟨o5,o7,o8⟩:=nb_cells HT2.out.nb;have hcb2:=HT2.out.rb.cell (i:=p) (by omega);have hfb2:=HT2.out.rb.fz p;(try dsimp only at hcb2);rw [hbp] at hcb2;have hce:=HG.out.cell (i:=p) (by omega);rw [hee] at hce);have HT3:=Hd (HT2.out.setb (p:=p) (v:=true) (f:=fun q=>if q = p then s.b p || false || E0 p p else s.b q) (fun i hi=>by
          by_cases e:i = p
          · rw [if_pos e,if_pos e];simp [hbp,hee]
          · rw [if_neg e,if_neg e]))
         (have hgg:g ≠ gb:=fun q=>HNG.out (Or.inl (q ▸ HT2.out.pb)));have HG3:=Hd (rb_far HG.out hgg p (.bool true));have HGX:=Hd (pv_not HNG.out).2.2;clear HT1 HT2 HG HNG hgg HF1 m5 m7 m8 o5 o7 o8 hcb2 hfb2 hce HT n5 n7 n8 hcn hch hfh hbp hee;go_loopw [15] (fun kv wk=>∃ (k:Nat),p < k /\ k <= X.N + 1 /\ kv = .int .i64 (k:Nat) /\ Hid (TI X pr w nd gb gn (w.heap.size + 1 + 1) gx l.now ⟨fun q=>s.had q || (decide (nd.mn <= (c:Int)) && decide (q = p)),fun q=>if q = p then s.b p || false || E0 p p else s.b q,nxK E0 true s p k⟩ wk) /\ Hid (RB wk g (X.N + 1) (E0 p))) (fun kv _=>X.N + 1 - (intOf kv).toNat);(case atStart=>exact ⟨p + 1,by omega,by omega,by go_num,Hd (HT3.out.congr (s':=⟨fun q=>s.had q || (decide (nd.mn <= (c:Int)) && decide (q = p)),fun q=>if q = p then s.b p || false || E0 p p else s.b q,nxK E0 true s p (p + 1)⟩) (fun _ _=>rfl) (fun _ _=>rfl) (fun i _=>nxK_zero E0 true s p i)),HG3⟩);case round =>
          clear HT3 HG3;obtain ⟨k,hpk,hk,rfl,HK,HG⟩:=hrel;obtain ⟨n5,n7,n8⟩:=nb_cells HK.out.nb;by_cases hkl:k <= X.N
          ·
           (have hlk:(k:Int) < (X.N:Int) + 1:=by omega);(have hk0:(0:Int) <= (k:Int):=by omega);(have hwk:IntKind.i64.wrap ((k:Int) + 1) = (k:Int) + 1:=by rw [IntKind.wrap_i64];omega);have hcx:=HK.out.rx.cell (i:=k) (by omega);have hfx:=HK.out.rx.fz k;have hcg:=HG.out.cell (i:=k) (by omega);(try dsimp only at hcx);cases hnk:nxK E0 true s p k k
           ·
            cases hek:E0 p k
            · rw [hnk] at hcx;rw [hek] at hcg;have HK2:=Hd (HK.out.setx (p:=k) (v:=false) (f:=nxK E0 true s p (k + 1)) (fun i _=>nxK_next hpk false (by rw [hnk];rw [hek];rfl) i));have HG2:=Hd (rb_far HG.out HGX.out k (.bool false));clear hnk HK HG;go_wp2;go_roundw;(case rel=>exact ⟨k + 1,by omega,by omega,by go_num,HK2,HG2⟩);case measure=>simp [intOf];omega
            · rw [hnk] at hcx;rw [hek] at hcg;have HK2:=Hd (HK.out.setx (p:=k) (v:=true) (f:=nxK E0 true s p (k + 1)) (fun i _=>nxK_next hpk true (by rw [hnk];rw [hek];rfl) i));have HG2:=Hd (rb_far HG.out HGX.out k (.bool true));clear hnk HK HG;go_wp2;go_roundw;(case rel=>exact ⟨k + 1,by omega,by omega,by go_num,HK2,HG2⟩);case measure=>simp [intOf];omega
           · rw [hnk] at hcx;have HK2:=Hd (HK.out.setx (p:=k) (v:=true) (f:=nxK E0 true s p (k + 1)) (fun i _=>nxK_next hpk true (by rw [hnk];rfl) i));have HG2:=Hd (rb_far HG.out HGX.out k (.bool true));clear hnk HK HG;go_wp2;go_roundw;(case rel=>exact ⟨k + 1,by omega,by omega,by go_num,HK2,HG2⟩);case measure=>simp [intOf];omega
          ·
           (obtain rfl:k = X.N + 1:=by omega);have HT9:=Hd (show TI X pr w nd gb gn (w.heap.size + 1 + 1) gx l.now (inP E0 nd.mn nd.mx X.N l c (p + 1)) _ from by
            rw [HST.out,HW.out];exact HK.out)
           (have hlk:¬ (X.N:Int) + 1 < (X.N:Int) + 1:=by omega);go_wp2;go_roundw;(case rel=>exact ⟨p + 1,by omega,by go_num,HT9⟩);case measure=>simp [intOf];omega
       ·
        skip
        go_wp2_with (go_at_call 102;refine HF1.out.mono ?_;rintro e w2 ⟨g,rfl,hg,hng,hm,hk⟩;have HT2:=Hd (HT1.out.call hm hk);have HG:=Hd hg;have HNG:=Hd hng;clear hm hk hng hg;obtain ⟨o5,o7,o8⟩:=nb_cells HT2.out.nb;have hcb2:=HT2.out.rb.cell (i:=p) (by omega);have hfb2:=HT2.out.rb.fz p;(try dsimp only at hcb2);rw [hbp] at hcb2;have hce:=HG.out.cell (i:=p) (by omega));have HT3:=Hd (HT2.out.setb (p:=p) (v:=true) (f:=fun q=>if q = p then s.b p || false || E0 p p else s.b q) (fun i hi=>by
         by_cases e:i = p
         · rw [if_pos e,if_pos e];simp [hbp]
         · rw [if_neg e,if_neg e]))
        (have hgg:g ≠ gb:=fun q=>HNG.out (Or.inl (q ▸ HT2.out.pb)));have HG3:=Hd (rb_far HG.out hgg p (.bool true));have HGX:=Hd (pv_not HNG.out).2.2;clear HT1 HT2 HG HNG hgg HF1 m5 m7 m8 o5 o7 o8 hcb2 hfb2 hce HT n5 n7 n8 hcn hch hfh hbp;go_loopw [15] (fun kv wk=>∃ (k:Nat),p < k /\ k <= X.N + 1 /\ kv = .int .i64 (k:Nat) /\ Hid (TI X pr w nd gb gn (w.heap.size + 1 + 1) gx l.now ⟨fun q=>s.had q || (decide (nd.mn <= (c:Int)) && decide (q = p)),fun q=>if q = p then s.b p || false || E0 p p else s.b q,nxK E0 true s p k⟩ wk) /\ Hid (RB wk g (X.N + 1) (E0 p))) (fun kv _=>X.N + 1 - (intOf kv).toNat);(case atStart=>exact ⟨p + 1,by omega,by omega,by go_num,Hd (HT3.out.congr (s':=⟨fun q=>s.had q || (decide (nd.mn <= (c:Int)) && decide (q = p)),fun q=>if q = p then s.b p || false || E0 p p else s.b q,nxK E0 true s p (p + 1)⟩) (fun _ _=>rfl) (fun _ _=>rfl) (fun i _=>nxK_zero E0 true s p i)),HG3⟩);case round =>
         clear HT3 HG3;obtain ⟨k,hpk,hk,rfl,HK,HG⟩:=hrel;obtain ⟨n5,n7,n8⟩:=nb_cells HK.out.nb;by_cases hkl:k <= X.N
         ·
          (have hlk:(k:Int) < (X.N:Int) + 1:=by omega);(have hk0:(0:Int) <= (k:Int):=by omega);(have hwk:IntKind.i64.wrap ((k:Int) + 1) = (k:Int) + 1:=by rw [IntKind.wrap_i64];omega);have hcx:=HK.out.rx.cell (i:=k) (by omega);have hfx:=HK.out.rx.fz k;have hcg:=HG.out.cell (i:=k) (by omega);(try dsimp only at hcx);cases hnk:nxK E0 true s p k k
          ·
           cases hek:E0 p k
           · rw [hnk] at hcx;rw [hek] at hcg;have HK2:=Hd (HK.out.setx (p:=k) (v:=false) (f:=nxK E0 true s p (k + 1)) (fun i _=>nxK_next hpk false (by rw [hnk];rw [hek];rfl) i));have HG2:=Hd (rb_far HG.out HGX.out k (.bool false));clear hnk HK HG;go_wp2;go_roundw;(case rel=>exact ⟨k + 1,by omega,by omega,by go_num,HK2,HG2⟩);case measure=>simp [intOf];omega
           · rw [hnk] at hcx;rw [hek] at hcg;have HK2:=Hd (HK.out.setx (p:=k) (v:=true) (f:=nxK E0 true s p (k + 1)) (fun i _=>nxK_next hpk true (by rw [hnk];rw [hek];rfl) i));have HG2:=Hd (rb_far HG.out HGX.out k (.bool true));clear hnk HK HG;go_wp2;go_roundw;(case rel=>exact ⟨k + 1,by omega,by omega,by go_num,HK2,HG2⟩);case measure=>simp [intOf];omega
          · rw [hnk] at hcx;have HK2:=Hd (HK.out.setx (p:=k) (v:=true) (f:=nxK E0 true s p (k + 1)) (fun i _=>nxK_next hpk true (by rw [hnk];rfl) i));have HG2:=Hd (rb_far HG.out HGX.out k (.bool true));clear hnk HK HG;go_wp2;go_roundw;(case rel=>exact ⟨k + 1,by omega,by omega,by go_num,HK2,HG2⟩);case measure=>simp [intOf];omega
         ·
          (obtain rfl:k = X.N + 1:=by omega);have HT9:=Hd (show TI X pr w nd gb gn (w.heap.size + 1 + 1) gx l.now (inP E0 nd.mn nd.mx X.N l c (p + 1)) _ from by
           rw [HST.out,HW.out];exact HK.out)
          (have hlk:¬ (X.N:Int) + 1 < (X.N:Int) + 1:=by omega);go_wp2;go_roundw;(case rel=>exact ⟨p + 1,by omega,by go_num,HT9⟩);case measure=>simp [intOf];omega
      ·
       by_cases hC:(c:Int) < nd.mx
       ·
        skip
        rw [hnow] at hcn;(have hB1:(nd.mx == -1) = false:=by rw [beq_eq_false_iff_ne];exact hB);have HST:=Hd (show inP E0 nd.mn nd.mx X.N l c (p + 1) = workP E0 nd.mn nd.mx X.N c s p from by rw [hst,if_neg (by unfold skips;simp [hnow,hA,hB])]);have hdA:decide (nd.mn <= (c:Int)) = false:=decide_eq_false hA;(have hcm:(decide (nd.mx = -1) || decide ((c:Int) < nd.mx)) = true:=by simp [hB,hC]);clear hst hnow;have HT1:=Hd (HT.out.congr (s':=⟨fun q=>s.had q || (decide (nd.mn <= (c:Int)) && decide (q = p)),s.b,s.next⟩) (fun i hi=>by show (s.had i || _) = _;rw [hdA];simp) (fun _ _=>rfl) (fun _ _=>rfl));obtain ⟨m5,m7,m8⟩:=nb_cells HT1.out.nb;rw [hna] at m5;have HF1:=Hd (HFr.out _ p _ hpl HT1.out.mm);rw [HE0.out] at HF1;have HW:=Hd (show workP E0 nd.mn nd.mx X.N c s p = ⟨fun q=>s.had q || (decide (nd.mn <= (c:Int)) && decide (q = p)),fun q=>if q = p then s.b p || false || E0 p p else s.b q,nxK E0 true s p (X.N + 1)⟩ from by
         unfold workP nxK;rw [hcm,hdA]
         congr 1
         funext q
         congr 3
         rw [show decide (q <= X.N) = decide (q < X.N + 1) from by rw [Bool.eq_iff_iff,decide_eq_true_eq,decide_eq_true_eq];omega])
        clear hdA hcm;cases hbp:s.b p
        ·
         cases hee:E0 p p
         ·
          skip
          go_wp2_with (go_at_call 102;refine HF1.out.mono ?_;rintro e w2 ⟨g,rfl,hg,hng,hm,hk⟩;have HT2:=Hd (HT1.out.call hm hk);have HG:=Hd hg;have HNG:=Hd hng;clear hm hk hng hg;obtain ⟨o5,o7,o8⟩:=nb_cells HT2.out.nb;have hcb2:=HT2.out.rb.cell (i:=p) (by omega);have hfb2:=HT2.out.rb.fz p;(try dsimp only at hcb2);rw [hbp] at hcb2;have hce:=HG.out.cell (i:=p) (by omega);rw [hee] at hce);have HT3:=Hd (HT2.out.setb (p:=p) (v:=(decide (nd.mn <= (c:Int)))) (f:=fun q=>if q = p then s.b p || false || E0 p p else s.b q) (fun i hi=>by
           by_cases e:i = p
           · rw [if_pos e,if_pos e];simp [hbp,hee,hA]
           · rw [if_neg e,if_neg e]))
          (have hgg:g ≠ gb:=fun q=>HNG.out (Or.inl (q ▸ HT2.out.pb)));have HG3:=Hd (rb_far HG.out hgg p (.bool (decide (nd.mn <= (c:Int)))));have HGX:=Hd (pv_not HNG.out).2.2;clear HT1 HT2 HG HNG hgg HF1 m5 m7 m8 o5 o7 o8 hcb2 hfb2 hce HT n5 n7 n8 hcn hch hfh hbp hee;go_loopw [15] (fun kv wk=>∃ (k:Nat),p < k /\ k <= X.N + 1 /\ kv = .int .i64 (k:Nat) /\ Hid (TI X pr w nd gb gn (w.heap.size + 1 + 1) gx l.now ⟨fun q=>s.had q || (decide (nd.mn <= (c:Int)) && decide (q = p)),fun q=>if q = p then s.b p || false || E0 p p else s.b q,nxK E0 true s p k⟩ wk) /\ Hid (RB wk g (X.N + 1) (E0 p))) (fun kv _=>X.N + 1 - (intOf kv).toNat);(case atStart=>exact ⟨p + 1,by omega,by omega,by go_num,Hd (HT3.out.congr (s':=⟨fun q=>s.had q || (decide (nd.mn <= (c:Int)) && decide (q = p)),fun q=>if q = p then s.b p || false || E0 p p else s.b q,nxK E0 true s p (p + 1)⟩) (fun _ _=>rfl) (fun _ _=>rfl) (fun i _=>nxK_zero E0 true s p i)),HG3⟩);case round =>
           clear HT3 HG3;obtain ⟨k,hpk,hk,rfl,HK,HG⟩:=hrel;obtain ⟨n5,n7,n8⟩:=nb_cells HK.out.nb;by_cases hkl:k <= X.N
           ·
            (have hlk:(k:Int) < (X.N:Int) + 1:=by omega);(have hk0:(0:Int) <= (k:Int):=by omega);(have hwk:IntKind.i64.wrap ((k:Int) + 1) = (k:Int) + 1:=by rw [IntKind.wrap_i64];omega);have hcx:=HK.out.rx.cell (i:=k) (by omega);have hfx:=HK.out.rx.fz k;have hcg:=HG.out.cell (i:=k) (by omega);(try dsimp only at hcx);cases hnk:nxK E0 true s p k k
            ·
             cases hek:E0 p k
             · rw [hnk] at hcx;rw [hek] at hcg;have HK2:=Hd (HK.out.setx (p:=k) (v:=false) (f:=nxK E0 true s p (k + 1)) (fun i _=>nxK_next hpk false (by rw [hnk];rw [hek];rfl) i));have HG2:=Hd (rb_far HG.out HGX.out k (.bool false));clear hnk HK HG;go_wp2;go_roundw;(case rel=>exact ⟨k + 1,by omega,by omega,by go_num,HK2,HG2⟩);case measure=>simp [intOf];omega
             · rw [hnk] at hcx;rw [hek] at hcg;have HK2:=Hd (HK.out.setx (p:=k) (v:=true) (f:=nxK E0 true s p (k + 1)) (fun i _=>nxK_next hpk true (by rw [hnk];rw [hek];rfl) i));have HG2:=Hd (rb_far HG.out HGX.out k (.bool true));clear hnk HK HG;go_wp2;go_roundw;(case rel=>exact ⟨k + 1,by omega,by omega,by go_num,HK2,HG2⟩);case measure=>simp [intOf];omega
            · rw [hnk] at hcx;have HK2:=Hd (HK.out.setx (p:=k) (v:=true) (f:=nxK E0 true s p (k + 1)) (fun i _=>nxK_next hpk true (by rw [hnk];rfl) i));have HG2:=Hd (rb_far HG.out HGX.out k (.bool true));clear hnk HK HG;go_wp2;go_roundw;(case rel=>exact ⟨k + 1,by omega,by omega,by go_num,HK2,HG2⟩);case measure=>simp [intOf];omega
           ·
            (obtain rfl:k = X.N + 1:=by omega);have HT9:=Hd (show TI X pr w nd gb gn (w.heap.size + 1 + 1) gx l.now (inP E0 nd.mn nd.mx X.N l c (p + 1)) _ from by
             rw [HST.out,HW.out];exact HK.out)
            (have hlk:¬ (X.N:Int) + 1 < (X.N:Int) + 1:=by omega);go_wp2;go_roundw;(case rel=>exact ⟨p + 1,by omega,by go_num,HT9⟩);case measure=>simp [intOf];omega
         ·
          skip
          go_wp2_with (go_at_call 102;refine HF1.out.mono ?_;rintro e w2 ⟨g,rfl,hg,hng,hm,hk⟩;have HT2:=Hd (HT1.out.call hm hk);have HG:=Hd hg;have HNG:=Hd hng;clear hm hk hng hg;obtain ⟨o5,o7,o8⟩:=nb_cells HT2.out.nb;have hcb2:=HT2.out.rb.cell (i:=p) (by omega);have hfb2:=HT2.out.rb.fz p;(try dsimp only at hcb2);rw [hbp] at hcb2;have hce:=HG.out.cell (i:=p) (by omega);rw [hee] at hce);have HT3:=Hd (HT2.out.setb (p:=p) (v:=true) (f:=fun q=>if q = p then s.b p || false || E0 p p else s.b q) (fun i hi=>by
           by_cases e:i = p
           · rw [if_pos e,if_pos e];simp [hbp,hee]
           · rw [if_neg e,if_neg e]))
          (have hgg:g ≠ gb:=fun q=>HNG.out (Or.inl (q ▸ HT2.out.pb)));have HG3:=Hd (rb_far HG.out hgg p (.bool true));have HGX:=Hd (pv_not HNG.out).2.2;clear HT1 HT2 HG HNG hgg HF1 m5 m7 m8 o5 o7 o8 hcb2 hfb2 hce HT n5 n7 n8 hcn hch hfh hbp hee;go_loopw [15] (fun kv wk=>∃ (k:Nat),p < k /\ k <= X.N + 1 /\ kv = .int .i64 (k:Nat) /\ Hid (TI X pr w nd gb gn (w.heap.size + 1 + 1) gx l.now ⟨fun q=>s.had q || (decide (nd.mn <= (c:Int)) && decide (q = p)),fun q=>if q = p then s.b p || false || E0 p p else s.b q,nxK E0 true s p k⟩ wk) /\ Hid (RB wk g (X.N + 1) (E0 p))) (fun kv _=>X.N + 1 - (intOf kv).toNat);(case atStart=>exact ⟨p + 1,by omega,by omega,by go_num,Hd (HT3.out.congr (s':=⟨fun q=>s.had q || (decide (nd.mn <= (c:Int)) && decide (q = p)),fun q=>if q = p then s.b p || false || E0 p p else s.b q,nxK E0 true s p (p + 1)⟩) (fun _ _=>rfl) (fun _ _=>rfl) (fun i _=>nxK_zero E0 true s p i)),HG3⟩);case round =>
           clear HT3 HG3;obtain ⟨k,hpk,hk,rfl,HK,HG⟩:=hrel;obtain ⟨n5,n7,n8⟩:=nb_cells HK.out.nb;by_cases hkl:k <= X.N
           ·
            (have hlk:(k:Int) < (X.N:Int) + 1:=by omega);(have hk0:(0:Int) <= (k:Int):=by omega);(have hwk:IntKind.i64.wrap ((k:Int) + 1) = (k:Int) + 1:=by rw [IntKind.wrap_i64];omega);have hcx:=HK.out.rx.cell (i:=k) (by omega);have hfx:=HK.out.rx.fz k;have hcg:=HG.out.cell (i:=k) (by omega);(try dsimp only at hcx);cases hnk:nxK E0 true s p k k
            ·
             cases hek:E0 p k
             · rw [hnk] at hcx;rw [hek] at hcg;have HK2:=Hd (HK.out.setx (p:=k) (v:=false) (f:=nxK E0 true s p (k + 1)) (fun i _=>nxK_next hpk false (by rw [hnk];rw [hek];rfl) i));have HG2:=Hd (rb_far HG.out HGX.out k (.bool false));clear hnk HK HG;go_wp2;go_roundw;(case rel=>exact ⟨k + 1,by omega,by omega,by go_num,HK2,HG2⟩);case measure=>simp [intOf];omega
             · rw [hnk] at hcx;rw [hek] at hcg;have HK2:=Hd (HK.out.setx (p:=k) (v:=true) (f:=nxK E0 true s p (k + 1)) (fun i _=>nxK_next hpk true (by rw [hnk];rw [hek];rfl) i));have HG2:=Hd (rb_far HG.out HGX.out k (.bool true));clear hnk HK HG;go_wp2;go_roundw;(case rel=>exact ⟨k + 1,by omega,by omega,by go_num,HK2,HG2⟩);case measure=>simp [intOf];omega
            · rw [hnk] at hcx;have HK2:=Hd (HK.out.setx (p:=k) (v:=true) (f:=nxK E0 true s p (k + 1)) (fun i _=>nxK_next hpk true (by rw [hnk];rfl) i));have HG2:=Hd (rb_far HG.out HGX.out k (.bool true));clear hnk HK HG;go_wp2;go_roundw;(case rel=>exact ⟨k + 1,by omega,by omega,by go_num,HK2,HG2⟩);case measure=>simp [intOf];omega
           ·
            (obtain rfl:k = X.N + 1:=by omega);have HT9:=Hd (show TI X pr w nd gb gn (w.heap.size + 1 + 1) gx l.now (inP E0 nd.mn nd.mx X.N l c (p + 1)) _ from by
             rw [HST.out,HW.out];exact HK.out)
            (have hlk:¬ (X.N:Int) + 1 < (X.N:Int) + 1:=by omega);go_wp2;go_roundw;(case rel=>exact ⟨p + 1,by omega,by go_num,HT9⟩);case measure=>simp [intOf];omega
        ·
         skip
         go_wp2_with (go_at_call 102;refine HF1.out.mono ?_;rintro e w2 ⟨g,rfl,hg,hng,hm,hk⟩;have HT2:=Hd (HT1.out.call hm hk);have HG:=Hd hg;have HNG:=Hd hng;clear hm hk hng hg;obtain ⟨o5,o7,o8⟩:=nb_cells HT2.out.nb;have hcb2:=HT2.out.rb.cell (i:=p) (by omega);have hfb2:=HT2.out.rb.fz p;(try dsimp only at hcb2);rw [hbp] at hcb2;have hce:=HG.out.cell (i:=p) (by omega));have HT3:=Hd (HT2.out.setb (p:=p) (v:=true) (f:=fun q=>if q = p then s.b p || false || E0 p p else s.b q) (fun i hi=>by
          by_cases e:i = p
          · rw [if_pos e,if_pos e];simp [hbp]
          · rw [if_neg e,if_neg e]))
         (have hgg:g ≠ gb:=fun q=>HNG.out (Or.inl (q ▸ HT2.out.pb)));have HG3:=Hd (rb_far HG.out hgg p (.bool true));have HGX:=Hd (pv_not HNG.out).2.2;clear HT1 HT2 HG HNG hgg HF1 m5 m7 m8 o5 o7 o8 hcb2 hfb2 hce HT n5 n7 n8 hcn hch hfh hbp;go_loopw [15] (fun kv wk=>∃ (k:Nat),p < k /\ k <= X.N + 1 /\ kv = .int .i64 (k:Nat) /\ Hid (TI X pr w nd gb gn (w.heap.size + 1 + 1) gx l.now ⟨fun q=>s.had q || (decide (nd.mn <= (c:Int)) && decide (q = p)),fun q=>if q = p then s.b p || false || E0 p p else s.b q,nxK E0 true s p k⟩ wk) /\ Hid (RB wk g (X.N + 1) (E0 p))) (fun kv _=>X.N + 1 - (intOf kv).toNat);(case atStart=>exact ⟨p + 1,by omega,by omega,by go_num,Hd (HT3.out.congr (s':=⟨fun q=>s.had q || (decide (nd.mn <= (c:Int)) && decide (q = p)),fun q=>if q = p then s.b p || false || E0 p p else s.b q,nxK E0 true s p (p + 1)⟩) (fun _ _=>rfl) (fun _ _=>rfl) (fun i _=>nxK_zero E0 true s p i)),HG3⟩);case round =>
          clear HT3 HG3;obtain ⟨k,hpk,hk,rfl,HK,HG⟩:=hrel;obtain ⟨n5,n7,n8⟩:=nb_cells HK.out.nb;by_cases hkl:k <= X.N
          ·
           (have hlk:(k:Int) < (X.N:Int) + 1:=by omega);(have hk0:(0:Int) <= (k:Int):=by omega);(have hwk:IntKind.i64.wrap ((k:Int) + 1) = (k:Int) + 1:=by rw [IntKind.wrap_i64];omega);have hcx:=HK.out.rx.cell (i:=k) (by omega);have hfx:=HK.out.rx.fz k;have hcg:=HG.out.cell (i:=k) (by omega);(try dsimp only at hcx);cases hnk:nxK E0 true s p k k
           ·
            cases hek:E0 p k
            · rw [hnk] at hcx;rw [hek] at hcg;have HK2:=Hd (HK.out.setx (p:=k) (v:=false) (f:=nxK E0 true s p (k + 1)) (fun i _=>nxK_next hpk false (by rw [hnk];rw [hek];rfl) i));have HG2:=Hd (rb_far HG.out HGX.out k (.bool false));clear hnk HK HG;go_wp2;go_roundw;(case rel=>exact ⟨k + 1,by omega,by omega,by go_num,HK2,HG2⟩);case measure=>simp [intOf];omega
            · rw [hnk] at hcx;rw [hek] at hcg;have HK2:=Hd (HK.out.setx (p:=k) (v:=true) (f:=nxK E0 true s p (k + 1)) (fun i _=>nxK_next hpk true (by rw [hnk];rw [hek];rfl) i));have HG2:=Hd (rb_far HG.out HGX.out k (.bool true));clear hnk HK HG;go_wp2;go_roundw;(case rel=>exact ⟨k + 1,by omega,by omega,by go_num,HK2,HG2⟩);case measure=>simp [intOf];omega
           · rw [hnk] at hcx;have HK2:=Hd (HK.out.setx (p:=k) (v:=true) (f:=nxK E0 true s p (k + 1)) (fun i _=>nxK_next hpk true (by rw [hnk];rfl) i));have HG2:=Hd (rb_far HG.out HGX.out k (.bool true));clear hnk HK HG;go_wp2;go_roundw;(case rel=>exact ⟨k + 1,by omega,by omega,by go_num,HK2,HG2⟩);case measure=>simp [intOf];omega
          ·
           (obtain rfl:k = X.N + 1:=by omega);have HT9:=Hd (show TI X pr w nd gb gn (w.heap.size + 1 + 1) gx l.now (inP E0 nd.mn nd.mx X.N l c (p + 1)) _ from by
            rw [HST.out,HW.out];exact HK.out)
           (have hlk:¬ (X.N:Int) + 1 < (X.N:Int) + 1:=by omega);go_wp2;go_roundw;(case rel=>exact ⟨p + 1,by omega,by go_num,HT9⟩);case measure=>simp [intOf];omega
       ·
        skip
        rw [hnow] at hcn;(have hB1:(nd.mx == -1) = false:=by rw [beq_eq_false_iff_ne];exact hB);have HST:=Hd (show inP E0 nd.mn nd.mx X.N l c (p + 1) = workP E0 nd.mn nd.mx X.N c s p from by rw [hst,if_neg (by unfold skips;simp [hnow,hA,hB])]);have hdA:decide (nd.mn <= (c:Int)) = false:=decide_eq_false hA;(have hcm:(decide (nd.mx = -1) || decide ((c:Int) < nd.mx)) = false:=by simp [hB,hC]);clear hst hnow;have HT1:=Hd (HT.out.congr (s':=⟨fun q=>s.had q || (decide (nd.mn <= (c:Int)) && decide (q = p)),s.b,s.next⟩) (fun i hi=>by show (s.had i || _) = _;rw [hdA];simp) (fun _ _=>rfl) (fun _ _=>rfl));obtain ⟨m5,m7,m8⟩:=nb_cells HT1.out.nb;rw [hna] at m5;have HF1:=Hd (HFr.out _ p _ hpl HT1.out.mm);rw [HE0.out] at HF1;have HW:=Hd (show workP E0 nd.mn nd.mx X.N c s p = ⟨fun q=>s.had q || (decide (nd.mn <= (c:Int)) && decide (q = p)),fun q=>if q = p then s.b p || false || E0 p p else s.b q,nxK E0 false s p (X.N + 1)⟩ from by
         unfold workP nxK;rw [hcm,hdA]
         congr 1
         funext q
         congr 3
         rw [show decide (q <= X.N) = decide (q < X.N + 1) from by rw [Bool.eq_iff_iff,decide_eq_true_eq,decide_eq_true_eq];omega])
        clear hdA hcm;cases hbp:s.b p
        ·
         cases hee:E0 p p
         ·
          skip
          go_wp2_with (go_at_call 102;refine HF1.out.mono ?_;rintro e w2 ⟨g,rfl,hg,hng,hm,hk⟩;have HT2:=Hd (HT1.out.call hm hk);have HG:=Hd hg;have HNG:=Hd hng;clear hm hk hng hg;obtain ⟨o5,o7,o8⟩:=nb_cells HT2.out.nb;have hcb2:=HT2.out.rb.cell (i:=p) (by omega);have hfb2:=HT2.out.rb.fz p;(try dsimp only at hcb2);rw [hbp] at hcb2;have hce:=HG.out.cell (i:=p) (by omega);rw [hee] at hce);have HT3:=Hd (HT2.out.setb (p:=p) (v:=(decide (nd.mn <= (c:Int)))) (f:=fun q=>if q = p then s.b p || false || E0 p p else s.b q) (fun i hi=>by
           by_cases e:i = p
           · rw [if_pos e,if_pos e];simp [hbp,hee,hA]
           · rw [if_neg e,if_neg e]))
          (have hgg:g ≠ gb:=fun q=>HNG.out (Or.inl (q ▸ HT2.out.pb)));have HG3:=Hd (rb_far HG.out hgg p (.bool (decide (nd.mn <= (c:Int)))));have HGX:=Hd (pv_not HNG.out).2.2;clear HT1 HT2 HG HNG hgg HF1 m5 m7 m8 o5 o7 o8 hcb2 hfb2 hce HT n5 n7 n8 hcn hch hfh hbp hee;go_loopw [15] (fun kv wk=>∃ (k:Nat),p < k /\ k <= X.N + 1 /\ kv = .int .i64 (k:Nat) /\ Hid (TI X pr w nd gb gn (w.heap.size + 1 + 1) gx l.now ⟨fun q=>s.had q || (decide (nd.mn <= (c:Int)) && decide (q = p)),fun q=>if q = p then s.b p || false || E0 p p else s.b q,nxK E0 false s p k⟩ wk) /\ Hid (RB wk g (X.N + 1) (E0 p))) (fun kv _=>X.N + 1 - (intOf kv).toNat);(case atStart=>exact ⟨p + 1,by omega,by omega,by go_num,Hd (HT3.out.congr (s':=⟨fun q=>s.had q || (decide (nd.mn <= (c:Int)) && decide (q = p)),fun q=>if q = p then s.b p || false || E0 p p else s.b q,nxK E0 false s p (p + 1)⟩) (fun _ _=>rfl) (fun _ _=>rfl) (fun i _=>nxK_zero E0 false s p i)),HG3⟩);case round =>
           clear HT3 HG3;obtain ⟨k,hpk,hk,rfl,HK,HG⟩:=hrel;obtain ⟨n5,n7,n8⟩:=nb_cells HK.out.nb;have HT9:=Hd (show TI X pr w nd gb gn (w.heap.size + 1 + 1) gx l.now (inP E0 nd.mn nd.mx X.N l c (p + 1)) _ from by
            rw [HST.out,HW.out];refine HK.out.congr (fun _ _=>rfl) (fun _ _=>rfl) (fun i hi=>?_);show nxK E0 false s p (X.N + 1) i = nxK E0 false s p k i;unfold nxK;simp)
           by_cases hkl:k <= X.N
           · (have hlk:(k:Int) < (X.N:Int) + 1:=by omega);go_wp2;go_roundw;(case rel=>exact ⟨p + 1,by omega,by go_num,HT9⟩);case measure=>simp [intOf];omega
           · (have hlk:¬ (k:Int) < (X.N:Int) + 1:=by omega);go_wp2;go_roundw;(case rel=>exact ⟨p + 1,by omega,by go_num,HT9⟩);case measure=>simp [intOf];omega
         ·
          skip
          go_wp2_with (go_at_call 102;refine HF1.out.mono ?_;rintro e w2 ⟨g,rfl,hg,hng,hm,hk⟩;have HT2:=Hd (HT1.out.call hm hk);have HG:=Hd hg;have HNG:=Hd hng;clear hm hk hng hg;obtain ⟨o5,o7,o8⟩:=nb_cells HT2.out.nb;have hcb2:=HT2.out.rb.cell (i:=p) (by omega);have hfb2:=HT2.out.rb.fz p;(try dsimp only at hcb2);rw [hbp] at hcb2;have hce:=HG.out.cell (i:=p) (by omega);rw [hee] at hce);have HT3:=Hd (HT2.out.setb (p:=p) (v:=true) (f:=fun q=>if q = p then s.b p || false || E0 p p else s.b q) (fun i hi=>by
           by_cases e:i = p
           · rw [if_pos e,if_pos e];simp [hbp,hee]
           · rw [if_neg e,if_neg e]))
          (have hgg:g ≠ gb:=fun q=>HNG.out (Or.inl (q ▸ HT2.out.pb)));have HG3:=Hd (rb_far HG.out hgg p (.bool true));have HGX:=Hd (pv_not HNG.out).2.2;clear HT1 HT2 HG HNG hgg HF1 m5 m7 m8 o5 o7 o8 hcb2 hfb2 hce HT n5 n7 n8 hcn hch hfh hbp hee;go_loopw [15] (fun kv wk=>∃ (k:Nat),p < k /\ k <= X.N + 1 /\ kv = .int .i64 (k:Nat) /\ Hid (TI X pr w nd gb gn (w.heap.size + 1 + 1) gx l.now ⟨fun q=>s.had q || (decide (nd.mn <= (c:Int)) && decide (q = p)),fun q=>if q = p then s.b p || false || E0 p p else s.b q,nxK E0 false s p k⟩ wk) /\ Hid (RB wk g (X.N + 1) (E0 p))) (fun kv _=>X.N + 1 - (intOf kv).toNat);(case atStart=>exact ⟨p + 1,by omega,by omega,by go_num,Hd (HT3.out.congr (s':=⟨fun q=>s.had q || (decide (nd.mn <= (c:Int)) && decide (q = p)),fun q=>if q = p then s.b p || false || E0 p p else s.b q,nxK E0 false s p (p + 1)⟩) (fun _ _=>rfl) (fun _ _=>rfl) (fun i _=>nxK_zero E0 false s p i)),HG3⟩);case round =>
           clear HT3 HG3;obtain ⟨k,hpk,hk,rfl,HK,HG⟩:=hrel;obtain ⟨n5,n7,n8⟩:=nb_cells HK.out.nb;have HT9:=Hd (show TI X pr w nd gb gn (w.heap.size + 1 + 1) gx l.now (inP E0 nd.mn nd.mx X.N l c (p + 1)) _ from by
            rw [HST.out,HW.out];refine HK.out.congr (fun _ _=>rfl) (fun _ _=>rfl) (fun i hi=>?_);show nxK E0 false s p (X.N + 1) i = nxK E0 false s p k i;unfold nxK;simp)
           by_cases hkl:k <= X.N
           · (have hlk:(k:Int) < (X.N:Int) + 1:=by omega);go_wp2;go_roundw;(case rel=>exact ⟨p + 1,by omega,by go_num,HT9⟩);case measure=>simp [intOf];omega
           · (have hlk:¬ (k:Int) < (X.N:Int) + 1:=by omega);go_wp2;go_roundw;(case rel=>exact ⟨p + 1,by omega,by go_num,HT9⟩);case measure=>simp [intOf];omega
        ·
         skip
         go_wp2_with (go_at_call 102;refine HF1.out.mono ?_;rintro e w2 ⟨g,rfl,hg,hng,hm,hk⟩;have HT2:=Hd (HT1.out.call hm hk);have HG:=Hd hg;have HNG:=Hd hng;clear hm hk hng hg;obtain ⟨o5,o7,o8⟩:=nb_cells HT2.out.nb;have hcb2:=HT2.out.rb.cell (i:=p) (by omega);have hfb2:=HT2.out.rb.fz p;(try dsimp only at hcb2);rw [hbp] at hcb2;have hce:=HG.out.cell (i:=p) (by omega));have HT3:=Hd (HT2.out.setb (p:=p) (v:=true) (f:=fun q=>if q = p then s.b p || false || E0 p p else s.b q) (fun i hi=>by
          by_cases e:i = p
          · rw [if_pos e,if_pos e];simp [hbp]
          · rw [if_neg e,if_neg e]))
         (have hgg:g ≠ gb:=fun q=>HNG.out (Or.inl (q ▸ HT2.out.pb)));have HG3:=Hd (rb_far HG.out hgg p (.bool true));have HGX:=Hd (pv_not HNG.out).2.2;clear HT1 HT2 HG HNG hgg HF1 m5 m7 m8 o5 o7 o8 hcb2 hfb2 hce HT n5 n7 n8 hcn hch hfh hbp;go_loopw [15] (fun kv wk=>∃ (k:Nat),p < k /\ k <= X.N + 1 /\ kv = .int .i64 (k:Nat) /\ Hid (TI X pr w nd gb gn (w.heap.size + 1 + 1) gx l.now ⟨fun q=>s.had q || (decide (nd.mn <= (c:Int)) && decide (q = p)),fun q=>if q = p then s.b p || false || E0 p p else s.b q,nxK E0 false s p k⟩ wk) /\ Hid (RB wk g (X.N + 1) (E0 p))) (fun kv _=>X.N + 1 - (intOf kv).toNat);(case atStart=>exact ⟨p + 1,by omega,by omega,by go_num,Hd (HT3.out.congr (s':=⟨fun q=>s.had q || (decide (nd.mn <= (c:Int)) && decide (q = p)),fun q=>if q = p then s.b p || false || E0 p p else s.b q,nxK E0 false s p (p + 1)⟩) (fun _ _=>rfl) (fun _ _=>rfl) (fun i _=>nxK_zero E0 false s p i)),HG3⟩);case round =>
          clear HT3 HG3;obtain ⟨k,hpk,hk,rfl,HK,HG⟩:=hrel;obtain ⟨n5,n7,n8⟩:=nb_cells HK.out.nb;have HT9:=Hd (show TI X pr w nd gb gn (w.heap.size + 1 + 1) gx l.now (inP E0 nd.mn nd.mx X.N l c (p + 1)) _ from by
           rw [HST.out,HW.out];refine HK.out.congr (fun _ _=>rfl) (fun _ _=>rfl) (fun i hi=>?_);show nxK E0 false s p (X.N + 1) i = nxK E0 false s p k i;unfold nxK;simp)
          by_cases hkl:k <= X.N
          · (have hlk:(k:Int) < (X.N:Int) + 1:=by omega);go_wp2;go_roundw;(case rel=>exact ⟨p + 1,by omega,by go_num,HT9⟩);case measure=>simp [intOf];omega
          · (have hlk:¬ (k:Int) < (X.N:Int) + 1:=by omega);go_wp2;go_roundw;(case rel=>exact ⟨p + 1,by omega,by go_num,HT9⟩);case measure=>simp [intOf];omega
   ·
    (obtain rfl:p = X.N + 1:=by omega);(have hlt':¬ (X.N:Int) + 1 < (X.N:Int) + 1:=by omega);have HD:=Hd HT.out.done;have HQ:=Hd (show seqT E0 nd.mn nd.mx X.N at0 (c + 1) = ⟨(inP E0 nd.mn nd.mx X.N l c (X.N + 1)).next,(inP E0 nd.mn nd.mx X.N l c (X.N + 1)).had,(inP E0 nd.mn nd.mx X.N l c (X.N + 1)).b⟩ from by
     show rnd E0 nd.mn nd.mx X.N (seqT E0 nd.mn nd.mx X.N at0 c) c = _;rw [HL.out];rfl)
    clear HT;go_wp2;go_roundw;(case rel=>exact ⟨c + 1,gx,_,by omega,rfl,by go_num,Hd ⟨rfl,by rw [HQ.out];exact HD.out⟩⟩);case measure=>simp [intOf];omega
end Go.Proofs.YtinallojhkaogaaGreatDoor.Mt
