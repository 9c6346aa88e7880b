/- The texts Bld SbT SbPa SbPb SbB. -/
import Derived.ScopeJumps
import Derived.Test.YtinallojhkaogaaGreatDoorHk15
import Derived.Test.YtinallojhkaogaaGreatDoorHk19
set_option linter.unusedVariables false
set_option linter.unusedSimpArgs false
set_option maxHeartbeats 6400000
set_option maxRecDepth 100000
namespace Go.Proofs.YtinallojhkaogaaGreatDoor.Bld
open Go.RowKit
theorem sizeBuilder:(Tryz.prog.info? 98).map (·.size) = some 2:=by kernel_rfl
theorem liesBuilder:liesAt Tryz.prog Tryz.prog.depth 98 (2 / Tryz.prog.cellsOf 98) 0 98 1 = true:=by kernel_rfl
theorem infoByte:(Tryz.prog.info? 5).map (fun i=>(i.zero,i.size,i.bytes)) = some (some (.int .u8 0),1,1):=by kernel_rfl
theorem copyCheck_used (b:Nat) (w:World) (h0:w.cell? ⟨b,0,none⟩ = some (.pointer (some ⟨b,0,none⟩))) :
  Calls Tryz.prog 80 #[.pointer (some ⟨b,0,none⟩)] w fun e w'=>e = .returned (.tuple #[]) /\ w' = w:=by
 obtain ⟨j,hj,_⟩:=Option.map_eq_some_iff.1 sizeBuilder;go_enter Tryz.func80,Tryz.ntmps80;go_wp2;rw [Lib.run_neq_ptr_same w _ Tryz.underlying95 hj];go_wp2;go_end0;exact ⟨rfl,rfl⟩
theorem copyCheck_fresh (b:Nat) (w:World) (h0:w.cell? ⟨b,0,none⟩ = some (.pointer none)) (hsh:w.shape? b = some (98,2)) (hfz:w.frozen? ⟨b,0,none⟩ = false) :
  Calls Tryz.prog 80 #[.pointer (some ⟨b,0,none⟩)] w fun e w'=>e = .returned (.tuple #[]) /\ w' = w.setCell ⟨b,0,none⟩ (.pointer (some ⟨b,0,none⟩)):=by
 obtain ⟨j,hj,hjs⟩:=Option.map_eq_some_iff.1 sizeBuilder;go_enter Tryz.func80,Tryz.ntmps80;go_wp2;rw [Lib.run_to_unsafe w ⟨b,0,none⟩ Tryz.underlying95 Tryz.underlying179 hj (by rw [hjs];decide) hsh (Nat.zero_lt_succ 1)];simp only [Result.andThen];rw [Oper.upon_value];go_wp2;rw [run_callFunc_extern Tryz.func106 (by kernel_rfl) (by kernel_rfl) (by kernel_rfl) (e:=Extern.AbiNoEscape.same) (by kernel_rfl)];rw [Lib.run_noEscape];simp only [Result.andThen];rw [Oper.upon_value];go_wp2;rw [Lib.run_from_unsafe w ⟨b,0,none⟩ Tryz.underlying179 Tryz.underlying95 hj hsh liesBuilder];simp only [Result.andThen];rw [Oper.upon_value];go_wp2;go_end0;exact ⟨rfl,rfl⟩
abbrev IsB (B b:Nat) (l:List UInt8) (w:World):Prop:=Lib.IsBuilderF 98 5 B b (Lib.byteCells l) w
abbrev Kept (b:Nat) (w w':World):Prop:=Lib.OthersKept 5 (some b) w w'
theorem copyCheck_any (B b:Nat) (bs:List Value) (w:World) (h:Lib.IsBuilderF 98 5 B b bs w) :
  Calls Tryz.prog 80 #[.pointer (some ⟨b,0,none⟩)] w fun e w'=>e = .returned (.tuple #[]) /\ (Lib.BuilderAtF 98 5 B b (.pointer (some ⟨b,0,none⟩)) bs w' /\ Below B w w' /\ Kept b w w'):=by
 rcases h with h | h
 · refine (copyCheck_fresh b w h.cell0 h.shape h.frozen0).mono ?_;rintro e w' ⟨rfl,rfl⟩;exact ⟨rfl,h.used _,(Below.refl B w).setCell (p:=⟨b,0,none⟩) h.1 _,(Lib.OthersKept.refl _ _ w).setCell ⟨b,0,none⟩ rfl _⟩
 · refine (copyCheck_used b w h.cell0).mono ?_;rintro e w' ⟨rfl,rfl⟩;exact ⟨rfl,h,Below.refl B _,Lib.OthersKept.refl _ _ _⟩
theorem writeString_any (B b:Nat) (bs:List Value) (s:ByteArray) (w:World) (h:Lib.IsBuilderF 98 5 B b bs w) (hlen:bs.length + s.size <= 140737488355328) (hBw:B <= w.heap.size) :
  Calls Tryz.prog 55 #[.pointer (some ⟨b,0,none⟩),.string s] w fun e w'=>e = .returned (.tuple #[.int .i64 s.size,.nilIface]) /\ (Lib.BuilderAtF 98 5 B b (.pointer (some ⟨b,0,none⟩)) (bs ++ Lib.strCells s) w' /\ Below B w w' /\ Kept b w w'):=by
 obtain ⟨i0,hi,hz0,hz1,hz2⟩:=info_parts infoByte;go_enter Tryz.func55,Tryz.ntmps55;go_wp2_with (go_at_call 80;refine (copyCheck_any B b bs _ h).mono ?_);rintro e w1 ⟨rfl,h1,hb1,hk1⟩;obtain ⟨hB,v,hbk,hown,hne⟩:=h1;(have c0:w1.cell? ⟨b,0,none⟩ = some (.pointer (some ⟨b,0,none⟩)):=by rw [Lib.cell_of_heap hbk];rfl);(have c1:w1.cell? ⟨b,1,none⟩ = some v:=by rw [Lib.cell_of_heap hbk];rfl);go_wp2_with (at_builtin;refine Lib.wpList_append_own_stringF _ rfl _ _ 96 9 rfl B 5 i0 Tryz.underlying96 Tryz.underlying9 hi hz0 hz1 hz2 _ _ _ rfl hown s rfl ?c3 ?c4 ?c5 ?_);(case c3=>unfold maxLen;omega);(case c4=>omega);(case c5=>have:=hb1.size;omega);intro v' w2 hown' hgrow _;have hlt:b < w1.heap.size:=by
  rcases Nat.lt_or_ge b w1.heap.size with h' | h'
  · exact h'
  · simp [Array.getElem?_eq_none h'] at hbk
 have hb2:w2.heap[b]? = some (.cells #[.pointer (some ⟨b,0,none⟩),v] 98 (0,0)):=by
  rw [hgrow.block b hlt (fun e=>hne e.symm)];exact hbk
 (have d0:w2.cell? ⟨b,0,none⟩ = some (.pointer (some ⟨b,0,none⟩)):=by rw [Lib.cell_of_heap hb2];rfl);(have d1:w2.cell? ⟨b,1,none⟩ = some v:=by rw [Lib.cell_of_heap hb2];rfl);have f1:w2.frozen? ⟨b,1,none⟩ = false:=Lib.frozen_of_heap hb2 1;obtain ⟨ao,n',cap,rfl⟩:∃ ao n' cap,v' = .slice ao n' cap:=by
  rcases hown'.2 with ⟨hv,_⟩ | ⟨g,cap,cur,fz,hv,_⟩
  · exact ⟨_,_,_,hv⟩
  · exact ⟨_,_,_,hv⟩
 go_wp2
 go_ret2
 refine ⟨rfl,?_,?_,(hk1.grown hgrow (Lib.ownsRowF_kind hown)).setCell ⟨b,1,none⟩ rfl _⟩
 · exact Lib.BuilderAtF.put (T:=98) (e:=5) hB hb2 (bs':=bs ++ Lib.strCells s) (by simpa [Lib.strCells_length] using hown') (by decide)
 · exact (hb1.grown hgrow (by have:=hb1.size;omega) (fun k hk=>(hown.lt k hk).1)).setCell (p:=⟨b,1,none⟩) hB _
end Go.Proofs.YtinallojhkaogaaGreatDoor.Bld
namespace Go.Proofs.YtinallojhkaogaaGreatDoor.Mt
open Go.RowKit Go.Shelf
open Rx
open Go.Proofs.YtinallojhkaogaaGreatDoor.Bld (IsB Kept writeString_any)
structure Pt where
 t:List UInt8
 g:Int
def PIn (w:World) (ao:Option Addr) (l:List Pt):Prop:=∀ i (hi:i < l.length),∃ b,ao = some ⟨b,0,none⟩ /\ w.cell? ⟨b,i * 2,none⟩ = some (S l[i].t) /\ w.cell? ⟨b,i * 2 + 1,none⟩ = some (E l[i].g)
theorem PIn.below {w w':World} {ao:Option Addr} {l:List Pt} (h:PIn w ao l) (hb:Below w.heap.size w w'):PIn w' ao l:=fun i hi=>by
 obtain ⟨b,h1,h2,h3⟩:=h i hi;exact ⟨b,h1,(hb.cell (lt_cell h2)).trans h2,(hb.cell (lt_cell h3)).trans h3⟩
theorem isb_below {B b:Nat} {l:List UInt8} {w w':World} (h:IsB B b l w) (hb:Below w.heap.size w w'):IsB B b l w':=by
 have hg:w.grownBy w' none:=⟨hb.os,hb.tape,hb.output,hb.size,fun k hk _=>hb.block k hk⟩;rcases h with ⟨h1,v,h2,ho,hn⟩ | ⟨h1,v,h2,ho,hn⟩
 · exact Or.inl ⟨h1,v,(hb.block b (lt_heap' h2)).trans h2,ho.kept hg (by by_cases q:v.ownBlock = none;exact Or.inl q;exact Or.inr q),hn⟩
 · exact Or.inr ⟨h1,v,(hb.block b (lt_heap' h2)).trans h2,ho.kept hg (by by_cases q:v.ownBlock = none;exact Or.inl q;exact Or.inr q),hn⟩
theorem isb_write {B b:Nat} {out s:List UInt8} {w':World} (h:Lib.BuilderAtF 98 5 B b (.pointer (some ⟨b,0,none⟩)) (Lib.byteCells out ++ Lib.strCells ⟨s.toArray⟩) w'):IsB B b (out ++ s) w':=by
 refine Or.inr ?_;(have:Lib.byteCells (out ++ s) = Lib.byteCells out ++ Lib.strCells ⟨s.toArray⟩:=by simp [Lib.byteCells,Lib.strCells]);rw [this];exact h
theorem isb_new (w:World):IsB w.heap.size w.heap.size [] (w.alloc (.cells #[.pointer none,.slice none 0 0] 98)) :=
 Or.inl ⟨Nat.le_refl _,_,heap_alloc_new _ _,World.ownsRowF_nil _ _ _ _,by intro h;cases h⟩
def flushP (t:List UInt8):List Pt:=if t = [] then [] else [⟨t,-1⟩]
def parS:List UInt8 -> Nat -> List UInt8 -> List Pt -> Option (List Pt) × Nat
 | [],i,t,a=>(some (a ++ flushP t),0)
 | c :: r,i,t,a =>
  if c = 38 then parS r (i + 1) [] (a ++ flushP t ++ [⟨[],0⟩])
  else if c = 10 then (none,i)
  else if c ≠ 92 then parS r (i + 1) (t ++ [c]) a
  else match r with
   | []=>(none,i)
   | d :: r' =>
    if 49 <= d /\ d <= 57 then parS r' (i + 2) [] (a ++ flushP t ++ [⟨[],(d.toNat:Int) - 48⟩])
    else if d = 110 then parS r' (i + 2) (t ++ [10]) a
    else if d = 10 \/ d = 92 \/ d = 38 \/ d = 47 then parS r' (i + 2) (t ++ [d]) a
    else (none,i)
section
variable {r:List UInt8} {i:Nat} {t:List UInt8} {a:List Pt} {c d:UInt8}
theorem par_38:parS (38 :: r) i t a = parS r (i + 1) [] (a ++ flushP t ++ [⟨[],0⟩]):=by rw [parS.eq_def];rfl
theorem par_10:parS (10 :: r) i t a = (none,i):=by rw [parS.eq_def];rfl
theorem par_c (h1:c ≠ 38) (h2:c ≠ 10) (h3:c ≠ 92):parS (c :: r) i t a = parS r (i + 1) (t ++ [c]) a:=by
 rw [parS.eq_def];dsimp only;rw [if_neg h1,if_neg h2,if_pos h3]
theorem par_end:parS [92] i t a = (none,i):=by rw [parS.eq_def];rfl
theorem par_92:parS (92 :: d :: r) i t a = if 49 <= d /\ d <= 57 then parS r (i + 2) [] (a ++ flushP t ++ [⟨[],(d.toNat:Int) - 48⟩]) else if d = 110 then parS r (i + 2) (t ++ [10]) a else if d = 10 \/ d = 92 \/ d = 38 \/ d = 47 then parS r (i + 2) (t ++ [d]) a else (none,i):=by
 rw [parS.eq_def];dsimp only;rw [if_neg (by decide),if_neg (by decide),if_neg (by decide)]
end
def flP (l:List Pt):List Value:=l.flatMap fun p=>[S p.t,E p.g]
theorem flP_append (l m:List Pt):flP (l ++ m) = flP l ++ flP m:=by unfold flP;rw [List.flatMap_append]
theorem flP_get:∀ (l:List Pt) (i:Nat) (h:i < l.length),(flP l)[i * 2]? = some (S l[i].t) /\ (flP l)[i * 2 + 1]? = some (E l[i].g)
 | p :: r,0,_=>⟨rfl,rfl⟩
 | p :: r,i + 1,h=>by
  have:=flP_get r i (by simpa using h);(have e:flP (p :: r) = [S p.t,E p.g] ++ flP r:=by simp [flP]);rw [e,show (i + 1) * 2 = i * 2 + 2 by omega];exact this
theorem infoP:(Tryz.prog.info? 55).map (fun i=>(i.zero,i.size,i.bytes)) = some (some (.agg #[.string ⟨#[]⟩,.int .i64 0]),2,24):=by kernel_rfl
theorem pin_own {w:World} {B:Nat} {v:Value} {l:List Pt} (h:w.ownsRow B 55 2 v l.length (flP l)):∃ ao cap,v = .slice ao l.length cap /\ PIn w ao l:=by
 rcases own_forms h with ⟨rfl,h0⟩ | ⟨g,cap,rfl,hc⟩
 · exact ⟨none,0,by rw [h0],fun i hi=>by omega⟩
 ·
  refine ⟨_,cap,rfl,fun i hi=>⟨g,rfl,?_,?_⟩⟩
  · have:=(flP_get l i hi).1;rw [<- this];exact h.cellAt (i * 2) (by omega)
  · have:=(flP_get l i hi).2;rw [<- this];exact h.cellAt (i * 2 + 1) (by omega)
structure PS (w:World) (t:List UInt8) (a:List Pt) (v:Value) (wr:World):Prop where
 pv:wr.heap[w.heap.size]? = some (.cells #[v] 56 (0,0))
 tx:wr.heap[w.heap.size + 1]? = some (.cells #[S t] 9 (0,0))
 own:wr.ownsRow w.heap.size 55 2 v a.length (flP a)
 ne:∀ g,v.ownBlock = some g -> g ≠ w.heap.size /\ g ≠ w.heap.size + 1
 bel:Below w.heap.size w wr
section
variable {w wr w':World} {t:List UInt8} {a:List Pt} {v v':Value}
theorem PS.cells (h:PS w t a v wr):wr.cell? ⟨w.heap.size,0,none⟩ = some v /\ wr.cell? ⟨w.heap.size + 1,0,none⟩ = some (S t) /\ wr.frozen? ⟨w.heap.size,0,none⟩ = false /\ wr.frozen? ⟨w.heap.size + 1,0,none⟩ = false :=
 ⟨(Lib.cell_of_heap h.pv 0).trans rfl,(Lib.cell_of_heap h.tx 0).trans rfl,Lib.frozen_of_heap h.pv 0,Lib.frozen_of_heap h.tx 0⟩
theorem own_other' {B e n z:Nat} {xs:List Value} (ho:w.ownsRow B e z v n xs) (hk:∀ g,v.ownBlock = some g -> w'.heap[g]? = w.heap[g]?):w'.ownsRow B e z v n xs:=by
 refine ⟨ho.1,?_⟩;rcases ho.2 with hv | ⟨g,cap,cur,hv,h1,h2,h3⟩
 · exact Or.inl hv
 · exact Or.inr ⟨g,cap,cur,hv,h1,(hk g (by rw [hv];rfl)).trans h2,h3⟩
theorem PS.below (h:PS w t a v wr) (hb:Below wr.heap.size wr w'):PS w t a v w' :=
 ⟨(hb.block _ (lt_heap' h.pv)).trans h.pv,(hb.block _ (lt_heap' h.tx)).trans h.tx,own_below h.own hb,h.ne,h.bel.trans (hb.mono h.bel.size)⟩
theorem PS.text (h:PS w t a v wr) (t':List UInt8):PS w t' a v (wr.setCell ⟨w.heap.size + 1,0,none⟩ (S t')):=by
 (have hk:∀ k,k ≠ w.heap.size + 1 -> (wr.setCell ⟨w.heap.size + 1,0,none⟩ (S t')).heap[k]? = wr.heap[k]?:=fun k hk=>Below.heap_setCell wr ⟨w.heap.size + 1,0,none⟩ _ k hk);refine ⟨(hk _ (by omega)).trans h.pv,?_,own_other' h.own fun g hg=>hk g (h.ne g hg).2,h.ne,h.bel.setCell (by show w.heap.size <= w.heap.size + 1;omega) _⟩;exact Go.Joins.block_setCell h.tx (i:=0) (S t')
theorem PS.same (h:PS w t a v wr):PS w t a v (wr.setCell ⟨w.heap.size,0,none⟩ v):=by
 (have hk:∀ k,k ≠ w.heap.size -> (wr.setCell ⟨w.heap.size,0,none⟩ v).heap[k]? = wr.heap[k]?:=fun k hk=>Below.heap_setCell wr ⟨w.heap.size,0,none⟩ _ k hk);exact ⟨Go.Joins.block_setCell h.pv (i:=0) v,(hk _ (by omega)).trans h.tx,own_other' h.own fun g hg=>hk g (h.ne g hg).1,h.ne,h.bel.setCell (Nat.le_refl _) _⟩
theorem PS.cells2 (h:PS w t a v wr) (c:UInt8):(wr.alloc (.cells #[.int .u8 (c.toNat:Nat)] 5)).cell? ⟨w.heap.size,0,none⟩ = some v /\ (wr.alloc (.cells #[.int .u8 (c.toNat:Nat)] 5)).cell? ⟨w.heap.size + 1,0,none⟩ = some (S t) /\ (wr.alloc (.cells #[.int .u8 (c.toNat:Nat)] 5)).frozen? ⟨w.heap.size,0,none⟩ = false /\ (wr.alloc (.cells #[.int .u8 (c.toNat:Nat)] 5)).frozen? ⟨w.heap.size + 1,0,none⟩ = false :=
 (h.below ((Below.refl _ _).alloc (Nat.le_refl _) _)).cells
theorem PS.grow (h:PS w t a v wr) {tmp:Obj} {w4:World} {m:List Pt} (hown:w4.ownsRow w.heap.size 55 2 v' (a.length + 1) (flP m)) (hm:m.length = a.length + 1) (hgrow:(wr.alloc tmp).grownBy w4 v.ownBlock) (hat:v'.ownBlock = v.ownBlock \/ v'.ownBlock = some (wr.alloc tmp).heap.size) :
  PS w t m v' (w4.setCell ⟨w.heap.size,0,none⟩ v') /\ w4.cell? ⟨w.heap.size,0,none⟩ = some v /\ w4.frozen? ⟨w.heap.size,0,none⟩ = false:=by
 have l1:=lt_heap' h.pv;have l2:=lt_heap' h.tx;have e1:=((hgrow.block w.heap.size (by simp;omega) (fun e=>(h.ne _ e.symm).1 rfl)).trans (Below.heap_alloc _ _ _ l1)).trans h.pv;have e2:=((hgrow.block (w.heap.size + 1) (by simp;omega) (fun e=>(h.ne _ e.symm).2 rfl)).trans (Below.heap_alloc _ _ _ l2)).trans h.tx;have hne:∀ g,v'.ownBlock = some g -> g ≠ w.heap.size /\ g ≠ w.heap.size + 1:=fun g hg=>by
  rcases hat with q | q
  · exact h.ne g (by rw [<- q];exact hg)
  · rw [hg] at q;have e:=Option.some.inj q;rw [World.size_alloc] at e;exact ⟨by omega,by omega⟩
 (have hk:∀ k,k ≠ w.heap.size -> (w4.setCell ⟨w.heap.size,0,none⟩ v').heap[k]? = w4.heap[k]?:=fun k hk=>Below.heap_setCell w4 ⟨w.heap.size,0,none⟩ _ k hk);refine ⟨⟨?_,(hk _ (by omega)).trans e2,?_,hne,?_⟩,(Lib.cell_of_heap e1 0).trans rfl,Lib.frozen_of_heap e1 0⟩
 · exact Go.Joins.block_setCell e1 (i:=0) v'
 · rw [hm];exact own_other' hown fun g hg=>hk g (hne g hg).1
 · exact ((h.bel.alloc h.bel.size _).grown hgrow (by have:=h.bel.size;simp;omega) (fun j hj=>own_ge h.own j hj)).setCell (Nat.le_refl _) _
end
theorem app_arr' (a b:List UInt8):(⟨a.toArray⟩:ByteArray) ++ ⟨b.toArray⟩ = ⟨(a ++ b).toArray⟩:=by
 apply ByteArray.ext;simp
theorem u8_ne {c:UInt8} {n:Nat} [OfNat UInt8 n] (h:c ≠ (OfNat.ofNat n:UInt8)) (hn:(OfNat.ofNat n:UInt8).toNat = n:=by rfl):((c.toNat:Int) == ((n:Nat):Int)) = false:=by
 rw [beq_eq_false_iff_ne];intro q;apply h;apply UInt8.toNat_inj.1;rw [hn]
 exact_mod_cast q
theorem news_pt (W:World) (t:List UInt8) (g:Int):∀ j u,([S t,E g]:List Value)[j]? = some u -> (W.alloc (.cells #[S t,E g] 55)).cell? ((⟨W.heap.size,0,none⟩:Addr).add j) = some u:=by
 intro j u hj;rw [Addr.add_lit,Lib.cell_of_heap (heap_alloc_new _ _),Nat.zero_add];simpa using hj
theorem flush_any (w:World) (t:List UInt8) (a:List Pt) (v:Value) (wr:World) (h:PS w t a v wr) (ha:a.length <= 100000) :
  Calls Tryz.prog 59 #[.pointer (some ⟨w.heap.size + 1,0,none⟩),.pointer (some ⟨w.heap.size,0,none⟩)] wr fun e w'=>e = .returned (.tuple #[]) /\ ∃ ao n cp,PS w [] (a ++ flushP t) (.slice ao n cp) w':=by
 obtain ⟨i0,hi,hz0,hz1,hz2⟩:=info_parts infoP;have HP:=Lib.hid h;have HA:=Lib.hid ha;obtain ⟨c1,c2,c3,c4⟩:=h.cells;clear h ha;by_cases ht:t = []
 ·
  subst ht;have hie:([]:List UInt8).isEmpty = true:=rfl;go_enter Tryz.func59,Tryz.ntmps59;go_wp2;go_end0;refine ⟨rfl,?_⟩;(have h5:PS w [] (a ++ flushP []) v (wr.setCell ⟨w.heap.size + 1,0,none⟩ (S [])):=by simpa [flushP] using HP.out.text []);rcases own_forms h5.own with ⟨e,_⟩ | ⟨g,cap,e,_⟩
  · exact ⟨none,0,0,by rw [<- e];exact h5⟩
  · exact ⟨_,_,_,by rw [<- e];exact h5⟩
 ·
  have hie:t.isEmpty = false:=by cases t with
   | nil=>exact absurd rfl ht
   | cons b r=>rfl
  have HOA:=Lib.hid (HP.out.own.alloc (.cells #[S t,E (-1)] 55));have HFL:=Lib.hid (show a ++ flushP t = a ++ [⟨t,-1⟩] from by unfold flushP;rw [if_neg ht]);clear ht;go_enter Tryz.func59,Tryz.ntmps59;go_wp2_with (at_builtin;go_loud (refine wpList_append_own_at _ rfl _ _ 56 rfl w.heap.size 55 i0 _ 2 24 Tryz.underlying56 hi hz0 hz1 hz2 rfl (by decide) _ _ _ rfl HOA.out ⟨_,0,none⟩ 1 1 [S t,E (-1)] rfl rfl (news_pt wr t (-1)) (by simp [Value.oneCell']) (by unfold maxLen;have:=HA.out;omega) (by have:=HA.out;omega) (by have:=HP.out.bel.size;simp;omega) ?_);intro v2 w4 hown hgrow _ hat;obtain ⟨g',cap',rfl⟩:=ownsRow_succ hown;rw [show flP a ++ [S t,E (-1)] = flP (a ++ [⟨t,-1⟩]) from by rw [flP_append];rfl] at hown;obtain ⟨d1,d2,d3⟩:=HP.out.grow hown (by simp) hgrow hat;have HP4:=Lib.hid d1;clear d1 hown hgrow hat HOA c1 c2 c3 c4;obtain ⟨c1,c2,c3,c4⟩:=HP4.out.cells);go_end0;exact ⟨rfl,_,_,_,by rw [HFL.out];exact HP4.out.text []⟩
def ParAns (w:World) (r:Option (List Pt) × Nat) (e:Ending) (w':World):Prop:=match r with
 | (some l,_)=>∃ v,e = .returned (.tuple #[v,E 0,E 0]) /\ w'.ownsRow w.heap.size 55 2 v l.length (flP l) /\ Below w.heap.size w w'
 | (none,i)=>e = .returned (.tuple #[.slice none 0 0,E (i:Nat),E 90]) /\ Below w.heap.size w w'
theorem ps_start (w:World):PS w [] [] (.slice none 0 0) ((w.alloc (.cells #[.slice none 0 0] 56)).alloc (.cells #[S []] 9)) :=
 ⟨heap_alloc2_old _ _ _,heap_alloc2_new _ _ _,World.ownsRow_nil _ _ _ _,(by intro g h;cases h),((Below.refl _ _).alloc (Nat.le_refl _) _).alloc (by simp) _⟩
theorem PS.nil {w wr:World} {t:List UInt8} {a:List Pt} {v:Value} (h:PS w t a v wr):(wr.setCell ⟨w.heap.size,0,none⟩ (.slice none 0 0)).heap[w.heap.size]? = some (.cells #[.slice none 0 0] 56 (0,0)) /\ Below w.heap.size w (wr.setCell ⟨w.heap.size,0,none⟩ (.slice none 0 0)) :=
 ⟨Go.Joins.block_setCell h.pv (i:=0) (.slice none 0 0),h.bel.setCell (Nat.le_refl _) _⟩
theorem conv1b (d:UInt8) (w:World):(convert 96 9 (.slice (some ⟨w.heap.size,0,none⟩) 1 1)).run Tryz.prog (w.alloc (.cells #[.int .u8 d.toNat] 5)) = .ok (S [d]) (w.alloc (.cells #[.int .u8 d.toNat] 5)) :=
 run_convert_bytes_back (P:=Tryz.prog) (w.alloc (.cells #[.int .u8 d.toNat] 5)) 96 9 5 ⟨w.heap.size,0,none⟩ 1 [d] Tryz.underlying96 Tryz.underlying5 Tryz.underlying9 (by
  intro j hj
  match j,hj with
  | 0,_=>simp [Addr.add])
theorem results_3 {fn:Func} {p u u2:Tmp} (h:fn.results = #[.cell p 56,.tmp u,.tmp u2]) {tmps:Array Value} {w:World} {g:Nat} {v:Value} (hp:tmps.getD p undef = .pointer (some ⟨g,0,none⟩)) (hc:(loadVar 56 ⟨g,0,none⟩).run Tryz.prog w = .ok v w) :
  (results fn tmps).run Tryz.prog w = .ok (.tuple #[v,tmps.getD u undef,tmps.getD u2 undef]) w:=by
 have e:(results fn tmps).run Tryz.prog w = ((asAddr (tmps.getD p undef)).run Tryz.prog w).andThen fun a w₁=>((loadVar 56 a).run Tryz.prog w₁).andThen fun v w₂=>.ok (.tuple #[v,tmps.getD u undef,tmps.getD u2 undef]) w₂:=by
  simp only [results,h];simp [Sem.run_bind,Result.andThen]
 rw [e,hp,show (asAddr (.pointer (some ⟨g,0,none⟩))).run Tryz.prog w = .ok ⟨g,0,none⟩ w from rfl];simp only [Result.andThen];rw [hc]
theorem load_sl (w:World) (g:Nat) (ao:Option Addr) (n c:Nat) (h:w.heap[g]? = some (.cells #[.slice ao n c] 56 (0,0))):(loadVar 56 ⟨g,0,none⟩).run Tryz.prog w = .ok (.slice ao n c) w:=by
 have:=(Lib.cell_of_heap h 0).trans rfl;go_simp
theorem idx_esc (c:UInt8) (w:World):Calls Tryz.prog 60 #[.string ⟨#[10,92,38,47]⟩,.int .u8 (c.toNat:Int)] w fun e w'=>e = .returned (E (Lib.indexByte [10,92,38,47] c)) /\ w' = w:=by
 have h:=Tryz.strings_IndexByte ⟨#[10,92,38,47]⟩ (c.toNat:Int) w
 rwa [Int.toNat_natCast,show c.toNat.toUInt8 = c from by simp] at h
theorem idx_at4 {c:UInt8} (h:c = 10 \/ c = 92 \/ c = 38 \/ c = 47):¬ Lib.indexByte [10,92,38,47] c < 0:=by
 rcases h with rfl | rfl | rfl | rfl <;> decide
theorem idx_no4 {c:UInt8} (h:¬ (c = 10 \/ c = 92 \/ c = 38 \/ c = 47)):Lib.indexByte [10,92,38,47] c < 0:=by
 (have e1:((10:UInt8) == c) = false:=by rw [beq_eq_false_iff_ne];exact fun q=>h (Or.inl q.symm));(have e2:((92:UInt8) == c) = false:=by rw [beq_eq_false_iff_ne];exact fun q=>h (Or.inr (Or.inl q.symm)));(have e3:((38:UInt8) == c) = false:=by rw [beq_eq_false_iff_ne];exact fun q=>h (Or.inr (Or.inr (Or.inl q.symm))));(have e4:((47:UInt8) == c) = false:=by rw [beq_eq_false_iff_ne];exact fun q=>h (Or.inr (Or.inr (Or.inr q.symm))));simp [Lib.indexByte,e1,e2,e3,e4]
theorem sparse_any (s:List UInt8) (hs:s.length <= 10000) (w:World) (R:Option (List Pt) × Nat) (hR:parS s 0 [] [] = R) :
  Calls Tryz.prog 33 #[S s] w (ParAns w R):=by
 obtain ⟨i0,hi,hz0,hz1,hz2⟩:=info_parts infoP;(have hmf:∀ (fn:Fn) (first cap:Array Value) (w:World),(Instr.makeFunc fn first cap).run Tryz.prog w = .ok (.func fn first cap) w:=fun _ _ _ _=>rfl);(have hsz:(ByteArray.mk s.toArray).size = s.length:=by simp [ByteArray.size]);have HS0:=Lib.hid (ps_start w);have HR0:=Lib.hid hR;have HSL:=Lib.hid hs;clear hR hs;go_enter Tryz.func33,Tryz.ntmps33;rw [show Code.region 3 = Fz 3 from rfl];go_wp2;refine at_world (p:=fun V=>PS w [] [] (.slice none 0 0) V) HS0.out (fun V hV=>?_);have HV:=Lib.hid hV;clear hV HS0;rw [show Fz 3 = Code.region 3 from rfl];go_wp2;go_loopw [7] (fun iv wr=>∃ (k:Nat) (t:List UInt8) (a:List Pt) (v:Value),k <= s.length /\ iv = .int .i64 (k:Nat) /\ t.length <= k /\ a.length <= 2 * k /\ Hid (parS (s.drop k) k t a = R) /\ Hid (PS w t a v wr)) (fun iv _=>s.length - (intOf iv).toNat);(case atStart=>exact ⟨0,[],[],_,Nat.zero_le _,rfl,by simp,by simp,by rw [List.drop_zero];exact HR0,HV⟩);case round =>
  clear HV HR0;obtain ⟨k,t,a,v,hk,rfl,htl,hal,HR,HP⟩:=hrel;obtain ⟨c1,c2,c3,c4⟩:=HP.out.cells;by_cases hlt:k < s.length
  ·
   (have hlt':(k:Int) < (s.length:Int):=by omega);(have hk0:(0:Int) <= (k:Int):=by omega);(have hwk:IntKind.i64.wrap ((k:Int) + 1) = (k:Int) + 1:=by rw [IntKind.wrap_i64];have:=HSL.out;omega);have hdr:s.drop k = s[k] :: s.drop (k + 1):=List.drop_eq_getElem_cons hlt;have hr:=HR.out;rw [hdr] at hr;have hg:=(show (ByteArray.mk s.toArray)[k]'(by rw [hsz];exact hlt) = s[k] from rfl);generalize s[k] = c at *;have HK:=Lib.hid (show k < s.length /\ t.length <= k /\ a.length <= 2 * k from ⟨hlt,htl,hal⟩);clear hdr HR htl hal hk;go_wp2;by_cases hc:c = 38
   ·
    subst hc;rw [par_38] at hr;obtain ⟨af,haf⟩:∃ af,af = a ++ flushP t:=⟨_,rfl⟩;have HAF:=Lib.hid haf;clear haf;have HLA:=Lib.hid (show af.length <= 2 * k + 1 from by rw [HAF.out];have:=HK.out;unfold flushP;split <;> simp <;> omega);rw [<- HAF.out] at hr;have HRR:=Lib.hid hr;clear hr;refine wp_scope_jumps 0 (fun _ _=>False) (fun _ _=>0) rfl ?_ (fun _ _ h=>h.elim);go_wp2_with (first
     | (go_at_call 59;refine (flush_any w t a v _ HP.out (by have:=HK.out;have:=HSL.out;omega)).mono ?_;rintro e w2 ⟨rfl,ao2,n2,cp2,hp⟩;rw [<- HAF.out] at hp;have HP2:=Lib.hid hp;clear hp HP c1 c2 c3 c4;obtain ⟨c1,c2,c3,c4⟩:=HP2.out.cells;have HOA:=Lib.hid (HP2.out.own.alloc (.cells #[S [],E 0] 55)))
     | (at_builtin;go_loud (refine wpList_append_own_at _ rfl _ _ 56 rfl w.heap.size 55 i0 _ 2 24 Tryz.underlying56 hi hz0 hz1 hz2 rfl (by decide) _ _ _ rfl HOA.out ⟨_,0,none⟩ 1 1 [S [],E 0] rfl rfl (news_pt w2 [] 0) (by simp [Value.oneCell']) (by unfold maxLen;have:=HLA.out;have:=HSL.out;have:=HK.out;omega) (by have:=HLA.out;have:=HSL.out;have:=HK.out;omega) (by have:=HP2.out.bel.size;simp;omega) ?_);intro v3 w4 hown hgrow _ hat;obtain ⟨g',cap',rfl⟩:=ownsRow_succ hown;rw [show flP af ++ [S [],E 0] = flP (af ++ [⟨[],0⟩]) from by rw [flP_append _ [_]];rfl] at hown;obtain ⟨d1,d2,d3⟩:=HP2.out.grow hown (by simp only [List.length_append,List.length_cons,List.length_nil]) hgrow hat;have HP4:=Lib.hid d1;clear d1 hown hgrow hat HOA c1 c2 c3 c4))
    (try simp only [Exit.jump]);go_wp2;go_roundw;(case rel=>exact ⟨k + 1,[],af ++ [⟨[],0⟩],_,by have:=HK.out;omega,by go_num,by have:=HK.out;(try simp only [List.length_append,List.length_cons,List.length_nil]);omega,by have:=HK.out;have:=HLA.out;(try simp only [List.length_append,List.length_cons,List.length_nil]);omega,HRR,HP4⟩);case measure=>have:=HK.out;simp [intOf];omega
   by_cases hc2:c = 10
   · have hc:=hc2;subst hc;rw [par_10] at hr;have HRR:=Lib.hid hr;clear hr;have HN:=Lib.hid HP.out.nil;refine wp_scope_jumps 0 (fun _ _=>False) (fun _ _=>0) rfl ?_ (fun _ _ h=>h.elim);go_wp2;(try simp only [Exit.jump]);generalize World.setCell _ _ _ = W9 at HN ⊢;refine bodyPost_ret (results_3 rfl rfl (load_sl W9 w.heap.size none 0 0 HN.out.1)) rfl ?_;rw [<- HRR.out];exact ⟨rfl,HN.out.2⟩
   by_cases hc3:c ≠ 92
   ·
    have hc1:=hc;have n38:((c.toNat:Int) == 38) = false:=u8_ne hc1;have n10:((c.toNat:Int) == 10) = false:=u8_ne hc2;have n92:((c.toNat:Int) == 92) = false:=u8_ne hc3;rw [par_c hc1 hc2 hc3] at hr;have HRR:=Lib.hid hr;clear hr;have HLA:=Lib.hid (show a.length <= 2 * k from HK.out.2.2);refine wp_scope_jumps 0 (fun a' w'=>w' = wr /\ ∃ (x10 x11 x12 x13 x14 x15 x16 x17 x18 x19 x20 x21 x22 x23 x24 x25 x26 x27 x28 x29 x30 x31 x32 x33 x34 x35 x36 x37 x38 x39 x40 x41 x42 x43 x44 x45 x46 x47 x48 x49 x50 x51 x52 x53 x54 x55 x56 x57 x58 x59 x60 x61 x62 x63 x64 x65 x66 x67 x68 x69 x70 x71 x72:Value),a' = { tmps:=#[S s,undef,Value.pointer (some { block:=w.heap.size,off:=0 }),u3,u4,Value.pointer (some { block:=w.heap.size + 1,off:=0 }),Value.func (Fn.func 59) #[] #[Value.pointer (some { block:=w.heap.size + 1,off:=0 }),Value.pointer (some { block:=w.heap.size,off:=0 })],E (k:Nat),Value.int IntKind.u8 (c.toNat:Int),Value.func (Fn.func 59) #[] #[Value.pointer (some { block:=w.heap.size + 1,off:=0 }),Value.pointer (some { block:=w.heap.size,off:=0 })],x10,x11,x12,x13,x14,x15,x16,x17,x18,x19,x20,x21,x22,x23,x24,x25,x26,x27,x28,x29,x30,x31,x32,x33,x34,x35,x36,x37,x38,x39,x40,x41,x42,x43,x44,x45,x46,x47,x48,x49,x50,x51,x52,x53,x54,x55,x56,x57,x58,x59,x60,x61,x62,x63,x64,x65,x66,x67,x68,x69,x70,x71,x72,undef,undef,undef],defers:=[] }) (fun _ _=>0) rfl ?_ ?_
    · go_wp2;go_step3;exact ⟨rfl,rfl,_,_,_,_,_,_,_,_,_,_,_,_,_,_,_,_,_,_,_,_,_,_,_,_,_,_,_,_,_,_,_,_,_,_,_,_,_,_,_,_,_,_,_,_,_,_,_,_,_,_,_,_,_,_,_,_,_,_,_,_,_,_,_,rfl⟩
    · rintro a' w' ⟨rfl,x10,x11,x12,x13,x14,x15,x16,x17,x18,x19,x20,x21,x22,x23,x24,x25,x26,x27,x28,x29,x30,x31,x32,x33,x34,x35,x36,x37,x38,x39,x40,x41,x42,x43,x44,x45,x46,x47,x48,x49,x50,x51,x52,x53,x54,x55,x56,x57,x58,x59,x60,x61,x62,x63,x64,x65,x66,x67,x68,x69,x70,x71,x72,rfl⟩;have HP5:=Lib.hid ((HP.out.below ((Below.refl _ _).alloc (Nat.le_refl _) (.cells #[.int .u8 ((c).toNat:Nat)] 5))).text (t ++ [c]));have hcv:=conv1b (c) w';(have hadd:=fun W=>run_string_add_sum (P:=Tryz.prog) W ⟨t.toArray⟩ ⟨[c].toArray⟩ (by have:=HK.out;have:=HSL.out;simp only [ByteArray.size,List.size_toArray,List.length_cons,List.length_nil];omega));rw [app_arr'] at hadd;have hce:=HP.out.cells2 (c);obtain ⟨e1,e2,e3,e4⟩:=hce;go_wp2;(try simp only [Exit.jump]);go_wp2;go_roundw;(case rel=>exact ⟨_,_,_,_,_,_,_,_,_,_,_,_,_,_,_,_,_,_,_,_,_,_,_,_,_,_,_,_,_,_,_,_,_,_,_,_,_,_,_,_,_,_,_,_,_,_,_,_,_,_,_,_,_,_,_,_,_,_,_,_,_,_,_,_,_,_,_,⟨k + 1,t ++ [c],a,v,by have:=HK.out;omega,by go_num,by have:=HK.out;(try simp only [List.length_append,List.length_cons,List.length_nil]);omega,by have:=HK.out;have:=HLA.out;(try simp only [List.length_append,List.length_cons,List.length_nil]);omega,HRR,HP5⟩,rfl⟩);case measure=>have:=HK.out;simp [intOf];omega
   have hc:c = 92:=Decidable.not_not.1 hc3;subst hc;by_cases hlt2:k + 1 < s.length
   ·
    (have hlt3:(k:Int) + 1 < (s.length:Int):=by omega);(have hk10:(0:Int) <= (k:Int) + 1:=by omega);(have hne2:((k:Int) + 1 == (s.length:Int)) = false:=by rw [beq_eq_false_iff_ne];omega);(have hwk2:IntKind.i64.wrap ((k:Int) + 1 + 1) = (k:Int) + 1 + 1:=by rw [IntKind.wrap_i64];have:=HSL.out;omega);(have hwk3:IntKind.i64.wrap ((k:Int) + 1 - 1) = (k:Int):=by rw [IntKind.wrap_i64];have:=HSL.out;omega);(have hwk4:IntKind.i64.wrap (k:Int) = (k:Int):=by rw [IntKind.wrap_i64];have:=HSL.out;omega);(have hkt:((k:Int) + 1).toNat = k + 1:=by omega);have hdr2:s.drop (k + 1) = s[k + 1] :: s.drop (k + 2):=List.drop_eq_getElem_cons hlt2;rw [hdr2,par_92] at hr;have hg2:=(show (ByteArray.mk s.toArray)[k + 1]'(by rw [hsz];exact hlt2) = s[k + 1] from rfl);generalize s[k + 1] = d at *;have HK2:=Lib.hid hlt2;clear hdr2;by_cases hd:49 <= d /\ d <= 57
    ·
     (have d1:(49:Int) <= (d.toNat:Int):=by have:=UInt8.le_iff_toNat_le.1 hd.1;(have h:(49:UInt8).toNat <= d.toNat:=this;have e:(49:UInt8).toNat = 49:=rfl;omega));(have d2:(d.toNat:Int) <= 57:=by have:=UInt8.le_iff_toNat_le.1 hd.2;(have h:d.toNat <= (57:UInt8).toNat:=this;have e:(57:UInt8).toNat = 57:=rfl;omega));(have hw8:IntKind.u8.wrap ((d.toNat:Int) - 48) = (d.toNat:Int) - 48:=by rw [IntKind.wrap_u8];omega);rw [if_pos hd] at hr;obtain ⟨af,haf⟩:∃ af,af = a ++ flushP t:=⟨_,rfl⟩;have HAF:=Lib.hid haf;clear haf;have HLA:=Lib.hid (show af.length <= 2 * k + 1 from by rw [HAF.out];have:=HK.out;unfold flushP;split <;> simp <;> omega);rw [<- HAF.out] at hr;have HRR:=Lib.hid hr;clear hr;refine wp_scope_jumps 0 (fun _ _=>False) (fun _ _=>0) rfl ?_ (fun _ _ h=>h.elim);go_wp2_with (first
      | (go_at_call 59;refine (flush_any w t a v _ HP.out (by have:=HK.out;have:=HSL.out;omega)).mono ?_;rintro e w2 ⟨rfl,ao2,n2,cp2,hp⟩;rw [<- HAF.out] at hp;have HP2:=Lib.hid hp;clear hp HP c1 c2 c3 c4;obtain ⟨c1,c2,c3,c4⟩:=HP2.out.cells;have HOA:=Lib.hid (HP2.out.own.alloc (.cells #[S [],E ((d.toNat:Int) - 48)] 55)))
      | (at_builtin;go_loud (refine wpList_append_own_at _ rfl _ _ 56 rfl w.heap.size 55 i0 _ 2 24 Tryz.underlying56 hi hz0 hz1 hz2 rfl (by decide) _ _ _ rfl HOA.out ⟨_,0,none⟩ 1 1 [S [],E ((d.toNat:Int) - 48)] rfl rfl (news_pt w2 [] ((d.toNat:Int) - 48)) (by simp [Value.oneCell']) (by unfold maxLen;have:=HLA.out;have:=HSL.out;have:=HK.out;omega) (by have:=HLA.out;have:=HSL.out;have:=HK.out;omega) (by have:=HP2.out.bel.size;simp;omega) ?_);intro v3 w4 hown hgrow _ hat;obtain ⟨g',cap',rfl⟩:=ownsRow_succ hown;rw [show flP af ++ [S [],E ((d.toNat:Int) - 48)] = flP (af ++ [⟨[],((d.toNat:Int) - 48)⟩]) from by rw [flP_append _ [_]];rfl] at hown;obtain ⟨d1,d2,d3⟩:=HP2.out.grow hown (by simp only [List.length_append,List.length_cons,List.length_nil]) hgrow hat;have HP4:=Lib.hid d1;clear d1 hown hgrow hat HOA c1 c2 c3 c4))
     (try simp only [Exit.jump]);go_wp2;go_roundw;(case rel=>exact ⟨k + 2,[],af ++ [⟨[],(d.toNat:Int) - 48⟩],_,by have:=HK.out;have:=HK2.out;omega,by go_num,by have:=HK.out;(try simp only [List.length_append,List.length_cons,List.length_nil]);omega,by have:=HK.out;have:=HLA.out;(try simp only [List.length_append,List.length_cons,List.length_nil]);omega,HRR,HP4⟩);case measure=>have:=HK.out;simp [intOf];omega
    ·
     (have hnd:¬ ((49:Int) <= (d.toNat:Int) /\ (d.toNat:Int) <= 57):=fun q=>hd ⟨UInt8.le_iff_toNat_le.2 (by show (49:UInt8).toNat <= d.toNat;have e:(49:UInt8).toNat = 49:=rfl;omega),UInt8.le_iff_toNat_le.2 (by show d.toNat <= (57:UInt8).toNat;have e:(57:UInt8).toNat = 57:=rfl;omega)⟩);rw [if_neg hd] at hr;have HLA:=Lib.hid (show a.length <= 2 * k from HK.out.2.2);by_cases hn:d = 110
     · rw [if_pos hn] at hr;subst hn;clear hnd hd;(have d1:(49:Int) <= ((110:UInt8).toNat:Int):=by decide);(have d2:¬ ((110:UInt8).toNat:Int) <= 57:=by decide);obtain ⟨dd,hdd,hdn⟩:∃ dd:UInt8,(10:UInt8) = dd /\ (dd.toNat:Int) = 10:=⟨10,rfl,rfl⟩;rw [hdd] at hr;clear hdd;have HRR:=Lib.hid hr;clear hr;refine wp_scope_jumps 0 (fun _ _=>False) (fun _ _=>0) rfl ?_ (fun _ _ h=>h.elim);have HP5:=Lib.hid ((HP.out.below ((Below.refl _ _).alloc (Nat.le_refl _) (.cells #[.int .u8 ((dd).toNat:Nat)] 5))).text (t ++ [dd]));have hcv:=conv1b (dd) wr;(have hadd:=fun W=>run_string_add_sum (P:=Tryz.prog) W ⟨t.toArray⟩ ⟨[dd].toArray⟩ (by have:=HK.out;have:=HSL.out;simp only [ByteArray.size,List.size_toArray,List.length_cons,List.length_nil];omega));rw [app_arr'] at hadd;have hce:=HP.out.cells2 (dd);obtain ⟨e1,e2,e3,e4⟩:=hce;rw [hdn] at hcv HP5 e1 e2 e3 e4;go_wp2_with (go_at_call 60;refine (idx_esc _ _).mono ?_;rintro e w5 ⟨rfl,rfl⟩);(try simp only [Exit.jump]);refine wp_label ?_;(try simp only [Exit.then]);go_wp2;(try simp only [Exit.jump]);go_wp2;go_roundw;(case rel=>exact ⟨k + 2,t ++ [dd],a,v,by have:=HK.out;have:=HK2.out;omega,by go_num,by have:=HK.out;(try simp only [List.length_append,List.length_cons,List.length_nil]);omega,by have:=HK.out;have:=HLA.out;(try simp only [List.length_append,List.length_cons,List.length_nil]);omega,HRR,HP5⟩);case measure=>have:=HK.out;simp [intOf];omega
     ·
      rw [if_neg hn] at hr;have n110:((d.toNat:Int) == 110) = false:=u8_ne hn;by_cases he:d = 10 \/ d = 92 \/ d = 38 \/ d = 47
      ·
       rw [if_pos he] at hr;have hix:=idx_at4 he;have HHE:=Lib.hid he;clear he;by_cases d1:(49:Int) <= (d.toNat:Int)
       · (have d2:¬ (d.toNat:Int) <= 57:=fun q=>hnd ⟨d1,q⟩);clear hnd hd;have HRR:=Lib.hid hr;clear hr;refine wp_scope_jumps 0 (fun _ _=>False) (fun _ _=>0) rfl ?_ (fun _ _ h=>h.elim);have HP5:=Lib.hid ((HP.out.below ((Below.refl _ _).alloc (Nat.le_refl _) (.cells #[.int .u8 ((d).toNat:Nat)] 5))).text (t ++ [d]));have hcv:=conv1b (d) wr;(have hadd:=fun W=>run_string_add_sum (P:=Tryz.prog) W ⟨t.toArray⟩ ⟨[d].toArray⟩ (by have:=HK.out;have:=HSL.out;simp only [ByteArray.size,List.size_toArray,List.length_cons,List.length_nil];omega));rw [app_arr'] at hadd;have hce:=HP.out.cells2 (d);obtain ⟨e1,e2,e3,e4⟩:=hce;go_wp2_with (go_at_call 60;refine (idx_esc _ _).mono ?_;rintro e w5 ⟨rfl,rfl⟩);(try simp only [Exit.jump]);refine wp_label ?_;(try simp only [Exit.then]);go_wp2;(try simp only [Exit.jump]);go_wp2;go_roundw;(case rel=>exact ⟨k + 2,t ++ [d],a,v,by have:=HK.out;have:=HK2.out;omega,by go_num,by have:=HK.out;(try simp only [List.length_append,List.length_cons,List.length_nil]);omega,by have:=HK.out;have:=HLA.out;(try simp only [List.length_append,List.length_cons,List.length_nil]);omega,HRR,HP5⟩);case measure=>have:=HK.out;simp [intOf];omega
       · clear hnd hd;have HRR:=Lib.hid hr;clear hr;refine wp_scope_jumps 0 (fun _ _=>False) (fun _ _=>0) rfl ?_ (fun _ _ h=>h.elim);have HP5:=Lib.hid ((HP.out.below ((Below.refl _ _).alloc (Nat.le_refl _) (.cells #[.int .u8 ((d).toNat:Nat)] 5))).text (t ++ [d]));have hcv:=conv1b (d) wr;(have hadd:=fun W=>run_string_add_sum (P:=Tryz.prog) W ⟨t.toArray⟩ ⟨[d].toArray⟩ (by have:=HK.out;have:=HSL.out;simp only [ByteArray.size,List.size_toArray,List.length_cons,List.length_nil];omega));rw [app_arr'] at hadd;have hce:=HP.out.cells2 (d);obtain ⟨e1,e2,e3,e4⟩:=hce;go_wp2_with (go_at_call 60;refine (idx_esc _ _).mono ?_;rintro e w5 ⟨rfl,rfl⟩);(try simp only [Exit.jump]);refine wp_label ?_;(try simp only [Exit.then]);go_wp2;(try simp only [Exit.jump]);go_wp2;go_roundw;(case rel=>exact ⟨k + 2,t ++ [d],a,v,by have:=HK.out;have:=HK2.out;omega,by go_num,by have:=HK.out;(try simp only [List.length_append,List.length_cons,List.length_nil]);omega,by have:=HK.out;have:=HLA.out;(try simp only [List.length_append,List.length_cons,List.length_nil]);omega,HRR,HP5⟩);case measure=>have:=HK.out;simp [intOf];omega
      ·
       rw [if_neg he] at hr;have hix:=idx_no4 he;clear he;by_cases d1:(49:Int) <= (d.toNat:Int)
       · (have d2:¬ (d.toNat:Int) <= 57:=fun q=>hnd ⟨d1,q⟩);clear hnd hd;have HRR:=Lib.hid hr;clear hr;have HN:=Lib.hid HP.out.nil;refine wp_scope_jumps 0 (fun _ _=>False) (fun _ _=>0) rfl ?_ (fun _ _ h=>h.elim);go_wp2_with (go_at_call 60;refine (idx_esc _ _).mono ?_;rintro e w5 ⟨rfl,rfl⟩);(try simp only [Exit.jump]);generalize World.setCell _ _ _ = W9 at HN ⊢;refine bodyPost_ret (results_3 rfl rfl (load_sl W9 w.heap.size none 0 0 HN.out.1)) rfl ?_;rw [<- HRR.out];exact ⟨rfl,HN.out.2⟩
       · clear hnd hd;have HRR:=Lib.hid hr;clear hr;have HN:=Lib.hid HP.out.nil;refine wp_scope_jumps 0 (fun _ _=>False) (fun _ _=>0) rfl ?_ (fun _ _ h=>h.elim);go_wp2_with (go_at_call 60;refine (idx_esc _ _).mono ?_;rintro e w5 ⟨rfl,rfl⟩);(try simp only [Exit.jump]);generalize World.setCell _ _ _ = W9 at HN ⊢;refine bodyPost_ret (results_3 rfl rfl (load_sl W9 w.heap.size none 0 0 HN.out.1)) rfl ?_;rw [<- HRR.out];exact ⟨rfl,HN.out.2⟩
   · (have heq2:((k:Int) + 1 == (s.length:Int)) = true:=by rw [beq_iff_eq];have:=HK.out;omega);(have hwk3:IntKind.i64.wrap ((k:Int) + 1 - 1) = (k:Int):=by rw [IntKind.wrap_i64];have:=HSL.out;omega);(have hwk4:IntKind.i64.wrap (k:Int) = (k:Int):=by rw [IntKind.wrap_i64];have:=HSL.out;omega);have hnil:s.drop (k + 1) = []:=List.drop_eq_nil_of_le (by omega);rw [hnil,par_end] at hr;clear hnil hlt2;have HRR:=Lib.hid hr;clear hr;have HN:=Lib.hid HP.out.nil;refine wp_scope_jumps 0 (fun _ _=>False) (fun _ _=>0) rfl ?_ (fun _ _ h=>h.elim);go_wp2;(try simp only [Exit.jump]);generalize World.setCell _ _ _ = W9 at HN ⊢;refine bodyPost_ret (results_3 rfl rfl (load_sl W9 w.heap.size none 0 0 HN.out.1)) rfl ?_;rw [<- HRR.out];exact ⟨rfl,HN.out.2⟩
  · (obtain rfl:k = s.length:=by omega);(have hnl:¬ (s.length:Int) < (s.length:Int):=by omega);have hr:=HR.out;rw [List.drop_length] at hr;have HRR:=Lib.hid (show (some (a ++ flushP t),0) = R from hr);have HAL:=Lib.hid (show a.length <= 100000 from by have:=HSL.out;omega);clear hr HR;go_wp2_with (go_at_call 59;refine (flush_any w t a v _ HP.out HAL.out).mono ?_;rintro e w2 ⟨rfl,ao2,n2,cp2,hp⟩;have HP2:=Lib.hid hp;clear hp HP c1 c2 c3 c4;obtain ⟨c1,c2,c3,c4⟩:=HP2.out.cells);have HP3:=Lib.hid HP2.out.same;generalize World.setCell _ _ _ = W9 at HP3 ⊢;refine bodyPost_ret (results_3 rfl rfl (load_sl W9 w.heap.size ao2 n2 cp2 HP3.out.pv)) rfl ?_;rw [<- HRR.out];exact ⟨_,rfl,HP3.out.own,HP3.out.bel⟩
open Rx.Tr
open St (Wf word mem SV SV_eq ofL wf_ofL bytesL)
theorem sbounded_any (ao:Option Addr) (c:Nat) (l:List Nd) (w:World) (h:Ns w (.slice ao l.length c) l) (hl:l.length <= maxLen) (T:List UInt8) (R:Bool) (hR:R = boundedL 16 8 5 l T.length) :
  Calls Tryz.prog 28 #[.slice ao l.length c,S T] w fun e w'=>e = .returned (.bool R) /\ w = w':=by
 have HRR:=Lib.hid hR;clear hR;have HN:=Lib.hid h;have HL:=Lib.hid hl;clear h hl;go_enter Tryz.func28,Tryz.ntmps28;go_wp2;go_loopw [5,6,7] (fun nv rv iv wr=>∃ k:Nat,k <= l.length /\ nv = .int .i64 (cntK l 6 k:Nat) /\ rv = .int .i64 (cntK l 8 k:Nat) /\ iv = .int .i64 (k:Nat) /\ w = wr) (fun _ _ iv _=>l.length - (intOf iv).toNat);(case atStart=>exact ⟨0,Nat.zero_le _,rfl,rfl,rfl,rfl⟩);case round =>
  obtain ⟨k,hk,rfl,rfl,rfl,rfl⟩:=hrel;by_cases hlt:k < l.length
  ·
   obtain ⟨b,o,rfl,hc⟩:=HN.out.at hlt;have q0:=hc.1;(have hlt':(k:Int) < (l.length:Int):=by omega);(have hk0:(0:Int) <= (k:Int):=by omega);(have hwk:IntKind.i64.wrap ((k:Int) + 1) = (k:Int) + 1:=by rw [IntKind.wrap_i64];have:=HL.out;unfold maxLen at this;omega);have h6:=cnt_next l 6 hlt;have h8:=cnt_next l 8 hlt;have l6:=cnt_le l 6 k;have l8:=cnt_le l 8 k;obtain ⟨c6,hc6⟩:∃ c6,cntK l 6 k = c6:=⟨_,rfl⟩;obtain ⟨c8,hc8⟩:∃ c8,cntK l 8 k = c8:=⟨_,rfl⟩;rw [hc6] at h6 l6;rw [hc8] at h8 l8;rw [hc6,hc8];(have hw6:IntKind.i64.wrap ((c6:Int) + 1) = (c6:Int) + 1:=by rw [IntKind.wrap_i64];have:=HL.out;unfold maxLen at this;omega);(have hw8:IntKind.i64.wrap ((c8:Int) + 1) = (c8:Int) + 1:=by rw [IntKind.wrap_i64];have:=HL.out;unfold maxLen at this;omega);clear hc hc6 hc8;generalize (l[k]'hlt).k = kd at *;have H6:=Lib.hid h6;have H8:=Lib.hid h8;clear h6 h8 l6 l8;by_cases e6:kd = 6
   · subst e6;go_wp2;go_roundw;(case rel=>exact ⟨k + 1,by omega,by rw [H6.out];simp,by rw [H8.out];simp,by go_num,trivial⟩);case measure=>simp [intOf];omega
   ·
    (have hq6:(kd == 6) = false:=by rw [beq_eq_false_iff_ne];exact e6);by_cases e8:kd = 8
    · subst e8;go_wp2;go_roundw;(case rel=>exact ⟨k + 1,by omega,by rw [H6.out];simp,by rw [H8.out];simp,by go_num,trivial⟩);case measure=>simp [intOf];omega
    · (have hq8:(kd == 8) = false:=by rw [beq_eq_false_iff_ne];exact e8);have E6:=Lib.hid e6;have E8:=Lib.hid e8;clear e6 e8;go_wp2;go_roundw;(case rel=>exact ⟨k + 1,by omega,by rw [H6.out,if_neg E6.out];rfl,by rw [H8.out,if_neg E8.out];rfl,by go_num,trivial⟩);case measure=>simp [intOf];omega
  ·
   (obtain rfl:k = l.length:=by omega);have HB:=Lib.hid (show R = (decide (l.length <= 16) && (decide (T.length <= 8) && (decide (cntK l 8 l.length = 0) || (decide (cntK l 6 l.length <= 2) && decide (T.length <= 5))))) from HRR.out);generalize cntK l 6 l.length = c6 at *;generalize cntK l 8 l.length = c8 at *;(have hn1:¬ (l.length:Int) < (l.length:Int):=by omega);by_cases a1:l.length <= 16
   ·
    (have b1:(l.length:Int) <= 16:=by omega);have D1:=Lib.hid (decide_eq_true a1);clear a1;by_cases a2:T.length <= 8
    ·
     (have b2:(T.length:Int) <= 8:=by omega);have D2:=Lib.hid (decide_eq_true a2);clear a2;by_cases a3:c8 = 0
     · (have b3:((c8:Int) == 0) = true:=by rw [a3];rfl);have D3:=Lib.hid (decide_eq_true a3);clear a3;go_wp2;go_ret;refine ⟨?_,rfl⟩;rw [HB.out,D1.out,D2.out,D3.out];(try rfl)
     ·
      (have b3:((c8:Int) == 0) = false:=by rw [beq_eq_false_iff_ne];omega);have D3:=Lib.hid (decide_eq_false a3);clear a3;by_cases a4:c6 <= 2
      ·
       (have b4:(c6:Int) <= 2:=by omega);have D4:=Lib.hid (decide_eq_true a4);clear a4;by_cases a5:T.length <= 5
       · (have b5:(T.length:Int) <= 5:=by omega);have D5:=Lib.hid (decide_eq_true a5);clear a5;go_wp2;go_ret;refine ⟨?_,rfl⟩;rw [HB.out,D1.out,D2.out,D3.out,D4.out,D5.out];(try rfl)
       · (have b5:¬ (T.length:Int) <= 5:=by omega);have D5:=Lib.hid (decide_eq_false a5);clear a5;go_wp2;go_ret;refine ⟨?_,rfl⟩;rw [HB.out,D1.out,D2.out,D3.out,D4.out,D5.out];(try rfl)
      · (have b4:¬ (c6:Int) <= 2:=by omega);have D4:=Lib.hid (decide_eq_false a4);clear a4;go_wp2;go_ret;refine ⟨?_,rfl⟩;rw [HB.out,D1.out,D2.out,D3.out,D4.out];(try rfl)
    · (have b2:¬ (T.length:Int) <= 8:=by omega);have D2:=Lib.hid (decide_eq_false a2);clear a2;go_wp2;go_ret;refine ⟨?_,rfl⟩;rw [HB.out,D1.out,D2.out];(try rfl)
   · (have b1:¬ (l.length:Int) <= 16:=by omega);have D1:=Lib.hid (decide_eq_false a1);clear a1;go_wp2;go_ret;refine ⟨?_,rfl⟩;rw [HB.out,D1.out];(try rfl)
end Go.Proofs.YtinallojhkaogaaGreatDoor.Mt
