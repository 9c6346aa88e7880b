/- The texts M6O. -/
import Derived.Test.YtinallojhkaogaaGreatDoorHk23
set_option linter.unusedVariables false
set_option linter.unusedSimpArgs false
set_option maxHeartbeats 400000
set_option maxRecDepth 100000
namespace Go.Proofs.YtinallojhkaogaaGreatDoor.St
open Go.RowKit
def bc (f:Nat -> Bool):Array Value:=(Array.range 256).map fun j=>Value.bool (f j)
abbrev BV (f:Nat -> Bool):Value:=.agg (bc f)
abbrev BB (w:World) (b:Nat) (f:Nat -> Bool):Prop:=w.heap[b]? = some (.cells (bc f) 176 (0,0))
theorem bc_size (f:Nat -> Bool):(bc f).size = 256:=by simp [bc]
theorem bc_at (f:Nat -> Bool) {i:Nat} (hi:i < 256):(bc f)[i]? = some (.bool (f i)):=by
 simp [bc,hi]
theorem bc_congr {f g:Nat -> Bool} (h:∀ i,i < 256 -> f i = g i):bc f = bc g:=by
 apply Array.ext
 · simp [bc_size]
 · intro i h1 h2;(have hi:i < 256:=by rw [bc_size] at h1;exact h1);have e1:=bc_at f hi;have e2:=bc_at g hi;rw [Array.getElem?_eq_getElem h1] at e1;rw [Array.getElem?_eq_getElem h2] at e2;rw [Option.some.inj e1,Option.some.inj e2,h i hi]
theorem bc_zero:Array.replicate 256 (Value.bool false) = bc (fun _=>false):=by
 apply Array.ext
 · simp [bc_size]
 · intro i h1 h2;simp [bc]
theorem bc_one (f:Nat -> Bool):(bc f).all (·.oneCell') = true:=by
 rw [Array.all_eq_true_iff_forall_mem];intro v hv;obtain ⟨j,_,rfl⟩:=Array.mem_map.1 hv;rfl
theorem bc_set (f:Nat -> Bool) (k:Nat) (v:Bool):(bc f).setIfInBounds k (.bool v) = bc (fun i=>if i = k then v else f i):=by
 apply Array.ext_getElem?;intro i;by_cases hi:i < 256
 ·
  rw [bc_at _ hi];by_cases hk:k = i
  · subst hk;rw [Array.getElem?_setIfInBounds_self_of_lt (by rw [bc_size];exact hi)];simp
  · rw [Array.getElem?_setIfInBounds_ne hk,bc_at f hi,if_neg (fun e=>hk e.symm)]
 · rw [Array.getElem?_eq_none (by rw [Array.size_setIfInBounds,bc_size];omega),Array.getElem?_eq_none (by rw [bc_size];omega)]
theorem bc_put {f g:Nat -> Bool} {k:Nat} {v:Bool} (h:∀ i,i < 256 -> g i = if i = k then v else f i):(bc f).setIfInBounds k (.bool v) = bc g:=by
 rw [bc_set];exact bc_congr fun i hi=>(h i hi).symm
theorem BB.cell {w:World} {b:Nat} {f:Nat -> Bool} (h:BB w b f) {i:Nat} (hi:i < 256):w.cell? ⟨b,i,none⟩ = some (.bool (f i)):=by
 rw [Lib.cell_of_heap h];exact bc_at f hi
theorem BB.put {w:World} {b:Nat} {f g:Nat -> Bool} (h:BB w b f) {k:Nat} {v:Bool} (hg:∀ i,i < 256 -> g i = if i = k then v else f i):BB (w.setCell ⟨b,k,none⟩ (.bool v)) b g:=by
 unfold BB;rw [heap_set_at h,bc_put hg]
theorem BB.drew {w:World} {b:Nat} {f:Nat -> Bool} (h:BB w b f):BB w.drew b f:=h
theorem bb_new (W:World) (f:Nat -> Bool):BB (W.alloc (.cells (bc f) 176)) W.heap.size f:=heap_alloc_new _ _
theorem zero_at:∀ w,(zeroValue 176).run Tryz.prog w = .ok (.agg (bc fun _=>false)) w:=by
 have:=(zero_of_info (P:=Tryz.prog) (t:=176) (v:=.agg (Array.replicate 256 (.bool false))) (n:=256) (by kernel_rfl)).1
 rwa [bc_zero] at this
theorem heap_row_at {w:World} {b:Nat} {c:Array Value} {t:TypeId} {f:Nat × Nat} (h:w.heap[b]? = some (.cells c t f)) (c':Array Value):(w.setRow b c').heap[b]? = some (.cells c' t f):=by
 simp only [World.setRow,Array.getElem?_modify,if_true,h];rfl
theorem BB.row {w:World} {b:Nat} {f:Nat -> Bool} (h:BB w b f) (g:Nat -> Bool):BB (w.setRow b (bc g)) b g:=heap_row_at h _
theorem answer {fn:Func} {p:Tmp} (h:fn.results = #[.cell p 176]) {tmps:Array Value} {w:World} {g:Nat} {f:Nat -> Bool} (hp:tmps.getD p undef = .pointer (some ⟨g,0,none⟩)) (hg:BB w g f):(results fn tmps).run Tryz.prog w = .ok (BV f) w :=
 results_cell_row h tmps w g _ (bc f) (0,0) (.array 256 4) hp hg Tryz.underlying176 rfl (by rw [bc_size];kernel_rfl)
theorem size_at:(Tryz.prog.info? 176).map (·.size) = some 256:=by kernel_rfl
theorem tail_row {id:Nat} {o1 o2:Oper} {s d k:Nat} {Q:Exit -> Act -> World -> Prop} {a:Act} {w:World} {src dst:Nat} {f g:Nat -> Bool} (g1:o1.guard = none) (g2:o2.guard = none)
  (h1:o1.op = .load 176 (.tmp s)) (h2:o2.op = .store 176 (.tmp d) (.tmp k)) (hk:o1.dst = some k) (hk2:o2.dst = none)
  (hs:a.eval (.tmp s) = .pointer (some ⟨src,0,none⟩)) (hd:(a.put (some k) (BV f)).eval (.tmp d) = .pointer (some ⟨dst,0,none⟩)) (hv:(a.put (some k) (BV f)).eval (.tmp k) = BV f)
  (hS:BB w src f) (hD:BB w dst g) (h:Q .normal (a.put (some k) (BV f)) (w.setRow dst (bc f))):(Code.region id #[o1,o2] false).wp Tryz.prog Q a w:=by
 refine wp_region_list ?_;refine wpList_load_row g1 176 (.tmp s) h1 src hs _ (bc f) (0,0) (.array 256 4) hS Tryz.underlying176 rfl (by rw [bc_size];exact size_at) ?_;rw [hk];refine wpList_store_row g2 176 (.tmp d) (.tmp k) h2 dst (bc f) hd hv _ (bc g) hD (by rw [bc_size];exact size_at) (by rw [bc_size,bc_size]) (bc_one f) ?_;rw [hk2];exact wpList_nil h
def toldK (ws:List Nat):Nat -> List Nat
 | 0=>ws
 | k + 1=>(toldK ws k).set (k / 64) (word (toldK ws k) (k / 64) / 2)
theorem toldK_spec {ws:List Nat} (h:Wf ws):∀ k,k <= 256 -> Wf (toldK ws k) /\ ∀ j,j < 4 -> word (toldK ws k) j = word ws j / 2 ^ (min (k - 64 * j) 64)
 | 0,_=>⟨h,fun j _=>by rw [toldK];simp⟩
 | k + 1,hk=>by
  obtain ⟨h1,h2⟩:=toldK_spec h k (by omega);have hlt:=word_lt h1 (k / 64);refine ⟨wf_set h1 _ _ (by omega),fun j hj=>?_⟩;rw [toldK,word_set h1 _ _ _ (by omega)];by_cases he:j = k / 64
  ·
   rw [if_pos he,<- he,h2 j hj,Nat.div_div_eq_div_mul,<- Nat.pow_succ]
   congr 2;omega
  ·
   rw [if_neg he,h2 j hj]
   congr 2;omega
theorem told_bit {ws:List Nat} (h:Wf ws) {k:Nat} (hk:k < 256):(word (toldK ws k) (k / 64) % 2 == 1) = mem ws k:=by
 rw [(toldK_spec h k (by omega)).2 (k / 64) (by omega),show min (k - 64 * (k / 64)) 64 = k % 64 from by omega];unfold mem;rw [Nat.testBit_eq_decide_div_mod_eq];rfl
def toldB (ws:List Nat) (k:Nat):Nat -> Bool:=fun i=>decide (i < k) && mem ws i
abbrev S4 (w:World) (b:Nat) (ws:List Nat):Prop:=w.heap[b]? = some (.cells (wc ws) 69 (0,0))
theorem S4.cell {w:World} {b:Nat} {ws:List Nat} (h:S4 w b ws) (hw:Wf ws) {i:Nat} (hi:i < 4):w.cell? ⟨b,i,none⟩ = some (.int .u64 (word ws i:Int)):=by
 rw [Lib.cell_of_heap h];simp [word_get hw hi]
theorem S4.set {w:World} {b:Nat} {ws:List Nat} (h:S4 w b ws) (i v:Nat):S4 (w.setCell ⟨b,i,none⟩ (.int .u64 (v:Int))) b (ws.set i v):=by
 unfold S4;rw [heap_set_at h];simp [wc,List.map_set]
abbrev FF:Nat -> Bool:=fun _=>false
theorem alloc_raw {W:World} {b:Nat} {o:Obj} (h:W.heap[b]? = some o) (o':Obj):(W.alloc o').heap[b]? = some o:=(@heap_alloc_old _ _ _ (Array.getElem?_eq_some_iff.1 h).1).trans h
theorem told_any (ws:List Nat) (w:World) (h:Wf ws) :
  Calls Tryz.prog 104 #[SV ws] w fun e w'=>e = .returned (BV (mem ws)) /\ Below w.heap.size w w':=by
 have hz:=zero_at;go_enter Tryz.func104,Tryz.ntmps104;(refine wp_seq_k fun K0 hK=>?_);have HK:=Hd hK;clear hK;go_wp2;refine HK.out _ _ ?_;clear HK K0;have HW:=Hd (show S4 ((w.alloc (Obj.cells (wc ws) 69)).alloc (Obj.cells (bc fun x=>false) 176)) w.heap.size ws from (two_new w _ _).1);have HA:=Hd (show BB ((w.alloc (Obj.cells (wc ws) 69)).alloc (Obj.cells (bc fun x=>false) 176)) (w.heap.size + 1) FF from (two_new w _ _).2);have HB:=Hd (((Below.refl w.heap.size w).alloc (Nat.le_refl _) (Obj.cells (wc ws) 69)).alloc (by simp) (Obj.cells (bc fun x=>false) 176));generalize (w.alloc (Obj.cells (wc ws) 69)).alloc (Obj.cells (bc fun x=>false) 176) = W0 at *;(refine wp_seq_k fun K1 hK=>?_);have HK:=Hd hK;clear hK;have hsc:=run_storeCells_new (P:=Tryz.prog) W0 176 (bc FF) (bc FF) (by rw [bc_size];kernel_rfl) rfl (bc_one _);have hn:=bc_size FF;go_wp2;refine HK.out _ _ ?_;clear HK K1 hsc hn;have HO:=Hd (show BB (W0.alloc (Obj.cells (bc FF) 176)) W0.heap.size (toldB ws 0) from by
  (have:bc FF = bc (toldB ws 0):=bc_congr fun i _=>by simp [FF,toldB]);rw [this];exact bb_new _ _)
 have HA2:=Hd (alloc_raw HA.out (Obj.cells (bc FF) 176));have HW2:=Hd (alloc_raw HW.out (Obj.cells (bc FF) 176));have HB2:=Hd (HB.out.alloc HB.out.size (Obj.cells (bc FF) 176));have hlt:w.heap.size + 1 < W0.heap.size:=(Array.getElem?_eq_some_iff.1 HA.out).1;clear HA HW HB;generalize W0.alloc (Obj.cells (bc FF) 176) = W1 at *;generalize W0.heap.size = bo at *;(refine wp_seq_k fun K2 hK=>?_);have HK:=Hd hK;clear hK;go_wp2;go_loopw [4] (fun i wr=>∃ k:Nat,k <= 256 /\ i = .int .i64 k /\ S4 wr w.heap.size (toldK ws k) /\ BB wr (w.heap.size + 1) FF /\ BB wr bo (toldB ws k) /\ Below w.heap.size w wr) (fun i _=>256 - (intOf i).toNat);(case atStart=>exact ⟨0,Nat.zero_le _,rfl,HW2.out,HA2.out,HO.out,HB2.out⟩);case round =>
  obtain ⟨k,hk,rfl,hS,hA,hO,hB⟩:=hrel;by_cases hlt:k < 256
  ·
   have hw:=(toldK_spec h k (by omega)).1;have HBIT:=Hd (told_bit h hlt);have c1:=hS.cell hw (i:=k / 64) (by omega);have f1:=Lib.frozen_of_heap hS (k / 64);have c2:=hO.cell hlt;have f2:=Lib.frozen_of_heap hO k;have HS:=Hd hS;have HA3:=Hd hA;have HO3:=Hd hO;have HB3:=Hd hB;clear hS hA hO hB hz;go_wp2;go_roundw;case rel =>
    have ew:IntKind.u64.wrap ((word (toldK ws k) (k / 64):Int) / 2) = ((word (toldK ws k) (k / 64) / 2:Nat):Int):=by
     have:=word_lt hw (k / 64);rw [IntKind.wrap_u64];omega
    have eb:((word (toldK ws k) (k / 64):Int) % 2 == 1) = mem ws k:=by
     rw [<- HBIT.out,Bool.eq_iff_iff,beq_iff_eq,beq_iff_eq];omega
    rw [ew,eb];refine ⟨k + 1,by omega,by go_num,?_,?_,?_,?_⟩
    · exact S4.set (heap_set_other HS.out (by omega) _ _) _ _
    · exact heap_set_other (heap_set_other HA3.out (by omega) _ _) (by omega) _ _
    ·
     exact heap_set_other (BB.put HO3.out (fun i hi=>by
      unfold toldB;by_cases he:i = k
      · subst he;simp
      ·
       rw [if_neg he]
       congr 1
       rw [Bool.eq_iff_iff,decide_eq_true_eq,decide_eq_true_eq];omega)) (by omega) _ _
    · exact (HB3.out.setCell (p:=⟨bo,k,none⟩) (by show w.heap.size <= bo;omega) _).setCell (p:=⟨w.heap.size,k / 64,none⟩) (Nat.le_refl _) _
   case measure=>simp [intOf];omega
  ·
   (obtain rfl:k = 256:=by omega);(have hE:toldB ws 256 = fun i=>decide (i < 256) && mem ws i:=rfl);have hO':BB wr bo (mem ws):=by
    (have:bc (toldB ws 256) = bc (mem ws):=bc_congr fun i hi=>by simp [toldB,hi]);rw [BB,<- this];exact hO
   have HO4:=Hd hO';have HA4:=Hd hA;have HR:=Hd (BB.row hA (mem ws));have HB3:=Hd (below_setRow hB (Nat.le_succ _) (bc (mem ws)));clear hS hA hO hB hz hE hO';go_wp2;refine HK.out _ _ ?_;clear HK;(refine wp_seq_k fun K3 hK=>?_);refine tail_row rfl rfl rfl rfl rfl rfl rfl rfl rfl HO4.out HA4.out ?_;refine hK _ _ ?_;go_wp2;refine bodyPost_ret (v:=BV (mem ws)) ?_ ?_ ?_
   · exact answer rfl rfl HR.out
   · rfl
   · exact ⟨rfl,HB3.out⟩
end Go.Proofs.YtinallojhkaogaaGreatDoor.St
namespace Go.Proofs.YtinallojhkaogaaGreatDoor.Mt
open Go.RowKit
open St (Wf mem bc bc_size told_any)
theorem told_ok:ToldOk:=fun ws h=>⟨bc (mem ws),bc_size _,fun b hb=>by simp [bc,hb],fun w=>told_any ws w h⟩
end Go.Proofs.YtinallojhkaogaaGreatDoor.Mt
