/- The texts RxW3 RxC0 MtC Tk St1 RxGr RxTx StPop SlA. -/
import Derived.Laws.OwnMore
import Derived.OwnWalk
import Derived.Lib.SmallJoins
import Derived.Laws.CopyOwn
import Derived.Deep.MidRow
import Derived.Deep.RegionHeld
import Derived.Tactics
import Derived.RegionTactic
import Derived.Deep.AppendLies
import Derived.StillTailTactics
import Derived.Lib.Builder
import Derived.BigRegion
import Derived.Laws.Bits128
import Derived.RangeFuncNested
import Derived.RangeFuncBound
import Derived.RangeFuncCalls
import Derived.RangeFuncLeaves
import Derived.Shelf.Abstract
import Derived.Shelf.RegionOpen
import Derived.OwnWalkIn
import Derived.TacticsInMore
import Derived.LoopNIn
import Derived.LoopIn
import Derived.Shelf.Spec.TrailingZeros
import Derived.Test.YtinallojhkaogaaGreatDoorHk05
set_option linter.unusedVariables false
set_option linter.unusedSimpArgs false
set_option maxHeartbeats 1600000
set_option maxRecDepth 100000
namespace Go.Proofs.YtinallojhkaogaaGreatDoor.Rx
open Go.RowKit Go.Shelf
open St (Wf word zeroW ext_word wf_zero)
abbrev NCell (w:World) (b o:Nat) (n:Nd):Prop :=
 w.cell? ⟨b,o,none⟩ = some (E n.k) /\ w.cell? ⟨b,o + 1,none⟩ = some (U (word n.s 0)) /\ w.cell? ⟨b,o + 2,none⟩ = some (U (word n.s 1)) /\ w.cell? ⟨b,o + 3,none⟩ = some (U (word n.s 2)) /\ w.cell? ⟨b,o + 4,none⟩ = some (U (word n.s 3)) /\
 w.cell? ⟨b,o + 5,none⟩ = some (E n.a) /\ w.cell? ⟨b,o + 6,none⟩ = some (E n.b) /\ w.cell? ⟨b,o + 7,none⟩ = some (E n.mn) /\ w.cell? ⟨b,o + 8,none⟩ = some (E n.mx) /\ w.cell? ⟨b,o + 9,none⟩ = some (E n.n)
theorem NCell.below {w w':World} {b o:Nat} {n:Nd} (h:NCell w b o n) (hb:Below w.heap.size w w'):NCell w' b o n:=by
 obtain ⟨h0,h1,h2,h3,h4,h5,h6,h7,h8,h9⟩:=h;exact ⟨(hb.cell (lt_cell h0)).trans h0,(hb.cell (lt_cell h1)).trans h1,(hb.cell (lt_cell h2)).trans h2,(hb.cell (lt_cell h3)).trans h3,(hb.cell (lt_cell h4)).trans h4,(hb.cell (lt_cell h5)).trans h5,(hb.cell (lt_cell h6)).trans h6,(hb.cell (lt_cell h7)).trans h7,(hb.cell (lt_cell h8)).trans h8,(hb.cell (lt_cell h9)).trans h9⟩
def Ns (w:World) (v:Value) (l:List Nd):Prop:=∃ (ao:Option Addr) (c:Nat),v = .slice ao l.length c /\ ∀ (i:Nat) (h:i < l.length),∃ b o,ao = some ⟨b,o,none⟩ /\ NCell w b (o + i * 10) l[i]
theorem Ns.below {w w':World} {v:Value} {l:List Nd} (h:Ns w v l) (hb:Below w.heap.size w w'):Ns w' v l:=by
 obtain ⟨ao,c,rfl,hc⟩:=h;refine ⟨ao,c,rfl,fun i hi=>?_⟩;obtain ⟨b,o,ha,h⟩:=hc i hi;exact ⟨b,o,ha,h.below hb⟩
theorem Ns.at {w:World} {ao:Option Addr} {n c:Nat} {l:List Nd} (h:Ns w (.slice ao n c) l) {i:Nat} (hi:i < l.length):∃ b o,ao = some ⟨b,o,none⟩ /\ NCell w b (o + i * 10) l[i]:=by
 obtain ⟨ao',c',e,hc⟩:=h;simp only [Value.slice.injEq] at e;obtain ⟨rfl,rfl,rfl⟩:=e;exact hc i hi
theorem kind_at {l:List Nd} {j:Nat} (h:j < l.length):kindAt l (j:Int) = l[j].k:=by
 unfold kindAt;rw [Int.toNat_natCast,List.getElem?_eq_getElem h];rfl
theorem fits_other (v:Value) (n:Nd) (w:World) (h4:(n.k == 4) = false) (h5:(n.k == 5) = false) (h6:(n.k == 6) = false) :
  Calls Tryz.prog 127 #[v,NV n] w fun e w'=>e = .returned (.bool true) /\ Below w.heap.size w w':=by
 go_enter Tryz.func127,Tryz.ntmps127;go_wp2;go_ret;exact ⟨rfl,(Below.refl w.heap.size w).alloc (Nat.le_refl _) _⟩
theorem fits_4 (b0 o L c:Nat) (s:List Nat) (j i:Nat) (mn mx m k1 k2:Int) (w:World) (hj:(j:Int) < (L:Int)) (hi:(i:Int) < (L:Int)) (h1:w.cell? ⟨b0,o + j * 10,none⟩ = some (E k1)) (h2:w.cell? ⟨b0,o + i * 10,none⟩ = some (E k2)) :
  Calls Tryz.prog 127 #[.slice (some ⟨b0,o,none⟩) L c,NV ⟨4,s,(j:Nat),(i:Nat),mn,mx,m⟩] w fun e w'=>e = .returned (.bool (decide (k1 ≠ 4 /\ k1 ≠ 5 /\ k2 ≠ 5))) /\ Below w.heap.size w w':=by
 (have hj0:(0:Int) <= (j:Int):=by omega);(have hi0:(0:Int) <= (i:Int):=by omega);have h1':=((Below.refl w.heap.size w).alloc (Nat.le_refl _) (Obj.cells (NC ⟨4,s,(j:Nat),(i:Nat),mn,mx,m⟩) 72)).cell (lt_cell h1) |>.trans h1;have h2':=((Below.refl w.heap.size w).alloc (Nat.le_refl _) (Obj.cells (NC ⟨4,s,(j:Nat),(i:Nat),mn,mx,m⟩) 72)).cell (lt_cell h2) |>.trans h2;go_enter Tryz.func127,Tryz.ntmps127;go_wp2;(all_goals go_ret);(all_goals refine ⟨ret1 (congrArg Value.bool ?_),(Below.refl w.heap.size w).alloc (Nat.le_refl _) _⟩);all_goals (rw [Bool.eq_iff_iff];simp;try omega)
theorem fits_5 (b0 o L c:Nat) (s:List Nat) (j:Nat) (b mn mx m k1:Int) (w:World) (hj:(j:Int) < (L:Int)) (h1:w.cell? ⟨b0,o + j * 10,none⟩ = some (E k1)) :
  Calls Tryz.prog 127 #[.slice (some ⟨b0,o,none⟩) L c,NV ⟨5,s,(j:Nat),b,mn,mx,m⟩] w fun e w'=>e = .returned (.bool (decide (k1 ≠ 5))) /\ Below w.heap.size w w':=by
 (have hj0:(0:Int) <= (j:Int):=by omega);have h1':=((Below.refl w.heap.size w).alloc (Nat.le_refl _) (Obj.cells (NC ⟨5,s,(j:Nat),b,mn,mx,m⟩) 72)).cell (lt_cell h1) |>.trans h1;go_enter Tryz.func127,Tryz.ntmps127;go_wp2;(all_goals go_ret);(all_goals refine ⟨ret1 (congrArg Value.bool ?_),(Below.refl w.heap.size w).alloc (Nat.le_refl _) _⟩);all_goals (rw [Bool.eq_iff_iff];simp;try omega)
theorem cell_of {w:World} {b:Nat} {c:Array Value} {t:TypeId} {f:Nat × Nat} (h:w.heap[b]? = some (.cells c t f)) (i:Nat):w.cell? ⟨b,i,none⟩ = c[i]?:=by
 simp only [World.cell?,h];rfl
theorem cells178 (w:World) (t:TypeId) (B:Nat) (hB:B = w.heap.size):∀ j,j < [(1:Int),7,8].length -> (w.alloc (Obj.cells #[E 1,E 7,E 8] t)).cell? ⟨B,0 + j,none⟩ = some (.int .i64 ([(1:Int),7,8].getD j 0)):=by
 subst hB;intro j hj;rw [cell_of (heap_alloc_new w (Obj.cells #[E 1,E 7,E 8] t))]
 match j,hj with
 | 0,_=>rfl
 | 1,_=>rfl
 | 2,_=>rfl
theorem fits_6 (b0 o L c:Nat) (s:List Nat) (j:Nat) (b mn mx m k1:Int) (w:World) (hj:(j:Int) < (L:Int)) (h1:w.cell? ⟨b0,o + j * 10,none⟩ = some (E k1)) :
  Calls Tryz.prog 127 #[.slice (some ⟨b0,o,none⟩) L c,NV ⟨6,s,(j:Nat),b,mn,mx,m⟩] w fun e w'=>e = .returned (.bool (decide (k1 = 1 \/ k1 = 7 \/ k1 = 8))) /\ Below w.heap.size w w':=by
 (have hj0:(0:Int) <= (j:Int):=by omega);have h1':=((Below.refl w.heap.size w).alloc (Nat.le_refl _) (Obj.cells (NC ⟨6,s,(j:Nat),b,mn,mx,m⟩) 72)).cell (lt_cell h1) |>.trans h1;have HC:=Lib.hid (Tryz.slices_Contains_int (w.heap.size + 1) 0 3 3 [1,7,8] k1 ((w.alloc (Obj.cells (NC ⟨6,s,(j:Nat),b,mn,mx,m⟩) 72)).alloc (Obj.cells #[E 1,E 7,E 8] 3)) (by simp) (by simp) (cells178 _ _ _ (by simp)));have h1'':=((((Below.refl w.heap.size w).alloc (Nat.le_refl _) (Obj.cells (NC ⟨6,s,(j:Nat),b,mn,mx,m⟩) 72)).alloc (by simp) (Obj.cells #[E 1,E 7,E 8] 3)).cell (lt_cell h1)).trans h1;go_enter Tryz.func127,Tryz.ntmps127;go_wp2_with (go_at_call 152;refine HC.out.mono ?_;rintro e w' ⟨rfl,rfl⟩);go_ret;refine ⟨ret1 (congrArg Value.bool ?_),((Below.refl w.heap.size w).alloc (Nat.le_refl _) _).alloc (by simp) _⟩;rw [Bool.eq_iff_iff];simp
theorem fits_any (ao:Option Addr) (c:Nat) (l:List Nd) (n:Nd) (w:World) (h:Ns w (.slice ao l.length c) l) (ha:n.k = 4 \/ n.k = 5 \/ n.k = 6 -> ∃ j,j < l.length /\ n.a = (j:Nat)) (hb:n.k = 4 -> ∃ j,j < l.length /\ n.b = (j:Nat)) :
  Calls Tryz.prog 127 #[.slice ao l.length c,NV n] w fun e w'=>e = .returned (.bool (decide (Fits l n))) /\ Below w.heap.size w w':=by
 obtain ⟨k,s,a,b,mn,mx,m⟩:=n;dsimp only at ha hb;by_cases h4:k = 4
 ·
  subst h4;obtain ⟨j,hj,rfl⟩:=ha (Or.inl rfl);obtain ⟨i,hi,rfl⟩:=hb rfl;obtain ⟨p,o,rfl,hp⟩:=h.at hj;obtain ⟨q,o',e,hq⟩:=h.at hi;simp only [Option.some.injEq,Addr.mk.injEq,and_true] at e;obtain ⟨rfl,rfl⟩:=e;rw [show decide (Fits l ⟨4,s,(j:Nat),(i:Nat),mn,mx,m⟩) = decide (l[j].k ≠ 4 /\ l[j].k ≠ 5 /\ l[i].k ≠ 5) from by
   rw [decide_eq_decide];unfold Fits;rw [if_pos rfl,kind_at hj,kind_at hi]]
  exact fits_4 p o l.length c s j i mn mx m _ _ w (by omega) (by omega) hp.1 hq.1
 by_cases h5:k = 5
 ·
  subst h5;obtain ⟨j,hj,rfl⟩:=ha (Or.inr (Or.inl rfl));obtain ⟨p,o,rfl,hp⟩:=h.at hj;rw [show decide (Fits l ⟨5,s,(j:Nat),b,mn,mx,m⟩) = decide (l[j].k ≠ 5) from by
   rw [decide_eq_decide];unfold Fits;dsimp only;rw [if_neg (by decide),if_pos rfl,kind_at hj]]
  exact fits_5 p o l.length c s j b mn mx m _ w (by omega) hp.1
 by_cases h6:k = 6
 ·
  subst h6;obtain ⟨j,hj,rfl⟩:=ha (Or.inr (Or.inr rfl));obtain ⟨p,o,rfl,hp⟩:=h.at hj;rw [show decide (Fits l ⟨6,s,(j:Nat),b,mn,mx,m⟩) = decide (l[j].k = 1 \/ l[j].k = 7 \/ l[j].k = 8) from by
   rw [decide_eq_decide];unfold Fits;dsimp only;rw [if_neg (by decide),if_neg (by decide),if_pos rfl,kind_at hj]]
  exact fits_6 p o l.length c s j b mn mx m _ w (by omega) hp.1
 rw [decide_eq_true (show Fits l ⟨k,s,a,b,mn,mx,m⟩ from by unfold Fits;dsimp only;rw [if_neg h4,if_neg h5,if_neg h6];trivial)];exact fits_other _ ⟨k,s,a,b,mn,mx,m⟩ w (by simpa using h4) (by simpa using h5) (by simpa using h6)
theorem own_ge {w:World} {B e n:Nat} {v:Value} {xs:List Value} {z:Nat} (h:w.ownsRow B e z v n xs):∀ k,v.ownBlock = some k -> B <= k:=by
 intro k hk;rcases h.2 with ⟨hv,_⟩ | ⟨g,cap,cur,hv,hb,_⟩
 · subst hv;cases hk
 · subst hv;(have:g = k:=by simpa [Value.ownBlock] using hk);omega
theorem lt_heap {w:World} {g:Nat} {o:Obj} (h:w.heap[g]? = some o):g < w.heap.size:=(Array.getElem?_eq_some_iff.1 h).1
theorem own_below {w w':World} {B e n z:Nat} {v:Value} {xs:List Value} (h:w.ownsRow B e z v n xs) (hb:Below w.heap.size w w'):w'.ownsRow B e z v n xs:=by
 refine ⟨h.1,?_⟩;rcases h.2 with hv | ⟨g,cap,cur,hv,h1,h2,h3⟩
 · exact Or.inl hv
 · exact Or.inr ⟨g,cap,cur,hv,h1,(hb.block g (lt_heap h2)).trans h2,h3⟩
theorem own_take {w:World} {B e n z g cap:Nat} {xs:List Value} (h:w.ownsRow B e z (.slice (some ⟨g,0,none⟩) n cap) n xs) {m:Nat} (hm:m <= n):w.ownsRow B e z (.slice (some ⟨g,0,none⟩) m cap) m (xs.take (m * z)):=by
 obtain ⟨hl,h⟩:=h;rcases h with ⟨hv,_⟩ | ⟨g',cap',cur,hv,h1,h2,h3,h4,h5,h6⟩
 · cases hv
 simp only [Value.slice.injEq,true_and,Option.some.injEq,Addr.mk.injEq,and_true] at hv;obtain ⟨rfl,rfl⟩:=hv;refine ⟨?_,Or.inr ⟨g,cap,cur,rfl,h1,h2,by omega,h4,h5,?_⟩⟩
 · rw [List.length_take,hl];exact Nat.min_eq_left (Nat.mul_le_mul_right z hm)
 · rw [<- h6,List.take_take];congr 1;exact (Nat.min_eq_left (Nat.mul_le_mul_right z hm)).symm
theorem own_forms {w:World} {B e n z:Nat} {v:Value} {xs:List Value} (h:w.ownsRow B e z v n xs):(v = .slice none 0 0 /\ n = 0) \/ ∃ g cap,v = .slice (some ⟨g,0,none⟩) n cap /\ n <= cap:=by
 rcases h.2 with ⟨hv,h0⟩ | ⟨g,cap,cur,hv,_,_,h3,_⟩
 · exact Or.inl ⟨hv,h0⟩
 · exact Or.inr ⟨g,cap,hv,h3⟩
theorem one_cell {w:World} {g:Nat} {x:Value} {t:TypeId} {fz:Nat × Nat} (h:w.heap[g]? = some (.cells #[x] t fz)):∀ j u,[x][j]? = some u -> w.cell? ((⟨g,0,none⟩:Addr).add j) = some u:=by
 intro j u hj
 match j,hj with
 | 0,hj =>
  rw [Addr.add_lit,Lib.cell_of_heap h];simpa using hj
abbrev PT (k:Nat):Value:=.pointer (some ⟨k,0,none⟩)
theorem lt_heap' {w:World} {g:Nat} {o:Obj} (h:w.heap[g]? = some o):g < w.heap.size:=(Array.getElem?_eq_some_iff.1 h).1
def Fz (n:Nat):=Code.region n
theorem at_world {p:World -> Prop} {P:Program} {c:Code} {Q:Exit -> Act -> World -> Prop} {a:Act} {W:World} (h:p W) (g:∀ W',p W' -> Code.wp P c Q a W'):Code.wp P c Q a W:=g W h
end Go.Proofs.YtinallojhkaogaaGreatDoor.Rx
namespace Go.Proofs.YtinallojhkaogaaGreatDoor.Mt
open Go.RowKit Go.Shelf
open Rx
open Rx.Tr
open St (Wf word mem)
theorem step_store_row {P:Program} {w:World} {ops:Array Oper} {o:Oper} {a:Act} {K:Act -> World -> Prop} {Q:Exit -> Act -> World -> Prop} {E:Prop} (hgd:o.guard = none) (ty:TypeId) (x y:Operand) (ho:o.op = .store ty x y)
  (g:Nat) (cells:Array Value) (hx:a.eval x = .pointer (some ⟨g,0,none⟩)) (hy:a.eval y = .agg cells)
  (t:TypeId) (old:Array Value) (hg:w.heap[g]? = some (.cells old t (0,0))) (hi:(P.info? ty).map (·.size) = some cells.size)
  (hold:old.size = cells.size) (h1:cells.all (·.oneCell') = true)
  (h:K (a.put o.dst undef) (w.setRow g cells)):if Region.wanted o (yielded ops a.tmps) = true then Oper.wp P o a w K Q else E:=by
 rw [if_pos (by simp [Region.wanted,hgd])];exact wp_store_row ty x y ho g cells hx hy t old hg hi hold h1 h
theorem exec_load_row {P:Program} {o:Oper} {a:Act} {w:World} (ty:TypeId) (x:Operand) (ho:o.op = .load ty x)
  (g:Nat) (hx:a.eval x = .pointer (some ⟨g,0,none⟩)) (t:TypeId) (cs:Array Value) (fr:Nat × Nat) (d:TypeDesc) (hg:w.heap[g]? = some (.cells cs t fr))
  (hu:P.underlying ty = some d) (hd:(match d with | .struct _ | .array _ _=>true | _=>false) = true) (hi:(P.info? ty).map (·.size) = some cs.size) :
  (execOp a.eval o).run P w = .ok (.value (.agg cs)) w:=by
 unfold execOp;simp only [ho,hx,Instr.loadAt,Instr.sureAddr,Sem.run_bind,Sem.run_pure,Result.andThen_ok,run_loadVar_row w g t ty cs fr d hg hu hd hi]
theorem exec_load_mid {P:Program} {op:Oper} {a:Act} {w:World} (ty:TypeId) (x:Operand) (ho:op.op = .load ty x)
  (b o:Nat) (hx:a.eval x = .pointer (some ⟨b,o,none⟩)) (cs:List Value) (d:TypeDesc) (hc:w.rangeAt b o cs)
  (hu:P.underlying ty = some d) (hd:d.isRow = true) (hi:(P.info? ty).map (·.size) = some cs.length) :
  (execOp a.eval op).run P w = .ok (.value (.agg cs.toArray)) w:=by
 unfold execOp;simp only [ho,hx,Instr.loadAt,Instr.sureAddr,Sem.run_bind,Sem.run_pure,Result.andThen_ok,run_loadVar_mid w b o ty cs d hc hu hd hi]
theorem range_part {w:World} {g o:Nat} {pre cs post:List Value} {t:TypeId} {fr:Nat × Nat} (h:w.heap[g]? = some (.cells (pre ++ cs ++ post).toArray t fr)) (ho:pre.length = o):w.rangeAt g o cs:=fun j v hv=>by
 subst ho;rw [Lib.cell_of_heap h];have hl:=(List.getElem?_eq_some_iff.1 hv).1;simp only [List.getElem?_toArray];rw [List.append_assoc,List.getElem?_append_right (by omega),show pre.length + j - pre.length = j by omega,List.getElem?_append_left hl];exact hv
theorem qcut {P:Program} {c:Code} {Q:Exit -> Act -> World -> Prop} {a:Act} {w:World} (h:∀ Q':Exit -> Act -> World -> Prop,Q' = Q -> Code.wp P c Q' a w):Code.wp P c Q a w:=h Q rfl
abbrev CZ:Array Value:=#[.complex .f64 0 0,.complex .f64 0 0,.complex .f64 0 0,.complex .f64 0 0,.complex .f64 0 0,.complex .f64 0 0,.complex .f64 0 0,.complex .f64 0 0,.complex .f64 0 0,.complex .f64 0 0]
theorem res_caps {fn:Func} {p u:Tmp} (h:fn.results = #[.cell p 34,.tmp u]) {tmps:Array Value} {w:World} {g:Nat} {c:Caps} {v:Value} (hp:tmps.getD p undef = PT g) (hg:w.heap[g]? = some (.cells (CC c) 34 (0,0))) (hu:tmps.getD u undef = v) :
  (results fn tmps).run Tryz.prog w = .ok (.tuple #[CV c,v]) w:=by
 rw [results_cell_tmp h,hp,hu];have:=run_loadVar_row (P:=Tryz.prog) w g 34 34 (CC c) (0,0) _ hg Tryz.underlying34 rfl (by kernel_rfl);rw [show (asAddr (PT g)).run Tryz.prog w = .ok ⟨g,0,none⟩ w from rfl];simp only [Result.andThen];rw [this]
theorem cap_one:∀ x:Cap,(capV x).oneCell' = true:=fun x=>by cases x with
 | none=>rfl
 | some q=>rfl
theorem cc_one (c:Caps):(CC c).all (·.oneCell') = true:=by
 have h:∀ x:Cap,(capV x).oneCell' = true:=fun x=>by cases x with
  | none=>rfl
  | some q=>rfl
 simp [h]
abbrev CB (w:World) (g:Nat) (c:Caps):Prop:=w.heap[g]? = some (.cells (CC c) 34 (0,0))
theorem ldM (x:Nat) {ops:Array Oper} {rest:List Oper} {o:Oper} {a a':Act} {w:World} {Q:Exit -> Act -> World -> Prop} {g:Nat} {c:Caps} (F:w.heap[g]? = some (.cells (CC c) 34 (0,0))) (h:wpList Tryz.prog ops Q rest a' w) (hgd:o.guard = none:=by rfl) (ho:o.op = .load 34 (.tmp x):=by rfl) (hx:a.eval (.tmp x) = .pointer (some ⟨g,0,none⟩):=by rfl)
  (ha:a.put o.dst (CV c) = a':=by simp only [Act.put,List.setIfInBounds_toArray,List.set_cons_zero,List.set_cons_succ] <;> rfl):wpList Tryz.prog ops Q (o :: rest) a w:=by
 subst ha;exact wpList_load_row hgd 34 (.tmp x) ho g hx _ (CC c) (0,0) _ F Tryz.underlying34 rfl (by kernel_rfl) h
theorem stM (x y:Nat) (c:Caps) {ops:Array Oper} {rest:List Oper} {o:Oper} {a a':Act} {w:World} {Q:Exit -> Act -> World -> Prop} {g:Nat} {old:Array Value} (F:w.heap[g]? = some (.cells old 34 (0,0))) (h:wpList Tryz.prog ops Q rest a' (w.setRow g (CC c))) (hold:old.size = (CC c).size:=by rfl) (hgd:o.guard = none:=by rfl) (ho:o.op = .store 34 (.tmp x) (.tmp y):=by rfl) (hx:a.eval (.tmp x) = .pointer (some ⟨g,0,none⟩):=by rfl) (hy:a.eval (.tmp y) = .agg (CC c):=by rfl)
  (ha:a.put o.dst undef = a':=by simp only [Act.put,List.setIfInBounds_toArray,List.set_cons_zero,List.set_cons_succ] <;> rfl):wpList Tryz.prog ops Q (o :: rest) a w:=by
 subst ha;exact wpList_store_row hgd 34 (.tmp x) (.tmp y) ho g (CC c) hx hy _ old F (by kernel_rfl) hold (cc_one c) h
theorem xlM (x:Nat) {o:Oper} {a:Act} {w:World} {g:Nat} {c:Caps} (F:w.heap[g]? = some (.cells (CC c) 34 (0,0))) (ho:o.op = .load 34 (.tmp x):=by rfl) (hx:a.eval (.tmp x) = .pointer (some ⟨g,0,none⟩):=by rfl):(execOp a.eval o).run Tryz.prog w = .ok (.value (CV c)) w :=
 exec_load_row 34 (.tmp x) ho g hx _ (CC c) _ _ F Tryz.underlying34 rfl (by kernel_rfl)
theorem ssM (x y:Nat) (c:Caps) {w:World} {ops:Array Oper} {o:Oper} {a:Act} {K:Act -> World -> Prop} {Q:Exit -> Act -> World -> Prop} {E:Prop} {g:Nat} {old:Array Value} (F:w.heap[g]? = some (.cells old 34 (0,0))) (h:K (a.put o.dst undef) (w.setRow g (CC c))) (hold:old.size = (CC c).size:=by rfl) (hgd:o.guard = none:=by rfl) (ho:o.op = .store 34 (.tmp x) (.tmp y):=by rfl) (hx:a.eval (.tmp x) = .pointer (some ⟨g,0,none⟩):=by rfl) (hy:a.eval (.tmp y) = .agg (CC c):=by rfl):if Region.wanted o (yielded ops a.tmps) = true then Oper.wp Tryz.prog o a w K Q else E :=
 step_store_row hgd 34 (.tmp x) (.tmp y) ho g (CC c) hx hy _ old F (by kernel_rfl) hold (cc_one c) h
theorem node_cells {w:World} {g:Nat} {nd:Nd} (h:w.heap[g]? = some (.cells (NC nd) 72 (0,0))) :
  w.cell? ⟨g,0,none⟩ = some (E nd.k) /\ w.cell? ⟨g,1,none⟩ = some (U (word nd.s 0)) /\ w.cell? ⟨g,2,none⟩ = some (U (word nd.s 1)) /\ w.cell? ⟨g,3,none⟩ = some (U (word nd.s 2)) /\ w.cell? ⟨g,4,none⟩ = some (U (word nd.s 3)) /\
   w.cell? ⟨g,5,none⟩ = some (E nd.a) /\ w.cell? ⟨g,6,none⟩ = some (E nd.b) /\ w.cell? ⟨g,7,none⟩ = some (E nd.mn) /\ w.cell? ⟨g,8,none⟩ = some (E nd.mx) /\ w.cell? ⟨g,9,none⟩ = some (E nd.n) :=
 ⟨(Lib.cell_of_heap h 0).trans rfl,(Lib.cell_of_heap h 1).trans rfl,(Lib.cell_of_heap h 2).trans rfl,(Lib.cell_of_heap h 3).trans rfl,(Lib.cell_of_heap h 4).trans rfl,(Lib.cell_of_heap h 5).trans rfl,(Lib.cell_of_heap h 6).trans rfl,(Lib.cell_of_heap h 7).trans rfl,(Lib.cell_of_heap h 8).trans rfl,(Lib.cell_of_heap h 9).trans rfl⟩
theorem cap_cell {w:World} {g:Nat} {c:Caps} {n:Nat} (h:CB w g c) (hn:n < 10):w.cell? ⟨g,n,none⟩ = some (capV (gr c n)):=by
 rw [Lib.cell_of_heap h n]
 match n,hn with
 | 0,_=>rfl
 | 1,_=>rfl
 | 2,_=>rfl
 | 3,_=>rfl
 | 4,_=>rfl
 | 5,_=>rfl
 | 6,_=>rfl
 | 7,_=>rfl
 | 8,_=>rfl
 | 9,_=>rfl
theorem box_laid (wr:World) (a:Caps):(wr.alloc (.cells CZ 34)).setRow wr.heap.size (CC a) = wr.alloc (.cells (CC a) 34):=World.setRow_alloc_new wr CZ (CC a) 34
def dn {α:Type} (f:Nat -> Option α) (i:Nat):Nat -> Option α
 | 0=>none
 | m + 1=>match f (i + m) with
  | some a=>some a
  | none=>dn f i m
theorem down_dn {α:Type} (f:Nat -> Option α) (i:Nat):∀ n,down f i n = dn f i (n + 1)
 | 0=>by
  show f i = dn f i 1;unfold dn;rw [show f (i + 0) = f i from rfl];cases f i <;> rfl
 | n + 1=>by
  rw [down,down_dn f i n,dn.eq_def f i (n + 1 + 1)];rfl
theorem dn_succ {α:Type} (f:Nat -> Option α) (i m:Nat):dn f i (m + 1) = match f (i + m) with
  | some a=>some a
  | none=>dn f i m:=by rw [dn.eq_def]
theorem cut_same (T:List UInt8) (p q i j:Nat):(cutC T (some (p,q)) == ((ByteArray.mk T.toArray).extract i j).toList) = decide (cutT T p q = cutT T i j):=by
 rw [ext_cut,Go.ByteArray.toList_mk,Bool.eq_iff_iff,beq_iff_eq,decide_eq_true_eq];exact Iff.rfl
theorem store_complex (P:Program) (w:World) (b o:Nat) (x y:Nat) {v:Value} (h1:w.cell? ⟨b,o,none⟩ = some v) (h2:w.frozen? ⟨b,o,none⟩ = false):(store ⟨b,o,none⟩ (.complex .f64 x y)).run P w = .ok () (w.setCell ⟨b,o,none⟩ (.complex .f64 x y)):=by
 rw [run_store P w _ _ _ rfl,h1];simp [h2]
def wholeP (T:List UInt8) (t:Tr) (i j:Nat):Option Caps:=(fitP T t i j nones).map fun c=>c.set 0 (some (i,j))
def ansC (r:Option Caps):Value:=.tuple #[CV (r.getD nones),.bool r.isSome]
def longP (T:List UInt8) (t:Tr) (i:Nat):Option Caps:=dn (fun j=>wholeP T t i j) i (T.length + 1 - i)
theorem whole_ok {T:List UInt8} {t:Tr} {i j:Nat} (hij:i <= j) (hj:j <= T.length) {c:Caps} (h:wholeP T t i j = some c):CapsOk T.length c:=by
 unfold wholeP at h;cases hf:fitP T t i j nones with
 | none=>rw [hf] at h;cases h
 | some a =>
  rw [hf] at h;cases h;exact (fit_ok t i j nones a hij hj (caps_none _) hf).set hij hj 0
theorem dn_some {α:Type} {f:Nat -> Option α} {i:Nat} {a:α}:∀ {m:Nat},dn f i m = some a -> ∃ q,q < m /\ f (i + q) = some a /\ ∀ r,q < r -> r < m -> f (i + r) = none
 | 0,h=>by cases h
 | m + 1,h=>by
  rw [dn_succ] at h;cases hf:f (i + m) with
  | some b=>rw [hf] at h;cases h;exact ⟨m,by omega,hf,fun r h1 h2=>by omega⟩
  | none =>
   rw [hf] at h;obtain ⟨q,h1,h2,h3⟩:=dn_some h;refine ⟨q,by omega,h2,fun r h4 h5=>?_⟩;by_cases e:r = m
   · subst e;exact hf
   · exact h3 r h4 (by omega)
def bcn (n:Nat) (f:Nat -> Bool):Array Value:=(Array.range n).map fun j=>.bool (f j)
abbrev RB (w:World) (g n:Nat) (f:Nat -> Bool):Prop:=w.heap[g]? = some (.cells (bcn n f) 4 (0,0))
abbrev SL (g n:Nat):Value:=.slice (some ⟨g,0,none⟩) n n
theorem bcn_size (n:Nat) (f:Nat -> Bool):(bcn n f).size = n:=by simp [bcn]
theorem bcn_at {n:Nat} (f:Nat -> Bool) {i:Nat} (hi:i < n):(bcn n f)[i]? = some (.bool (f i)):=by simp [bcn,hi]
theorem bcn_congr {n:Nat} {f g:Nat -> Bool} (h:∀ i,i < n -> f i = g i):bcn n f = bcn n g:=by
 apply Array.ext
 · simp [bcn_size]
 · intro i h1 h2;(have hi:i < n:=by rw [bcn_size] at h1;exact h1);have e1:=bcn_at f hi;have e2:=bcn_at g hi;rw [Array.getElem?_eq_getElem h1] at e1;rw [Array.getElem?_eq_getElem h2] at e2;rw [Option.some.inj e1,Option.some.inj e2,h i hi]
theorem bcn_set (n:Nat) (f:Nat -> Bool) (k:Nat) (v:Bool):(bcn n f).setIfInBounds k (.bool v) = bcn n (fun i=>if i = k then v else f i):=by
 apply Array.ext_getElem?;intro i;by_cases hi:i < n
 ·
  rw [bcn_at _ hi];by_cases hk:k = i
  · subst hk;rw [Array.getElem?_setIfInBounds_self_of_lt (by rw [bcn_size];exact hi)];simp
  · rw [Array.getElem?_setIfInBounds_ne hk,bcn_at f hi,if_neg (fun e=>hk e.symm)]
 · rw [Array.getElem?_eq_none (by rw [Array.size_setIfInBounds,bcn_size];omega),Array.getElem?_eq_none (by rw [bcn_size];omega)]
theorem RB.cell {w:World} {b n:Nat} {f:Nat -> Bool} (h:RB w b n f) {i:Nat} (hi:i < n):w.cell? ⟨b,i,none⟩ = some (.bool (f i)):=by
 rw [Lib.cell_of_heap h];exact bcn_at f hi
theorem RB.fz {w:World} {b n:Nat} {f:Nat -> Bool} (h:RB w b n f) (i:Nat):w.frozen? ⟨b,i,none⟩ = false:=by simp [World.frozen?,h]
theorem RB.put {w:World} {b n:Nat} {f g:Nat -> Bool} (h:RB w b n f) {k:Nat} {v:Bool} (hg:∀ i,i < n -> g i = if i = k then v else f i):RB (w.setCell ⟨b,k,none⟩ (.bool v)) b n g:=by
 have:=Go.Joins.block_setCell h (i:=k) (.bool v);rw [bcn_set,bcn_congr (g:=g) fun i hi=>(hg i hi).symm] at this;exact this
theorem RB.congr {w:World} {b n:Nat} {f g:Nat -> Bool} (h:RB w b n f) (hg:∀ i,i < n -> g i = f i):RB w b n g:=by
 rw [RB,bcn_congr hg];exact h
theorem RB.keep {w w':World} {b n:Nat} {f:Nat -> Bool} (h:RB w b n f) (hk:w'.heap[b]? = w.heap[b]?):RB w' b n f:=hk.trans h
theorem RB.lt {w:World} {b n:Nat} {f:Nat -> Bool} (h:RB w b n f):b < w.heap.size:=lt_heap' h
theorem infoB:(Tryz.prog.info? 4).map (fun i=>(i.zero,i.size,i.bytes)) = some (some (.bool false),1,1):=by kernel_rfl
theorem bcn_made (n:Nat):madeCells (Value.bool false).cells (n * 1) = bcn n (fun _=>false):=by
 unfold madeCells bcn;rw [Nat.mul_one];apply Array.map_congr_left;intro i _;simp [Value.cells,Nat.mod_one]
theorem make_row (n:Nat) (hn:n <= 1000000) (w:World):(Instr.makeSlice 165 (.int .i64 (n:Nat)) (.int .i64 (n:Nat))).run Tryz.prog w = .ok (SL w.heap.size n) (w.alloc (.cells (bcn n fun _=>false) 4)):=by
 obtain ⟨i0,hi,hz0,hz1,hz2⟩:=info_parts infoB;have:=run_makeSlice (P:=Tryz.prog) w 165 4 i0 _ Tryz.underlying165 hi hz0 .i64 .i64 (n:Int) (n:Int) (by omega) (by omega) (by rw [hz1];omega) (by rw [hz2];omega) (by omega);rw [Int.toNat_natCast,hz1,bcn_made] at this;exact this
end Go.Proofs.YtinallojhkaogaaGreatDoor.Mt
namespace Go.Proofs.YtinallojhkaogaaGreatDoor
theorem Hd {p:Prop} (h:p):RowKit.Hid p:=h
theorem An {a b:Prop} (x:a) (y:b):a /\ b:=⟨x,y⟩
end Go.Proofs.YtinallojhkaogaaGreatDoor
namespace Go.Proofs.YtinallojhkaogaaGreatDoor.Tk
section
variable {P:Program} {ops:Array Oper} {Q:Exit -> Act -> World -> Prop} {md:Region.Mode} {S:World -> Prop}
theorem t (i:Nat) {oi:Oper} {v:Value} {fuel:Nat} {listed:Array Bool} {a a':Act} {w:World} (h:wpAnyH P md ops Q S fuel (listed.setIfInBounds i true) a' w)
  (hi:ops[i]? = some oi:=by simp only [List.getElem?_toArray,List.getElem?_cons_succ,List.getElem?_cons_zero];rfl)
  (hs:Region.noSelect ops = true:=by kernel_rfl) (hf:Region.free md ops listed i = true:=by kernel_rfl) (hr:(Region.ready md ops listed).contains i = true:=by kernel_rfl)
  (hQ:∀ c a w,Q (.panic c) (a.put oi.dst v) w -> Q (.panic c) a w:=by exact fun _ _ _ h=>h)
  (hg:Region.wanted oi (yielded ops a.tmps) = true:=by rfl)
  (hy:∀ w,S w -> (execOp a.eval oi).run P w = .ok (.value v) w:=by (intro w hSw;(try dsimp only at hSw);go_simp) <;> with_reducible rfl)
  (hS:S w:=by assumption)
  (ha:a.put oi.dst v = a':=by simp only [Act.put,List.setIfInBounds_toArray,List.set_cons_zero,List.set_cons_succ] <;> rfl):wpAnyH P md ops Q S (fuel + 1) listed a w:=by
 subst ha;exact wpAnyH_take hi hs hf hr hQ (Or.inl ⟨hg,hy⟩) hS h
theorem p (i:Nat) {oi:Oper} {fuel:Nat} {listed:Array Bool} {a a':Act} {w:World} (h:wpAnyH P md ops Q S fuel (listed.setIfInBounds i true) a' w)
  (hi:ops[i]? = some oi:=by simp only [List.getElem?_toArray,List.getElem?_cons_succ,List.getElem?_cons_zero];rfl)
  (hs:Region.noSelect ops = true:=by kernel_rfl) (hf:Region.free md ops listed i = true:=by kernel_rfl) (hr:(Region.ready md ops listed).contains i = true:=by kernel_rfl)
  (hQ:∀ c a w,Q (.panic c) (a.put oi.dst undef) w -> Q (.panic c) a w:=by exact fun _ _ _ h=>h)
  (hg:Region.wanted oi (yielded ops a.tmps) = false:=by rfl)
  (hS:S w:=by assumption)
  (ha:a.put oi.dst undef = a':=by simp only [Act.put,List.setIfInBounds_toArray,List.set_cons_zero,List.set_cons_succ] <;> rfl):wpAnyH P md ops Q S (fuel + 1) listed a w:=by
 subst ha;exact wpAnyH_take hi hs hf hr hQ (Or.inr ⟨hg,rfl⟩) hS h
theorem k {F:World -> Prop} (hf:∀ w,S w -> F w) (i:Nat) {oi:Oper} {v:Value} {fuel:Nat} {listed:Array Bool} {a a':Act} {w:World} (h:wpAnyH P md ops Q S fuel (listed.setIfInBounds i true) a' w)
  (hi:ops[i]? = some oi:=by simp only [List.getElem?_toArray,List.getElem?_cons_succ,List.getElem?_cons_zero];rfl)
  (hs:Region.noSelect ops = true:=by kernel_rfl) (hff:Region.free md ops listed i = true:=by kernel_rfl) (hr:(Region.ready md ops listed).contains i = true:=by kernel_rfl)
  (hQ:∀ c a w,Q (.panic c) (a.put oi.dst v) w -> Q (.panic c) a w:=by exact fun _ _ _ h=>h)
  (hg:Region.wanted oi (yielded ops a.tmps) = true:=by rfl)
  (hy:∀ w,S w -> F w -> (execOp a.eval oi).run P w = .ok (.value v) w:=by (intro w hSw hFw;(try dsimp only at hSw);(try dsimp only at hFw);go_simp) <;> with_reducible rfl)
  (hS:S w:=by assumption)
  (ha:a.put oi.dst v = a':=by simp only [Act.put,List.setIfInBounds_toArray,List.set_cons_zero,List.set_cons_succ] <;> rfl):wpAnyH P md ops Q S (fuel + 1) listed a w:=by
 subst ha;exact wpAnyH_take hi hs hff hr hQ (Or.inl ⟨hg,fun w h=>hy w h (hf w h)⟩) hS h
theorem o (i:Nat) {o:Oper} {fuel:Nat} {listed:Array Bool} {a:Act} {w:World} (h:∀ K':Act -> World -> Prop,Shut (∀ a w,S w -> (S w -> wpAnyH P md ops Q S fuel (listed.setIfInBounds i true) a w) -> K' a w) -> if Region.wanted o (yielded ops a.tmps) = true then Oper.wp P o a w K' Q else K' (a.put o.dst undef) w) (hr:Region.ready md ops listed = [i]:=by kernel_rfl)
  (ho:ops[i]? = some o:=by simp only [List.getElem?_toArray,List.getElem?_cons_succ,List.getElem?_cons_zero];rfl):wpAnyH P md ops Q S (fuel + 1) listed a w :=
 wpAnyH_ready hr (List.cons_ne_nil _ _) (AllReadyH.cons ho h AllReadyH.nil)
theorem w {fuel:Nat} {listed:Array Bool} {a a':Act} {w:World} (h:wpAnyH P md ops Q S fuel listed a' w) (ha:a = a':=by first | (simp only [Act.put,List.setIfInBounds_toArray,List.set_cons_zero,List.set_cons_succ] <;> rfl) | rfl):wpAnyH P md ops Q S fuel listed a w:=ha ▸ h
theorem g {id:Nat} {a:Act} {w:World} {Q:Exit -> Act -> World -> Prop} (S:World -> Prop) (hS:S w.drew)
  (h:S w.drew -> wpAnyH P .any ops (NoPanic fun e a w=>Q e a w) S ops.size (Array.replicate ops.size false) a w.drew) (hm:P.follows .mixedOrders = true:=by kernel_rfl):(Code.region id ops true).wp P Q a w :=
 wp_region_noPanic (wp_region_held_drew hm hS h)
theorem y (i j:Nat) {o1 o2:Oper} {fuel:Nat} {listed:Array Bool} {a:Act} {w:World} (h1:∀ K':Act -> World -> Prop,Shut (∀ a w,S w -> (S w -> wpAnyH P md ops Q S fuel (listed.setIfInBounds i true) a w) -> K' a w) -> if Region.wanted o1 (yielded ops a.tmps) = true then Oper.wp P o1 a w K' Q else K' (a.put o1.dst undef) w)
  (h2:∀ K':Act -> World -> Prop,Shut (∀ a w,S w -> (S w -> wpAnyH P md ops Q S fuel (listed.setIfInBounds j true) a w) -> K' a w) -> if Region.wanted o2 (yielded ops a.tmps) = true then Oper.wp P o2 a w K' Q else K' (a.put o2.dst undef) w) (hr:Region.ready md ops listed = [i,j]:=by kernel_rfl)
  (ho1:ops[i]? = some o1:=by simp only [List.getElem?_toArray,List.getElem?_cons_succ,List.getElem?_cons_zero];rfl) (ho2:ops[j]? = some o2:=by simp only [List.getElem?_toArray,List.getElem?_cons_succ,List.getElem?_cons_zero];rfl):wpAnyH P md ops Q S (fuel + 1) listed a w :=
 wpAnyH_ready hr (List.cons_ne_nil _ _) (AllReadyH.cons ho1 h1 (AllReadyH.cons ho2 h2 AllReadyH.nil))
theorem d {R:Exit -> Act -> World -> Prop} {listed:Array Bool} {a:Act} {w:World} {fuel:Nat} (h:R .normal a w) (hr:Region.ready md ops listed = []:=by kernel_rfl):wpAnyH P md ops (NoPanic R) S fuel listed a w:=wpAnyH_done hr (NoPanic.normal h) _
end
end Go.Proofs.YtinallojhkaogaaGreatDoor.Tk
namespace Go.Proofs.YtinallojhkaogaaGreatDoor.St
open Go.RowKit
abbrev wc (ws:List Nat):Array Value:=(ws.map fun n:Nat=>Value.int .u64 (n:Int)).toArray
abbrev SV (ws:List Nat):Value:=.agg (wc ws)
abbrev SB (w:World) (b:Nat) (ws:List Nat):Prop:=w.heap[b]? = some (.cells (wc ws) 70 (0,0))
theorem SB.cell {w:World} {b:Nat} {ws:List Nat} (h:SB w b ws) (hw:Wf ws) {i:Nat} (hi:i < 4):w.cell? ⟨b,i,none⟩ = some (.int .u64 (word ws i:Int)):=by
 rw [Lib.cell_of_heap h];simp [word_get hw hi]
theorem heap_set_at {w:World} {b:Nat} {c:Array Value} {t:TypeId} {f:Nat × Nat} (h:w.heap[b]? = some (.cells c t f)) (i:Nat) (v:Value):(w.setCell ⟨b,i,none⟩ v).heap[b]? = some (.cells (c.setIfInBounds i v) t f):=by
 simp only [World.setCell,Array.getElem?_modify,if_true,h];rfl
theorem heap_set_other {w:World} {b b':Nat} {o:Obj} (h:w.heap[b']? = some o) (hb:b ≠ b') (i:Nat) (v:Value):(w.setCell ⟨b,i,none⟩ v).heap[b']? = some o:=by
 simp only [World.setCell,Array.getElem?_modify,h];rw [if_neg hb]
theorem SB.set {w:World} {b:Nat} {ws:List Nat} (h:SB w b ws) (i v:Nat):SB (w.setCell ⟨b,i,none⟩ (.int .u64 (v:Int))) b (ws.set i v):=by
 unfold SB;rw [heap_set_at h];simp [wc,List.map_set]
theorem SV_eq {ws:List Nat} (h:Wf ws):SV ws = .agg #[.int .u64 (word ws 0:Int),.int .u64 (word ws 1:Int),.int .u64 (word ws 2:Int),.int .u64 (word ws 3:Int)]:=by
 obtain ⟨hl,_⟩:=h
 match ws,hl with
 | [a,b,c,d],_=>rfl
theorem SB.drew {w:World} {b:Nat} {ws:List Nat} (h:SB w b ws):SB w.drew b ws:=h
theorem pow64 (c:Nat):2 ^ (c % 64) < 18446744073709551616:=Nat.pow_lt_pow_right (a:=2) (n:=64) (by decide) (Nat.mod_lt _ (by decide))
theorem wrap_pow (c:Nat):IntKind.u64.wrap (2 ^ (c % 64)) = ((2 ^ (c % 64):Nat):Int):=by
 rw [IntKind.wrap_u64];have:(2 ^ (c % 64):Nat) < 18446744073709551616:=pow64 c;(have e:((2 ^ (c % 64):Nat):Int) = (2:Int) ^ (c % 64):=by simp);rw [<- e];generalize 2 ^ (c % 64) = p at *;omega
theorem or_word {ws:List Nat} (h:Wf ws) (i c:Nat):bits BinOp.or IntKind.u64 (word ws i:Int) (IntKind.u64.wrap (2 ^ (c % 64))) = ((word ws i ||| 2 ^ (c % 64):Nat):Int):=by
 rw [wrap_pow];exact u64_or_nat _ _ (word_lt h i) (pow64 c)
theorem SB.same {w:World} {b:Nat} {ws:List Nat} (h:SB w b ws) (hw:Wf ws) {i:Nat} (hi:i < 4):SB (w.setCell ⟨b,i,none⟩ (.int .u64 (word ws i:Int))) b ws:=by
 have h1:=h.set i (word ws i);have:ws.set i (word ws i) = ws:=by
  apply List.ext_getElem?;intro k;rw [List.getElem?_set];by_cases hk:i = k
  · subst hk;rw [if_pos rfl,if_pos (by rw [hw.len];exact hi),word_get hw hi]
  · rw [if_neg hk]
 rwa [this] at h1
theorem SB.again {w:World} {b:Nat} {ws:List Nat} (h:SB w b ws) (hw:Wf ws) :
  SB ((((w.setCell ⟨b,0,none⟩ (.int .u64 (word ws 0:Int))).setCell ⟨b,1,none⟩ (.int .u64 (word ws 1:Int))).setCell ⟨b,2,none⟩ (.int .u64 (word ws 2:Int))).setCell ⟨b,3,none⟩ (.int .u64 (word ws 3:Int))) b ws :=
 (((h.same hw (by omega)).same hw (by omega)).same hw (by omega)).same hw (by omega)
theorem below_again {B:Nat} {w0 w:World} {b:Nat} (h:Below B w0 w) (hb:B <= b) (x0 x1 x2 x3:Value) :
  Below B w0 ((((w.setCell ⟨b,0,none⟩ x0).setCell ⟨b,1,none⟩ x1).setCell ⟨b,2,none⟩ x2).setCell ⟨b,3,none⟩ x3) :=
 (((h.setCell (p:=⟨b,0,none⟩) hb _).setCell (p:=⟨b,1,none⟩) hb _).setCell (p:=⟨b,2,none⟩) hb _).setCell (p:=⟨b,3,none⟩) hb _
theorem of_any (l:List UInt8) (w:World) (hl:l.length <= 1000000) :
  Calls Tryz.prog 115 #[.string ⟨l.toArray⟩] w fun e w'=>e = .returned (SV (ofL l)) /\ Below w.heap.size w w':=by
 go_enter Tryz.func115,Tryz.ntmps115;go_wp2;go_loopw [3,6] (fun _ i wr=>∃ k:Nat,k <= l.length /\ i = .int .i64 k /\ SB wr w.heap.size (ofL (l.take k)) /\ Below w.heap.size w wr) (fun _ i _=>l.length - (intOf i).toNat);(case atStart=>exact ⟨0,Nat.zero_le _,rfl,heap_alloc_new w _,(Below.refl _ w).alloc (Nat.le_refl _) _⟩);case round =>
  obtain ⟨k,hk,rfl,hS,hB⟩:=hrel;by_cases hlt:k < l.length
  · have hcell:((ByteArray.mk l.toArray)[k]'hlt) = l[k]:=rfl;have hw:=wf_ofL (l.take k);(have hsn:ofL (l.take (k + 1)) = add1 (ofL (l.take k)) l[k].toNat:=by rw [List.take_succ_eq_append_getElem hlt,ofL_snoc]);have HSN:=Lib.hid hsn;clear hsn;generalize ofL (l.take k) = ws at *;have hc0:=UInt8.toNat_lt l[k];(have en:((l[k].toNat:Int) / 64).toNat = l[k].toNat / 64:=by omega);have c1:=hS.cell hw (i:=((l[k].toNat:Int) / 64).toNat) (by omega);have f1:=Lib.frozen_of_heap hS ((l[k].toNat:Int) / 64).toNat;have c1':=hS.cell hw (i:=l[k].toNat / 64) (by omega);have f1':=Lib.frozen_of_heap hS (l[k].toNat / 64);clear en;(have h0:0 <= (l[k].toNat:Int) / 64:=by omega);(have h1:(l[k].toNat:Int) / 64 < 4:=by omega);generalize l[k] = c at *;have ho:=or_word hw (c.toNat / 64) c.toNat;go_wp2;go_region;go_wp2;go_roundw;(case rel=>exact ⟨k + 1,by omega,by go_num,by rw [HSN.out];exact SB.set hS _ _,hB.drew.setCell (Nat.le_refl _) _⟩);case measure=>simp [intOf];omega
  · (obtain rfl:k = l.length:=by omega);have hw:=wf_ofL (l.take l.length);have g0:=hS.cell hw (i:=0) (by omega);have g1:=hS.cell hw (i:=1) (by omega);have g2:=hS.cell hw (i:=2) (by omega);have g3:=hS.cell hw (i:=3) (by omega);have f0:=Lib.frozen_of_heap hS 0;have f1:=Lib.frozen_of_heap hS 1;have f2:=Lib.frozen_of_heap hS 2;have f3:=Lib.frozen_of_heap hS 3;have hSV:=SV_eq hw;rw [List.take_of_length_le (Nat.le_refl _)] at *;have HSV:=Lib.hid hSV;generalize hws:ofL l = ws at *;have HWS:=Lib.hid hws;clear hws;have hS4:=hS.again hw;have hB4:=below_again hB (Nat.le_refl _) (.int .u64 (word ws 0:Int)) (.int .u64 (word ws 1:Int)) (.int .u64 (word ws 2:Int)) (.int .u64 (word ws 3:Int));clear hS hSV;go_wp2;generalize (((wr.setCell { block:=w.heap.size,off:=0 } (Value.int IntKind.u64 ↑(word ws 0))).setCell { block:=w.heap.size,off:=1 } (Value.int IntKind.u64 ↑(word ws 1))).setCell { block:=w.heap.size,off:=2 } (Value.int IntKind.u64 ↑(word ws 2))).setCell { block:=w.heap.size,off:=3 } (Value.int IntKind.u64 ↑(word ws 3)) = W at *;have k0:=hS4.cell hw (i:=0) (by omega);have k1:=hS4.cell hw (i:=1) (by omega);have k2:=hS4.cell hw (i:=2) (by omega);have k3:=hS4.cell hw (i:=3) (by omega);exact bodyPost_ret (v:=SV ws) (by rw [HSV.out];simp [results,Tryz.results115,go_sem,k0,k1,k2,k3]) rfl ⟨by rw [HWS.out],hB4⟩
end Go.Proofs.YtinallojhkaogaaGreatDoor.St
namespace Go.Proofs.YtinallojhkaogaaGreatDoor.Rx
open Tr
open St (Wf bytesL)
theorem text_len (em:Prop):∀ t:Tr,t.Fine em -> (textT t).length <= 514 * t.size:=by
 have hx:∀ l:List UInt8,(l.flatMap hexB).length = 2 * l.length:=by
  intro l
  induction l with
  | nil=>rfl
  | cons b r ih=>rw [List.flatMap_cons,List.length_append,ih];simp [hexB];omega
 have hi:∀ {n:Int},-1 <= n -> n <= 255 -> (Lib.itoa n).length <= 10:=by
  intro n h0 h;unfold Lib.itoa;split
  · have:=Ad.dec_len n.natAbs (by omega);simp;omega
  · have:=Ad.dec_len n.toNat (by omega);omega
 intro t
 induction t with
 | e | beg | fin=>intro _;simp [textT,size]
 | set s =>
  intro _;(have h1:(bytesL s).length <= 256:=by rw [St.bytesL_len];exact St.bytesN_len s);simp only [textT,size,List.length_cons,List.length_append,hx,List.length_nil];omega
 | ref n =>
  intro hf;have:=hi (show -1 <= n by have:=hf.1;omega) (by have:=hf.2;omega);simp only [textT,size,List.length_cons];omega
 | cat x y ihx ihy | alt x y ihx ihy =>
  intro hf;have h1:=ihx hf.1;have h2:=ihy hf.2.1;simp only [textT,size,List.length_cons,List.length_append];omega
 | times mn mx x ihx =>
  intro hf;have h1:=ihx hf.1;have h2:=hi (show -1 <= mn by have:=hf.2.1;omega) hf.2.2.1;have h3:=hi (show -1 <= mx by have:=hf.2.2.2.1;omega) (by have:=hf.2.2.2.1;omega);simp only [textT,size,List.length_cons,List.length_append];omega
 | grp n x ihx =>
  intro hf;have h1:=ihx hf.1;simp only [textT,size,List.length_cons,List.length_append,List.length_nil];omega
def nodeS (n:Nd) (b:List UInt8):List UInt8 :=
 if n.k = 0 then [101] else if n.k = 1 then 91 :: ((bytesL n.s).flatMap hexB ++ [93]) else if n.k = 2 then [94] else if n.k = 3 then [36]
 else if n.k = 4 then 38 :: b else if n.k = 5 then 124 :: b else if n.k = 6 then 42 :: (Lib.itoa n.mn ++ 44 :: (Lib.itoa n.mx ++ 59 :: b))
 else if n.k = 7 then 40 :: (b ++ [41]) else 92 :: Lib.itoa n.n
theorem texts_step {n:Nd} {ts:List Tr} (hok:OneN n) (hp:parts n <= ts.length) :
  (build n ts).map textT = (ts.map textT).take (ts.length - parts n) ++ [nodeS n ((ts.map textT).drop (ts.length - parts n)).flatten]:=by
 obtain ⟨k,s,a,b,mn,mx,m⟩:=n;have leaf:∀ (t:Tr),parts ⟨k,s,a,b,mn,mx,m⟩ = 0 -> build ⟨k,s,a,b,mn,mx,m⟩ ts = ts ++ [t] -> (∀ z,textT t = nodeS ⟨k,s,a,b,mn,mx,m⟩ z) -> (build ⟨k,s,a,b,mn,mx,m⟩ ts).map textT = (ts.map textT).take (ts.length - parts ⟨k,s,a,b,mn,mx,m⟩) ++ [nodeS ⟨k,s,a,b,mn,mx,m⟩ ((ts.map textT).drop (ts.length - parts ⟨k,s,a,b,mn,mx,m⟩)).flatten]:=by
  intro t h1 h2 h3;rw [h1,h2,Nat.sub_zero,List.take_of_length_le (by simp),<- h3,List.map_append];rfl
 have one:parts ⟨k,s,a,b,mn,mx,m⟩ = 1 -> ∃ us x,ts = us ++ [x]:=by
  intro h;rw [h] at hp;obtain ⟨us,x,rfl,_⟩:=split_one (show ts.length = (ts.length - 1) + 1 by omega);exact ⟨us,x,rfl⟩
 have two:parts ⟨k,s,a,b,mn,mx,m⟩ = 2 -> ∃ us x y,ts = us ++ [x,y]:=by
  intro h;rw [h] at hp;obtain ⟨p,y,rfl,hpl⟩:=split_one (show ts.length = (ts.length - 1) + 1 by omega);obtain ⟨us,x,rfl,_⟩:=split_one (show p.length = (p.length - 1) + 1 by simp at hp;omega);exact ⟨us,x,y,by simp⟩
 have fin:∀ (us vs:List Tr) (t:Tr),ts = us ++ vs -> parts ⟨k,s,a,b,mn,mx,m⟩ = vs.length -> build ⟨k,s,a,b,mn,mx,m⟩ ts = us ++ [t] -> textT t = nodeS ⟨k,s,a,b,mn,mx,m⟩ (vs.map textT).flatten ->
   (build ⟨k,s,a,b,mn,mx,m⟩ ts).map textT = (ts.map textT).take (ts.length - parts ⟨k,s,a,b,mn,mx,m⟩) ++ [nodeS ⟨k,s,a,b,mn,mx,m⟩ ((ts.map textT).drop (ts.length - parts ⟨k,s,a,b,mn,mx,m⟩)).flatten]:=by
  rintro us vs t rfl h1 h2 h3;(have e:(us ++ vs).length - vs.length = (us.map textT).length:=by simp);rw [h2,h1,e,List.map_append,List.map_append,List.take_left,List.drop_left,<- h3];rfl
 simp only [OneN] at hok;rcases hok with ⟨hk,rfl,rfl,rfl,rfl,rfl,rfl⟩ | ⟨rfl,hs,rfl,rfl,rfl,rfl,rfl⟩ | ⟨hk,rfl,rfl,rfl,rfl⟩ | ⟨rfl,rfl,rfl,rfl,h6,h7,h8⟩ | ⟨rfl,rfl,rfl,rfl,rfl,h6,h7⟩ | ⟨rfl,rfl,rfl,rfl,rfl,rfl,h6,h7⟩
 ·
  rcases hk with rfl | rfl | rfl
  · exact leaf .e rfl rfl (fun _=>rfl)
  · exact leaf .beg rfl rfl (fun _=>rfl)
  · exact leaf .fin rfl rfl (fun _=>rfl)
 · exact leaf (.set s) rfl rfl (fun _=>rfl)
 ·
  rcases hk with rfl | rfl
  · obtain ⟨us,x,y,rfl⟩:=two rfl;exact fin us [x,y] (.cat x y) rfl rfl (by simp [build]) (by simp [textT,nodeS])
  · obtain ⟨us,x,y,rfl⟩:=two rfl;exact fin us [x,y] (.alt x y) rfl rfl (by simp [build]) (by simp [textT,nodeS])
 · obtain ⟨us,x,rfl⟩:=one rfl;exact fin us [x] (.times mn mx x) rfl rfl (by simp [build]) (by simp [textT,nodeS])
 · obtain ⟨us,x,rfl⟩:=one rfl;exact fin us [x] (.grp m x) rfl rfl (by simp [build]) (by simp [textT,nodeS])
 · exact leaf (.ref m) rfl rfl (fun _=>rfl)
def tx (l:List Nd) (k:Nat):List (List UInt8):=(treesRun l k).map textT
theorem ord_at {l:List Nd} {st:List Nat} (h:ordRun l l.length = some st):∀ k,k <= l.length -> ∃ st',ordRun l k = some st':=by
 intro k hk;cases e:ordRun l k with
 | some s=>exact ⟨s,rfl⟩
 | none =>
  exfalso;have:∀ j,ordRun l (k + j) = none:=by
   intro j
   induction j with
   | zero=>exact e
   | succ j ih =>
    show (ordRun l (k + j)).bind _ = none;rw [ih];rfl
  have h2:=this (l.length - k);rw [show k + (l.length - k) = l.length by omega,h] at h2;cases h2
theorem rootsL_len' (ts:List Tr):(rootsL ts 0).length = ts.length:=rootsL_len ts 0
theorem texts_len (em:Prop):∀ ts:List Tr,(∀ t ∈ ts,t.Fine em) -> (ts.map textT).flatten.length <= 514 * sizeL ts
 | [],_=>by simp [sizeL]
 | t :: ts,h=>by
  have h1:=text_len em t (h t (by simp));have h2:=texts_len em ts (fun u hu=>h u (by simp [hu]));simp only [List.map_cons,List.flatten_cons,List.length_append,sizeL];omega
theorem tx_step {l:List Nd} {st:List Nat} (h:ordRun l l.length = some st) {k:Nat} (hk:k < l.length) :
  OneN l[k] /\ parts l[k] <= (tx l k).length /\ tx l (k + 1) = (tx l k).take ((tx l k).length - parts l[k]) ++ [nodeS l[k] ((tx l k).drop ((tx l k).length - parts l[k])).flatten] /\ (tx l k).flatten.length <= 514 * k /\ (tx l k).length <= k:=by
 obtain ⟨s1,h1⟩:=ord_at h k (by omega);obtain ⟨s2,h2⟩:=ord_at h (k + 1) (by omega);obtain ⟨hf,hn,hr⟩:=run_trees l k s1 h1;have hl:l[k]? = some l[k]:=List.getElem?_eq_getElem hk;have hok:StepOk l l[k] s1:=by
  have h2':(ordRun l k).bind _ = some s2:=h2;rw [h1] at h2';rw [show (some s1).bind _ = (match l[k]? with | none=>none | some n=>if StepOk l n s1 then some (push n k s1) else none) from rfl,hl] at h2';dsimp only at h2';split at h2'
  · assumption
  · cases h2'
 (have hlen:(treesRun l k).length = s1.length:=by rw [hr,rootsL_len']);(have e:treesRun l (k + 1) = build l[k] (treesRun l k):=by simp only [treesRun,hl]);have hsz:sizeL (treesRun l k) = k:=by
  have:=congrArg List.length hn;rw [List.length_take,nodesL_len] at this;omega
 have hb:∀ ts:List Tr,ts.length <= sizeL ts:=by
  intro ts
  induction ts with
  | nil=>simp [sizeL]
  | cons t ts ih=>have:=size_pos t;simp only [List.length_cons,sizeL];omega
 refine ⟨hok.1,by unfold tx;rw [List.length_map,hlen];exact hok.2.1,?_,?_,?_⟩
 · unfold tx;rw [e,texts_step hok.1 (by rw [hlen];exact hok.2.1),List.length_map]
 · have:=texts_len _ _ hf;rw [hsz] at this;exact this
 · unfold tx;rw [List.length_map];have:=hb (treesRun l k);omega
theorem tx_end {t:Tr} (h:Good t):tx (t.nodes 0) t.size = [textT t]:=by
 obtain ⟨i,hi⟩:=(ordered_iff (t.nodes 0)).2 ⟨t,h.1,rfl⟩;obtain ⟨hf,hn,hr⟩:=run_trees _ _ _ hi;rw [List.take_length] at hn;rw [nodes_len] at hr hn hi;unfold tx;generalize treesRun (t.nodes 0) t.size = ts at *
 match ts,hr with
 | [u],hr =>
  (have e:t.nodes 0 = u.nodes 0:=by rw [hn];simp [nodesL]);obtain rfl:=nodes_inj t u 0 e;rfl
 | [],hr=>simp [rootsL] at hr
 | _ :: _ :: _,hr=>simp [rootsL] at hr
theorem flat_drop (X:List (List UInt8)) (m:Nat):(X.drop m).flatten.length <= X.flatten.length:=by
 have:=congrArg List.length (congrArg List.flatten (List.take_append_drop m X));rw [List.flatten_append,List.length_append] at this;omega
end Go.Proofs.YtinallojhkaogaaGreatDoor.Rx
namespace Go.Proofs.YtinallojhkaogaaGreatDoor.St
def val:List Nat -> Nat
 | []=>0
 | b :: r=>b + 256 * val r
def s1 (b:Nat):Nat:=(b / 2 &&& 85) + (b &&& 85)
def s2 (b:Nat):Nat:=(b / 4 &&& 51) + (b &&& 51)
def s3 (b:Nat):Nat:=(b / 16 + b) &&& 15
open Go.RowKit
theorem has_bits {ws:List Nat} (h:Wf ws) (b:Nat):(bits BinOp.and IntKind.u64 ((word ws (b / 64):Int) / 2 ^ (b % 64)) 1 == 1) = mem ws b:=by
 have hx:=word_lt h (b / 64);generalize hxe:word ws (b / 64) = x at *;(have e1:((x:Int) / 2 ^ (b % 64)) = ((x / 2 ^ (b % 64):Nat):Int):=by simp);have h2:x / 2 ^ (b % 64) < 18446744073709551616:=Nat.lt_of_le_of_lt (Nat.div_le_self _ _) hx;rw [e1,show (1:Int) = ((1:Nat):Int) from rfl,u64_and_nat _ _ h2 (by decide),nat_mask1];unfold mem;rw [Nat.testBit_eq_decide_div_mod_eq];rw [show word ws (b / 64) = x from hxe];generalize x / 2 ^ (b % 64) = t;rw [Bool.eq_iff_iff];simp only [beq_iff_eq,decide_eq_true_eq];omega
theorem two_new (w:World) (a b:Obj):((w.alloc a).alloc b).heap[w.heap.size]? = some a /\ ((w.alloc a).alloc b).heap[w.heap.size + 1]? = some b:=by
 (have hs:(w.alloc a).heap.size = w.heap.size + 1:=by show (w.heap.push a).size = _;simp);refine ⟨?_,?_⟩
 · rw [@heap_alloc_old _ _ _ (by rw [hs];exact Nat.lt_succ_self _)];exact heap_alloc_new w a
 · rw [<- hs];exact heap_alloc_new _ b
def put4 (w:World) (b:Nat) (vs:List Nat):World :=
 ((((w.setCell ⟨b,0,none⟩ (.int .u64 (word vs 0:Int))).setCell ⟨b,1,none⟩ (.int .u64 (word vs 1:Int))).setCell ⟨b,2,none⟩ (.int .u64 (word vs 2:Int))).setCell ⟨b,3,none⟩ (.int .u64 (word vs 3:Int)))
theorem put4_eq (w:World) (b:Nat) (vs:List Nat):((((w.setCell ⟨b,0,none⟩ (.int .u64 (word vs 0:Int))).setCell ⟨b,1,none⟩ (.int .u64 (word vs 1:Int))).setCell ⟨b,2,none⟩ (.int .u64 (word vs 2:Int))).setCell ⟨b,3,none⟩ (.int .u64 (word vs 3:Int))) = put4 w b vs:=rfl
theorem SB.put {w:World} {b:Nat} {zs vs:List Nat} (h:SB w b zs) (hz:Wf zs) (hv:Wf vs):SB (put4 w b vs) b vs:=by
 have hq:(((zs.set 0 (word vs 0)).set 1 (word vs 1)).set 2 (word vs 2)).set 3 (word vs 3) = vs:=by
  obtain ⟨hl,_⟩:=hz;obtain ⟨hl',_⟩:=hv
  match zs,vs,hl,hl' with
  | [_,_,_,_],[_,_,_,_],_,_=>rfl
 have e:=SB.set (SB.set (SB.set (SB.set h 0 (word vs 0)) 1 (word vs 1)) 2 (word vs 2)) 3 (word vs 3);rw [hq] at e;unfold put4;exact e
theorem put4_below {B:Nat} {w0 w:World} {b:Nat} (h:Below B w0 w) (hb:B <= b) (vs:List Nat):Below B w0 (put4 w b vs):=below_again h hb _ _ _ _
def Ls (w:World) (b:Nat) (l:List (List Nat)):Prop:=∀ k (h:k < l.length),∀ j,j < 4 -> w.cell? ⟨b,k * 4 + j,none⟩ = some (.int .u64 (word l[k] j:Int))
theorem wc_eq {ws:List Nat} (h:Wf ws):wc ws = #[.int .u64 (word ws 0:Int),.int .u64 (word ws 1:Int),.int .u64 (word ws 2:Int),.int .u64 (word ws 3:Int)]:=by
 obtain ⟨hl,_⟩:=h
 match ws,hl with
 | [a,b,c,d],_=>rfl
theorem or_any (l:List (List Nat)) (bk:Nat) (w:World) (h:∀ v ∈ l,Wf v) (hl:l.length <= 4) (hb:bk < w.heap.size) (hc:Ls w bk l) :
  Calls Tryz.prog 114 #[.slice (some ⟨bk,0,none⟩) l.length l.length] w fun e w'=>e = .returned (SV (orL l)) /\ Below w.heap.size w w':=by
 go_enter Tryz.func114,Tryz.ntmps114;go_wp2;go_loopw [4,5,8] (fun _ _ i wr=>∃ k:Nat,k <= l.length /\ i = .int .i64 (k:Int) /\ SB wr w.heap.size (orL (l.take k)) /\ Below w.heap.size w wr) (fun _ _ i _=>l.length - (intOf i).toNat);(case atStart=>exact ⟨0,Nat.zero_le _,rfl,heap_alloc_new w _,(Below.refl _ w).alloc (Nat.le_refl _) _⟩);case round =>
  obtain ⟨k,hk,rfl,hS,hB⟩:=hrel;have hw:=wf_orL (l:=l.take k) (fun v hv=>h v (List.mem_of_mem_take hv));by_cases hlt:k < l.length
  ·
   have hv:=h l[k] (List.getElem_mem hlt);have HSN:=Lib.hid (show orL (l.take (k + 1)) = or2 (orL (l.take k)) l[k] by unfold orL;rw [List.take_succ_eq_append_getElem hlt,List.foldl_append];rfl);have d0:=(hB.cell (p:=⟨bk,k * 4,none⟩) hb).trans (hc k hlt 0 (by omega));have d1:=(hB.cell (p:=⟨bk,k * 4 + 1,none⟩) hb).trans (hc k hlt 1 (by omega));have d2:=(hB.cell (p:=⟨bk,k * 4 + 2,none⟩) hb).trans (hc k hlt 2 (by omega));have d3:=(hB.cell (p:=⟨bk,k * 4 + 3,none⟩) hb).trans (hc k hlt 3 (by omega));have HL:=Lib.hid (show w.heap.size < wr.heap.size from (Array.getElem?_eq_some_iff.1 hS).1);(have hI:(k:Int) < (l.length:Int):=by omega);generalize orL (l.take k) = ws at *;generalize hvs:l[k] = vs at *;clear hvs hc;go_wp2;go_loopw [5,12] (fun _ i wv=>∃ j:Nat,j <= 4 /\ i = .int .i64 (j:Int) /\ SB wv w.heap.size (orK ws vs j) /\ SB wv wr.heap.size vs /\ Below w.heap.size w wv) (fun _ i _=>4 - (intOf i).toNat);case atStart =>
    refine ⟨0,Nat.zero_le _,rfl,?_,?_,hB.alloc hB.size _⟩
    · exact (@heap_alloc_old _ _ _ HL.out).trans hS
    · show (wr.alloc _).heap[wr.heap.size]? = some (.cells (wc vs) _ _);rw [heap_alloc_new,wc_eq hv]
   case round =>
    clear hS d0 d1 d2 d3;obtain ⟨j,hj,rfl,hS,hV,hB'⟩:=hrel;have hwj:=(orK_spec hw hv j hj).1;have HSJ:=Lib.hid (show orK ws vs (j + 1) = (orK ws vs j).set j (word (orK ws vs j) j ||| word vs j) from rfl);have HO4:=Lib.hid (orK_four hw hv);by_cases hjl:j < 4
    · have c1:=hS.cell hwj hjl;have f1:=Lib.frozen_of_heap hS j;have c2:=SB.cell hV hv hjl;have hx:=u64_or_nat _ _ (word_lt hwj j) (word_lt hv j);(have hJ:(j:Int) < 4:=by omega);have hj':((j:Int)).toNat < 4:=hjl;generalize hq:orK ws vs j = qs at *;clear hq;go_wp2;go_region;go_wp2;go_roundw;(case rel=>exact ⟨j + 1,by omega,by go_num,by rw [HSJ.out];exact (SB.set hS _ _).drew,(heap_set_other hV (Nat.ne_of_lt HL.out) _ _),(hB'.setCell (Nat.le_refl _) _).drew⟩);case measure=>simp [intOf];omega
    · (obtain rfl:j = 4:=by omega);have HS:=Lib.hid hS;clear hS hV hB;go_wp2;go_roundw;(case rel=>exact ⟨k + 1,by omega,by go_num,by rw [HSN.out,<- HO4.out];exact HS.out,hB'⟩);case measure=>simp [intOf];omega
  · (obtain rfl:k = l.length:=by omega);rw [List.take_of_length_le (Nat.le_refl _)] at *;generalize hws:orL l = WS at *;have HWS:=Lib.hid hws;clear hws;have g0:=hS.cell hw (i:=0) (by omega);have g1:=hS.cell hw (i:=1) (by omega);have g2:=hS.cell hw (i:=2) (by omega);have g3:=hS.cell hw (i:=3) (by omega);have f0:=Lib.frozen_of_heap hS 0;have f1:=Lib.frozen_of_heap hS 1;have f2:=Lib.frozen_of_heap hS 2;have f3:=Lib.frozen_of_heap hS 3;have HSV:=Lib.hid (SV_eq hw);have hS4:=hS.put hw hw;have hB4:=put4_below hB (Nat.le_refl _) WS;clear hS;go_wp2;rw [put4_eq];generalize put4 wr w.heap.size WS = W at *;have k0:=hS4.cell hw (i:=0) (by omega);have k1:=hS4.cell hw (i:=1) (by omega);have k2:=hS4.cell hw (i:=2) (by omega);have k3:=hS4.cell hw (i:=3) (by omega);exact bodyPost_ret (v:=SV WS) (by rw [HSV.out];simp [results,Tryz.results114,go_sem,k0,k1,k2,k3]) rfl ⟨by rw [HWS.out],hB4⟩
theorem idx_run (a b c d:Value) (w:World) : 
  (Instr.index 70 (.agg #[a,b,c,d]) (.int .i64 0)).run Tryz.prog w = .ok a w /\ (Instr.index 70 (.agg #[a,b,c,d]) (.int .i64 1)).run Tryz.prog w = .ok b w /\ (Instr.index 70 (.agg #[a,b,c,d]) (.int .i64 2)).run Tryz.prog w = .ok c w /\ (Instr.index 70 (.agg #[a,b,c,d]) (.int .i64 3)).run Tryz.prog w = .ok d w:=⟨by kernel_rfl,by kernel_rfl,by kernel_rfl,by kernel_rfl⟩
theorem idx_word (ws:List Nat) {k:Nat} (hk:k < 4) (w:World):(Instr.index 70 (.agg #[.int .u64 (word ws 0:Int),.int .u64 (word ws 1:Int),.int .u64 (word ws 2:Int),.int .u64 (word ws 3:Int)]) (.int .i64 (k:Int))).run Tryz.prog w = .ok (.int .u64 (word ws k:Int)) w:=by
 obtain ⟨h0,h1,h2,h3⟩:=idx_run (.int .u64 (word ws 0:Int)) (.int .u64 (word ws 1:Int)) (.int .u64 (word ws 2:Int)) (.int .u64 (word ws 3:Int)) w
 match k,hk with
 | 0,_=>exact h0
 | 1,_=>exact h1
 | 2,_=>exact h2
 | 3,_=>exact h3
open Go.RowKit Go.Shelf
attribute [local go_sem] Oper.semAt_some
def Tab (w:World):Prop:=TabAt 2 Lib.deBruijn64tab w
theorem Tab.below {w w':World} (h:Tab w) {B:Nat} (hb:Below B w w') (hB:2 < B):Tab w':=fun j hj=>(hb.cell (p:=⟨2,j,none⟩) hB).trans (h j hj)
theorem tz_core (x k idx:Nat) (w:World) (hx0:((x:Int) == 0) = false)
  (key:IntKind.u64.wrap (bits BinOp.and IntKind.u64 (x:Int) (IntKind.u64.wrap (-(x:Int))) * 285870213051353865) / 288230376151711744 = (idx:Int))
  (hi:idx < 64) (hk:k < 64) (hcell:w.cell? ⟨2,idx,none⟩ = some (.int .u8 k)) :
  Calls Tryz.prog 150 #[.int .u64 x] w fun e w'=>e = .returned (.int .i64 k) /\ w' = w:=by
 go_enter Tryz.func150,Tryz.ntmps150;go_wp2_with (simp only [key]);go_ret;exact ⟨rfl,rfl⟩
theorem tz_any (x:Nat) (hx:x < 18446744073709551616) (hx0:x ≠ 0) (w:World) (hT:Tab w) :
  Calls Tryz.prog 150 #[.int .u64 x] w fun e w'=>e = .returned (.int .i64 (Lib.ctz 64 x:Int)) /\ w' = w:=by
 obtain ⟨hlow,hk⟩:=Lib.lowest_bit 64 x hx0 hx;obtain ⟨hi,htab⟩:=Lib.deBruijn64_at _ hk;have hcell:=hT _ hi;rw [htab] at hcell;exact tz_core x _ _ w (by simp;omega) (tz64_key x _ hx hx0 hlow) hi hk hcell
theorem all_any (ws:List Nat) (w:World) (h:Wf ws) :
  Calls Tryz.prog 121 #[SV ws] w fun e w'=>e = .returned (.func (.func 149) #[] #[.pointer (some ⟨w.heap.size,0,none⟩)]) /\ w' = w.alloc (.cells (wc ws) 70):=by
 go_enter Tryz.func121,Tryz.ntmps121;go_wp2;go_ret;exact ⟨rfl,rfl⟩
end Go.Proofs.YtinallojhkaogaaGreatDoor.St
