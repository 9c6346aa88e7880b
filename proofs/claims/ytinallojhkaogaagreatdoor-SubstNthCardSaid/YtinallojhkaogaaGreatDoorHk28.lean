/- The texts RrW2. -/
import Derived.Test.YtinallojhkaogaaGreatDoorHk27
set_option linter.unusedVariables false
set_option linter.unusedSimpArgs false
set_option maxHeartbeats 3200000
set_option maxRecDepth 100000
namespace Go.Proofs.YtinallojhkaogaaGreatDoor.Rx
open Go.RowKit Go.Shelf
open Tr
open St (Wf word zeroW wf_zero)
def ex (s:NSt) (i:Nat):Bool:=(s.e[i]?).getD false
abbrev WC (s:NSt):Array Value:=#[.bool s.ok,E s.g,.bool (ex s 0),.bool (ex s 1),.bool (ex s 2),.bool (ex s 3),.bool (ex s 4),.bool (ex s 5),.bool (ex s 6),.bool (ex s 7),.bool (ex s 8),.bool (ex s 9),.bool s.r]
abbrev WV (s:NSt):Value:=.agg (WC s)
abbrev WB (w:World) (b:Nat) (s:NSt):Prop:=w.heap[b]? = some (.cells (WC s) 162 (0,0))
theorem infoW:(Tryz.prog.info? 162).map (·.size) = some 13:=by kernel_rfl
theorem ansW {fn:Func} {p:Tmp} (h:fn.results = #[.cell p 162]) {tmps:Array Value} {w:World} {g:Nat} {s:NSt} (hp:tmps.getD p undef = .pointer (some ⟨g,0,none⟩)) (hg:WB w g s) {fs:Array Field} (hu:Tryz.prog.underlying 162 = some (.struct fs)) :
  (results fn tmps).run Tryz.prog w = .ok (WV s) w :=
 ansA hu 13 infoW h hp hg rfl
theorem WB.cells {w:World} {b:Nat} {s:NSt} (h:WB w b s) :
  (w.cell? ⟨b,0,none⟩ = some (.bool s.ok) /\ w.cell? ⟨b,1,none⟩ = some (E s.g) /\ w.cell? ⟨b,2,none⟩ = some (.bool (ex s 0)) /\ w.cell? ⟨b,3,none⟩ = some (.bool (ex s 1)) /\ w.cell? ⟨b,4,none⟩ = some (.bool (ex s 2)) /\ w.cell? ⟨b,5,none⟩ = some (.bool (ex s 3)) /\ w.cell? ⟨b,6,none⟩ = some (.bool (ex s 4)) /\ w.cell? ⟨b,7,none⟩ = some (.bool (ex s 5)) /\ w.cell? ⟨b,8,none⟩ = some (.bool (ex s 6)) /\ w.cell? ⟨b,9,none⟩ = some (.bool (ex s 7)) /\ w.cell? ⟨b,10,none⟩ = some (.bool (ex s 8)) /\ w.cell? ⟨b,11,none⟩ = some (.bool (ex s 9)) /\ w.cell? ⟨b,12,none⟩ = some (.bool s.r)) /\ (∀ i,w.frozen? ⟨b,i,none⟩ = false) :=
 ⟨⟨(Lib.cell_of_heap h 0).trans rfl,(Lib.cell_of_heap h 1).trans rfl,(Lib.cell_of_heap h 2).trans rfl,(Lib.cell_of_heap h 3).trans rfl,(Lib.cell_of_heap h 4).trans rfl,(Lib.cell_of_heap h 5).trans rfl,(Lib.cell_of_heap h 6).trans rfl,(Lib.cell_of_heap h 7).trans rfl,(Lib.cell_of_heap h 8).trans rfl,(Lib.cell_of_heap h 9).trans rfl,(Lib.cell_of_heap h 10).trans rfl,(Lib.cell_of_heap h 11).trans rfl,(Lib.cell_of_heap h 12).trans rfl⟩,fun i=>by simp [World.frozen?,h]⟩
theorem WB.at {w:World} {b:Nat} {s:NSt} (h:WB w b s) {m:Nat} (hm:m < 10):w.cell? ⟨b,2 + m,none⟩ = some (.bool (ex s m)):=by
 rw [Lib.cell_of_heap h]
 match m,hm with
 | 0,_=>rfl
 | 1,_=>rfl
 | 2,_=>rfl
 | 3,_=>rfl
 | 4,_=>rfl
 | 5,_=>rfl
 | 6,_=>rfl
 | 7,_=>rfl
 | 8,_=>rfl
 | 9,_=>rfl
theorem WB.set {w:World} {b:Nat} {s s':NSt} (h:WB w b s) {i:Nat} {u:Value} (e:(WC s).setIfInBounds i u = WC s'):WB (w.setCell ⟨b,i,none⟩ u) b s':=by
 have:=Go.Joins.block_setCell h (i:=i) u;rw [e] at this;exact this
theorem wc_end {s:NSt} (hl:s.e.length = 10) {m:Nat} (hm:m < 10):(WC s).setIfInBounds (2 + m) (.bool true) = WC ⟨s.g,s.e.set m true,s.r,s.ok⟩:=by
 have hx:∀ i,i < 10 -> ex ⟨s.g,s.e.set m true,s.r,s.ok⟩ i = if i = m then true else ex s i:=by
  intro i hi;unfold ex;dsimp only;rw [List.getElem?_set];by_cases q:m = i
  · subst q;simp [hl,hi]
  · rw [if_neg q,if_neg (fun e=>q e.symm)]
 have h0:=hx 0 (by decide);have h1:=hx 1 (by decide);have h2:=hx 2 (by decide);have h3:=hx 3 (by decide);have h4:=hx 4 (by decide);have h5:=hx 5 (by decide);have h6:=hx 6 (by decide);have h7:=hx 7 (by decide);have h8:=hx 8 (by decide);have h9:=hx 9 (by decide);clear hx;unfold WC;rw [h0,h1,h2,h3,h4,h5,h6,h7,h8,h9]
 match m,hm with
 | 0,_=>rfl
 | 1,_=>rfl
 | 2,_=>rfl
 | 3,_=>rfl
 | 4,_=>rfl
 | 5,_=>rfl
 | 6,_=>rfl
 | 7,_=>rfl
 | 8,_=>rfl
 | 9,_=>rfl
structure TH (w0:World) (s:NSt) (n:Nd) (w:World):Prop where
 wb:WB w w0.heap.size s
 rb:∃ s0,WB w (w0.heap.size + 1) s0
 nb:w.heap[w0.heap.size + 2]? = some (.cells (NC n) 87 (0,0))
 bel:Below w0.heap.size w0 w
section
variable {w0 w w':World} {s s':NSt} {n:Nd}
theorem TH.below (h:TH w0 s n w) (hb:Below w.heap.size w w'):TH w0 s n w':=by
 obtain ⟨s0,h0⟩:=h.rb;exact ⟨(hb.block _ (lt_heap' h.wb)).trans h.wb,⟨s0,(hb.block _ (lt_heap' h0)).trans h0⟩,(hb.block _ (lt_heap' h.nb)).trans h.nb,h.bel.trans (hb.mono h.bel.size)⟩
theorem TH.set (h:TH w0 s n w) {i:Nat} {u:Value} (e:(WC s).setIfInBounds i u = WC s'):TH w0 s' n (w.setCell ⟨w0.heap.size,i,none⟩ u):=by
 obtain ⟨s0,h0⟩:=h.rb;exact ⟨h.wb.set e,⟨s0,setne h0 (by omega)⟩,setne h.nb (by omega),h.bel.setCell (by simp) _⟩
theorem TH.off (h:TH w0 s n w):TH w0 ⟨s.g,s.e,s.r,false⟩ n (w.setCell ⟨w0.heap.size,0,none⟩ (.bool false)):=h.set rfl
theorem TH.cells (h:TH w0 s n w) :
  (w.cell? ⟨w0.heap.size + 1 + 1,0,none⟩ = some (E n.k) /\ w.cell? ⟨w0.heap.size + 1 + 1,5,none⟩ = some (E n.a) /\ w.cell? ⟨w0.heap.size + 1 + 1,6,none⟩ = some (E n.b) /\ w.cell? ⟨w0.heap.size + 1 + 1,9,none⟩ = some (E n.n)) :=
 ⟨(Lib.cell_of_heap h.nb 0).trans rfl,(Lib.cell_of_heap h.nb 5).trans rfl,(Lib.cell_of_heap h.nb 6).trans rfl,(Lib.cell_of_heap h.nb 9).trans rfl⟩
end
theorem rb_put {w:World} {b:Nat} {s0:NSt} (h:WB w b s0) (s:NSt):WB (((((((((((((w.setCell ⟨b,0,none⟩ (.bool s.ok)).setCell ⟨b,1,none⟩ (E s.g)).setCell ⟨b,2,none⟩ (.bool (ex s 0))).setCell ⟨b,3,none⟩ (.bool (ex s 1))).setCell ⟨b,4,none⟩ (.bool (ex s 2))).setCell ⟨b,5,none⟩ (.bool (ex s 3))).setCell ⟨b,6,none⟩ (.bool (ex s 4))).setCell ⟨b,7,none⟩ (.bool (ex s 5))).setCell ⟨b,8,none⟩ (.bool (ex s 6))).setCell ⟨b,9,none⟩ (.bool (ex s 7))).setCell ⟨b,10,none⟩ (.bool (ex s 8))).setCell ⟨b,11,none⟩ (.bool (ex s 9))).setCell ⟨b,12,none⟩ (.bool s.r)) b s:=by
 have h:WB w b ⟨s0.g,[ex s0 0,ex s0 1,ex s0 2,ex s0 3,ex s0 4,ex s0 5,ex s0 6,ex s0 7,ex s0 8,ex s0 9],s0.r,s0.ok⟩:=h;have h:=h.set (i:=0) (u:=.bool s.ok) (s':=⟨s0.g,[ex s0 0,ex s0 1,ex s0 2,ex s0 3,ex s0 4,ex s0 5,ex s0 6,ex s0 7,ex s0 8,ex s0 9],s0.r,s.ok⟩) rfl;have h:=h.set (i:=1) (u:=E s.g) (s':=⟨s.g,[ex s0 0,ex s0 1,ex s0 2,ex s0 3,ex s0 4,ex s0 5,ex s0 6,ex s0 7,ex s0 8,ex s0 9],s0.r,s.ok⟩) rfl;have h:=h.set (i:=2) (u:=.bool (ex s 0)) (s':=⟨s.g,[ex s 0,ex s0 1,ex s0 2,ex s0 3,ex s0 4,ex s0 5,ex s0 6,ex s0 7,ex s0 8,ex s0 9],s0.r,s.ok⟩) rfl;have h:=h.set (i:=3) (u:=.bool (ex s 1)) (s':=⟨s.g,[ex s 0,ex s 1,ex s0 2,ex s0 3,ex s0 4,ex s0 5,ex s0 6,ex s0 7,ex s0 8,ex s0 9],s0.r,s.ok⟩) rfl;have h:=h.set (i:=4) (u:=.bool (ex s 2)) (s':=⟨s.g,[ex s 0,ex s 1,ex s 2,ex s0 3,ex s0 4,ex s0 5,ex s0 6,ex s0 7,ex s0 8,ex s0 9],s0.r,s.ok⟩) rfl;have h:=h.set (i:=5) (u:=.bool (ex s 3)) (s':=⟨s.g,[ex s 0,ex s 1,ex s 2,ex s 3,ex s0 4,ex s0 5,ex s0 6,ex s0 7,ex s0 8,ex s0 9],s0.r,s.ok⟩) rfl;have h:=h.set (i:=6) (u:=.bool (ex s 4)) (s':=⟨s.g,[ex s 0,ex s 1,ex s 2,ex s 3,ex s 4,ex s0 5,ex s0 6,ex s0 7,ex s0 8,ex s0 9],s0.r,s.ok⟩) rfl;have h:=h.set (i:=7) (u:=.bool (ex s 5)) (s':=⟨s.g,[ex s 0,ex s 1,ex s 2,ex s 3,ex s 4,ex s 5,ex s0 6,ex s0 7,ex s0 8,ex s0 9],s0.r,s.ok⟩) rfl;have h:=h.set (i:=8) (u:=.bool (ex s 6)) (s':=⟨s.g,[ex s 0,ex s 1,ex s 2,ex s 3,ex s 4,ex s 5,ex s 6,ex s0 7,ex s0 8,ex s0 9],s0.r,s.ok⟩) rfl;have h:=h.set (i:=9) (u:=.bool (ex s 7)) (s':=⟨s.g,[ex s 0,ex s 1,ex s 2,ex s 3,ex s 4,ex s 5,ex s 6,ex s 7,ex s0 8,ex s0 9],s0.r,s.ok⟩) rfl;have h:=h.set (i:=10) (u:=.bool (ex s 8)) (s':=⟨s.g,[ex s 0,ex s 1,ex s 2,ex s 3,ex s 4,ex s 5,ex s 6,ex s 7,ex s 8,ex s0 9],s0.r,s.ok⟩) rfl;have h:=h.set (i:=11) (u:=.bool (ex s 9)) (s':=⟨s.g,[ex s 0,ex s 1,ex s 2,ex s 3,ex s 4,ex s 5,ex s 6,ex s 7,ex s 8,ex s 9],s0.r,s.ok⟩) rfl;have h:=h.set (i:=12) (u:=.bool s.r) (s':=⟨s.g,[ex s 0,ex s 1,ex s 2,ex s 3,ex s 4,ex s 5,ex s 6,ex s 7,ex s 8,ex s 9],s.r,s.ok⟩) rfl;exact h
abbrev put13 (w:World) (b:Nat) (s:NSt):World:=((((((((((((w.setCell ⟨b,0,none⟩ (.bool s.ok)).setCell ⟨b,1,none⟩ (E s.g)).setCell ⟨b,2,none⟩ (.bool (ex s 0))).setCell ⟨b,3,none⟩ (.bool (ex s 1))).setCell ⟨b,4,none⟩ (.bool (ex s 2))).setCell ⟨b,5,none⟩ (.bool (ex s 3))).setCell ⟨b,6,none⟩ (.bool (ex s 4))).setCell ⟨b,7,none⟩ (.bool (ex s 5))).setCell ⟨b,8,none⟩ (.bool (ex s 6))).setCell ⟨b,9,none⟩ (.bool (ex s 7))).setCell ⟨b,10,none⟩ (.bool (ex s 8))).setCell ⟨b,11,none⟩ (.bool (ex s 9))).setCell ⟨b,12,none⟩ (.bool s.r)
theorem put_below {B:Nat} {w0 w:World} (h:Below B w0 w) {b:Nat} (hb:B <= b) (s:NSt):Below B w0 (put13 w b s) :=
 ((((((((((((h.setCell hb _).setCell hb _).setCell hb _).setCell hb _).setCell hb _).setCell hb _).setCell hb _).setCell hb _).setCell hb _).setCell hb _).setCell hb _).setCell hb _).setCell hb _
theorem put_ne {w:World} {a b:Nat} {o:Obj} (h:w.heap[a]? = some o) (hne:a ≠ b) (s:NSt):(put13 w b s).heap[a]? = some o :=
 setne (setne (setne (setne (setne (setne (setne (setne (setne (setne (setne (setne (setne h hne) hne) hne) hne) hne) hne) hne) hne) hne) hne) hne) hne) hne
theorem TH.put {w0 w:World} {s:NSt} {n:Nd} (h:TH w0 s n w) (sf:NSt):TH w0 s n (put13 w (w0.heap.size + 1) sf):=by
 obtain ⟨s0,h0⟩:=h.rb;exact ⟨put_ne h.wb (by omega) sf,⟨sf,rb_put h0 sf⟩,put_ne h.nb (by omega) sf,put_below h.bel (by omega) sf⟩
theorem TH.putw {w0 w:World} {s:NSt} {n:Nd} (h:TH w0 s n w) (sf:NSt):TH w0 sf n (put13 w w0.heap.size sf):=by
 obtain ⟨s0,h0⟩:=h.rb;exact ⟨rb_put h.wb sf,⟨s0,put_ne h0 (by omega) sf⟩,put_ne h.nb (by omega) sf,put_below h.bel (Nat.le_refl _) sf⟩
theorem TH.ends {w0 w:World} {s:NSt} {n:Nd} {m:Nat} (h:TH w0 s n w) (hl:s.e.length = 10) (hm:m < 10):TH w0 ⟨s.g,s.e.set m true,s.r,s.ok⟩ n (w.setCell ⟨w0.heap.size,2 + m,none⟩ (.bool true)):=h.set (wc_end hl hm)
theorem th_start (w0:World) (s:NSt) (n:Nd):TH w0 s n (((w0.alloc (.cells (WC s) 162)).alloc (.cells #[.bool false,.int .i64 0,.bool false,.bool false,.bool false,.bool false,.bool false,.bool false,.bool false,.bool false,.bool false,.bool false,.bool false] 162)).alloc (.cells (NC n) 87)):=by
 have e0:=heap_alloc_new w0 (.cells (WC s) 162);have e1:=heap_alloc_new (w0.alloc (.cells (WC s) 162)) (.cells #[.bool false,.int .i64 0,.bool false,.bool false,.bool false,.bool false,.bool false,.bool false,.bool false,.bool false,.bool false,.bool false,.bool false] 162);have e2:=heap_alloc_new ((w0.alloc (.cells (WC s) 162)).alloc (.cells #[.bool false,.int .i64 0,.bool false,.bool false,.bool false,.bool false,.bool false,.bool false,.bool false,.bool false,.bool false,.bool false,.bool false] 162)) (.cells (NC n) 87);have b3:=((((Below.refl w0.heap.size w0).alloc (Nat.le_refl _) (.cells (WC s) 162)).alloc (by simp) (.cells #[.bool false,.int .i64 0,.bool false,.bool false,.bool false,.bool false,.bool false,.bool false,.bool false,.bool false,.bool false,.bool false,.bool false] 162)).alloc (by simp;omega) (.cells (NC n) 87));(have s1:(w0.alloc (.cells (WC s) 162)).heap.size = w0.heap.size + 1:=by simp);(have s2:((w0.alloc (.cells (WC s) 162)).alloc (.cells #[.bool false,.int .i64 0,.bool false,.bool false,.bool false,.bool false,.bool false,.bool false,.bool false,.bool false,.bool false,.bool false,.bool false] 162)).heap.size = w0.heap.size + 2:=by simp);rw [s1] at e1;rw [s2] at e2;refine ⟨?_,⟨⟨0,[],false,false⟩,?_⟩,e2,b3⟩
 · exact (Below.heap_alloc _ _ _ (by rw [s2];omega)).trans ((Below.heap_alloc _ _ _ (by rw [s1];omega)).trans e0)
 · exact (Below.heap_alloc _ _ _ (by rw [s2];omega)).trans e1
theorem thr_leaf (w:World) (b0 o0 L c i:Nat) (s:NSt) (hi:(i:Int) < (L:Int)) (n:Nd) (h4:(n.k == 4) = false) (h5:(n.k == 5) = false) (h6:(n.k == 6) = false) (h7:(n.k == 7) = false) (h8:(n.k == 8) = false) (h0:(n.k == 0) = false) (hN:NCell w b0 (o0 + i * 10) n) :
  Calls Tryz.prog 125 #[.slice (some ⟨b0,o0,none⟩) L c,E (i:Nat),WV s] w fun e w'=>e = .returned (WV (s)) /\ Below w.heap.size w w':=by
 (have hi0:(0:Int) <= (i:Int):=by omega);obtain ⟨q0,q1,q2,q3,q4,q5,q6,q7,q8,q9⟩:=hN;have hlb0:b0 < w.heap.size:=lt_cell q0;have HS0:=Hd (th_start w s n);go_enter Tryz.func125,Tryz.ntmps125;rw [show Code.region 2 = Fz 2 from rfl];go_wp2;refine at_world (p:=fun W=>TH w s n W) HS0.out (fun W hW=>?_);have HS1:=Hd hW;clear hW HS0 q0 q1 q2 q3 q4 q5 q6 q7 q8 q9;obtain ⟨x0,xa,xb,xn⟩:=HS1.out.cells;obtain ⟨⟨xw0,xw1,xw2,xw3,xw4,xw5,xw6,xw7,xw8,xw9,xw10,xw11,xw12⟩,xf⟩:=HS1.out.wb.cells;rw [show Fz 2 = Code.region 2 from rfl];obtain ⟨z0,hz0⟩:=HS1.out.rb;have HR:=Hd (rb_put hz0 (s));have HBL:=Hd (put_below HS1.out.bel (Nat.le_succ _) (s));obtain ⟨⟨y0,y1,y2,y3,y4,y5,y6,y7,y8,y9,y10,y11,y12⟩,yf⟩:=hz0.cells;clear hz0;go_wp2;exact bodyPost_ret (v:=WV (s)) (ansW rfl rfl HR.out Tryz.underlying162) rfl ⟨rfl,HBL.out⟩
theorem thr_0t (w:World) (b0 o0 L c i:Nat) (s:NSt) (hi:(i:Int) < (L:Int)) (z:List Nat) (a b mn mx m:Int) (hL:L = 1) (hN:NCell w b0 (o0 + i * 10) ⟨0,z,a,b,mn,mx,m⟩) :
  Calls Tryz.prog 125 #[.slice (some ⟨b0,o0,none⟩) L c,E (i:Nat),WV s] w fun e w'=>e = .returned (WV (s)) /\ Below w.heap.size w w':=by
 (have hi0:(0:Int) <= (i:Int):=by omega);obtain ⟨q0,q1,q2,q3,q4,q5,q6,q7,q8,q9⟩:=hN;have hlb0:b0 < w.heap.size:=lt_cell q0;have HS0:=Hd (th_start w s ⟨0,z,a,b,mn,mx,m⟩);go_enter Tryz.func125,Tryz.ntmps125;rw [show Code.region 2 = Fz 2 from rfl];go_wp2;refine at_world (p:=fun W=>TH w s ⟨0,z,a,b,mn,mx,m⟩ W) HS0.out (fun W hW=>?_);have HS1:=Hd hW;clear hW HS0 q0 q1 q2 q3 q4 q5 q6 q7 q8 q9;obtain ⟨x0,xa,xb,xn⟩:=HS1.out.cells;obtain ⟨⟨xw0,xw1,xw2,xw3,xw4,xw5,xw6,xw7,xw8,xw9,xw10,xw11,xw12⟩,xf⟩:=HS1.out.wb.cells;rw [show Fz 2 = Code.region 2 from rfl];subst hL;obtain ⟨z0,hz0⟩:=HS1.out.rb;have HR:=Hd (rb_put hz0 (s));have HBL:=Hd (put_below HS1.out.bel (Nat.le_succ _) (s));obtain ⟨⟨y0,y1,y2,y3,y4,y5,y6,y7,y8,y9,y10,y11,y12⟩,yf⟩:=hz0.cells;clear hz0;go_wp2;exact bodyPost_ret (v:=WV (s)) (ansW rfl rfl HR.out Tryz.underlying162) rfl ⟨rfl,HBL.out⟩
theorem thr_0f (w:World) (b0 o0 L c i:Nat) (s:NSt) (hi:(i:Int) < (L:Int)) (z:List Nat) (a b mn mx m:Int) (hL:(((L:Nat):Int) != 1) = true) (hN:NCell w b0 (o0 + i * 10) ⟨0,z,a,b,mn,mx,m⟩) :
  Calls Tryz.prog 125 #[.slice (some ⟨b0,o0,none⟩) L c,E (i:Nat),WV s] w fun e w'=>e = .returned (WV (⟨s.g,s.e,s.r,false⟩)) /\ Below w.heap.size w w':=by
 (have hi0:(0:Int) <= (i:Int):=by omega);obtain ⟨q0,q1,q2,q3,q4,q5,q6,q7,q8,q9⟩:=hN;have hlb0:b0 < w.heap.size:=lt_cell q0;have HS0:=Hd (th_start w s ⟨0,z,a,b,mn,mx,m⟩);go_enter Tryz.func125,Tryz.ntmps125;rw [show Code.region 2 = Fz 2 from rfl];go_wp2;refine at_world (p:=fun W=>TH w s ⟨0,z,a,b,mn,mx,m⟩ W) HS0.out (fun W hW=>?_);have HS1:=Hd hW;clear hW HS0 q0 q1 q2 q3 q4 q5 q6 q7 q8 q9;obtain ⟨x0,xa,xb,xn⟩:=HS1.out.cells;obtain ⟨⟨xw0,xw1,xw2,xw3,xw4,xw5,xw6,xw7,xw8,xw9,xw10,xw11,xw12⟩,xf⟩:=HS1.out.wb.cells;rw [show Fz 2 = Code.region 2 from rfl];have HS2:=Hd HS1.out.off;obtain ⟨t0,ta,tb,tn⟩:=HS2.out.cells;obtain ⟨⟨tw0,tw1,tw2,tw3,tw4,tw5,tw6,tw7,tw8,tw9,tw10,tw11,tw12⟩,tf⟩:=HS2.out.wb.cells;have hz9:=HS2.out.rb;obtain ⟨z0,hz0⟩:=HS2.out.rb;have HR:=Hd (rb_put hz0 (⟨s.g,s.e,s.r,false⟩));have HBL:=Hd (put_below HS2.out.bel (Nat.le_succ _) (⟨s.g,s.e,s.r,false⟩));obtain ⟨⟨y0,y1,y2,y3,y4,y5,y6,y7,y8,y9,y10,y11,y12⟩,yf⟩:=hz0.cells;clear hz0;go_wp2;exact bodyPost_ret (v:=WV (⟨s.g,s.e,s.r,false⟩)) (ansW rfl rfl HR.out Tryz.underlying162) rfl ⟨rfl,HBL.out⟩
theorem thr_8t (w:World) (b0 o0 L c i:Nat) (s:NSt) (hi:(i:Int) < (L:Int)) (z:List Nat) (m:Nat) (a b mn mx:Int) (hm:m < 10) (hx:ex s m = true) (hN:NCell w b0 (o0 + i * 10) ⟨8,z,a,b,mn,mx,(m:Nat)⟩) :
  Calls Tryz.prog 125 #[.slice (some ⟨b0,o0,none⟩) L c,E (i:Nat),WV s] w fun e w'=>e = .returned (WV (⟨s.g,s.e,true,s.ok⟩)) /\ Below w.heap.size w w':=by
 (have hi0:(0:Int) <= (i:Int):=by omega);obtain ⟨q0,q1,q2,q3,q4,q5,q6,q7,q8,q9⟩:=hN;have hlb0:b0 < w.heap.size:=lt_cell q0;have HS0:=Hd (th_start w s ⟨8,z,a,b,mn,mx,(m:Nat)⟩);go_enter Tryz.func125,Tryz.ntmps125;rw [show Code.region 2 = Fz 2 from rfl];go_wp2;refine at_world (p:=fun W=>TH w s ⟨8,z,a,b,mn,mx,(m:Nat)⟩ W) HS0.out (fun W hW=>?_);have HS1:=Hd hW;clear hW HS0 q0 q1 q2 q3 q4 q5 q6 q7 q8 q9;obtain ⟨x0,xa,xb,xn⟩:=HS1.out.cells;obtain ⟨⟨xw0,xw1,xw2,xw3,xw4,xw5,xw6,xw7,xw8,xw9,xw10,xw11,xw12⟩,xf⟩:=HS1.out.wb.cells;rw [show Fz 2 = Code.region 2 from rfl];(have hm0:(0:Int) <= ((m:Nat):Int):=by omega);(have hm9:((m:Nat):Int) < 10:=by omega);have HS2:=Hd (HS1.out.set (i:=12) (u:=.bool true) (s':=⟨s.g,s.e,true,s.ok⟩) rfl);obtain ⟨t0,ta,tb,tn⟩:=HS2.out.cells;obtain ⟨⟨tw0,tw1,tw2,tw3,tw4,tw5,tw6,tw7,tw8,tw9,tw10,tw11,tw12⟩,tf⟩:=HS2.out.wb.cells;have tm:=HS2.out.wb.at hm;rw [show ex (⟨s.g,s.e,true,s.ok⟩:NSt) m = true from hx] at tm;obtain ⟨z0,hz0⟩:=HS2.out.rb;have HR:=Hd (rb_put hz0 (⟨s.g,s.e,true,s.ok⟩));have HBL:=Hd (put_below HS2.out.bel (Nat.le_succ _) (⟨s.g,s.e,true,s.ok⟩));obtain ⟨⟨y0,y1,y2,y3,y4,y5,y6,y7,y8,y9,y10,y11,y12⟩,yf⟩:=hz0.cells;clear hz0;go_wp2;exact bodyPost_ret (v:=WV (⟨s.g,s.e,true,s.ok⟩)) (ansW rfl rfl HR.out Tryz.underlying162) rfl ⟨rfl,HBL.out⟩
theorem thr_8f (w:World) (b0 o0 L c i:Nat) (s:NSt) (hi:(i:Int) < (L:Int)) (z:List Nat) (m:Nat) (a b mn mx:Int) (hm:m < 10) (hx:ex s m = false) (hN:NCell w b0 (o0 + i * 10) ⟨8,z,a,b,mn,mx,(m:Nat)⟩) :
  Calls Tryz.prog 125 #[.slice (some ⟨b0,o0,none⟩) L c,E (i:Nat),WV s] w fun e w'=>e = .returned (WV (⟨s.g,s.e,true,false⟩)) /\ Below w.heap.size w w':=by
 (have hi0:(0:Int) <= (i:Int):=by omega);obtain ⟨q0,q1,q2,q3,q4,q5,q6,q7,q8,q9⟩:=hN;have hlb0:b0 < w.heap.size:=lt_cell q0;have HS0:=Hd (th_start w s ⟨8,z,a,b,mn,mx,(m:Nat)⟩);go_enter Tryz.func125,Tryz.ntmps125;rw [show Code.region 2 = Fz 2 from rfl];go_wp2;refine at_world (p:=fun W=>TH w s ⟨8,z,a,b,mn,mx,(m:Nat)⟩ W) HS0.out (fun W hW=>?_);have HS1:=Hd hW;clear hW HS0 q0 q1 q2 q3 q4 q5 q6 q7 q8 q9;obtain ⟨x0,xa,xb,xn⟩:=HS1.out.cells;obtain ⟨⟨xw0,xw1,xw2,xw3,xw4,xw5,xw6,xw7,xw8,xw9,xw10,xw11,xw12⟩,xf⟩:=HS1.out.wb.cells;rw [show Fz 2 = Code.region 2 from rfl];(have hm0:(0:Int) <= ((m:Nat):Int):=by omega);(have hm9:((m:Nat):Int) < 10:=by omega);have HS2:=Hd (HS1.out.set (i:=12) (u:=.bool true) (s':=⟨s.g,s.e,true,s.ok⟩) rfl);obtain ⟨t0,ta,tb,tn⟩:=HS2.out.cells;obtain ⟨⟨tw0,tw1,tw2,tw3,tw4,tw5,tw6,tw7,tw8,tw9,tw10,tw11,tw12⟩,tf⟩:=HS2.out.wb.cells;have tm:=HS2.out.wb.at hm;rw [show ex (⟨s.g,s.e,true,s.ok⟩:NSt) m = false from hx] at tm;have HS3:=Hd HS2.out.off;obtain ⟨v0,va,vb,vn⟩:=HS3.out.cells;obtain ⟨⟨vw0,vw1,vw2,vw3,vw4,vw5,vw6,vw7,vw8,vw9,vw10,vw11,vw12⟩,vf⟩:=HS3.out.wb.cells;obtain ⟨z0,hz0⟩:=HS3.out.rb;have HR:=Hd (rb_put hz0 (⟨s.g,s.e,true,false⟩));have HBL:=Hd (put_below HS3.out.bel (Nat.le_succ _) (⟨s.g,s.e,true,false⟩));obtain ⟨⟨y0,y1,y2,y3,y4,y5,y6,y7,y8,y9,y10,y11,y12⟩,yf⟩:=hz0.cells;clear hz0;go_wp2;exact bodyPost_ret (v:=WV (⟨s.g,s.e,true,false⟩)) (ansW rfl rfl HR.out Tryz.underlying162) rfl ⟨rfl,HBL.out⟩
end Go.Proofs.YtinallojhkaogaaGreatDoor.Rx
