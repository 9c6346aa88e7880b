/- The texts M6t M6u M6v. -/
import Derived.Test.YtinallojhkaogaaGreatDoorHk10
import Derived.Test.YtinallojhkaogaaGreatDoorHk22
set_option linter.unusedVariables false
set_option linter.unusedSimpArgs false
set_option maxHeartbeats 12800000
set_option maxRecDepth 100000
namespace Go.Proofs.YtinallojhkaogaaGreatDoor.Mt
open Go.RowKit Go.Shelf
open Rx
open Rx.Tr
open St (Wf word mem SV SV_eq)
def R3 (w:World) (gv:Value) (m k n:Nat) (F:Nat -> Nat -> Nat -> Bool):Prop :=
 ∃ b cap,gv = .slice (some ⟨b,0,none⟩) m cap /\ m <= cap /\ b < w.heap.size /\ ∀ x,x < k -> ∃ rv,w.cell? ⟨b,x,none⟩ = some rv /\ R2 w rv n n (F x)
theorem R3.below {w w':World} {gv:Value} {m k n:Nat} {F:Nat -> Nat -> Nat -> Bool} (h:R3 w gv m k n F) (hb:Below w.heap.size w w'):R3 w' gv m k n F:=by
 obtain ⟨b,cap,h1,h2,h3,h4⟩:=h;refine ⟨b,cap,h1,h2,Nat.lt_of_lt_of_le h3 hb.size,fun x hx=>?_⟩;obtain ⟨rv,h5,h6⟩:=h4 x hx;exact ⟨rv,(hb.cell h3).trans h5,h6.below hb⟩
theorem R3.row {w:World} {b m cap k n:Nat} {F:Nat -> Nat -> Nat -> Bool} (h:R3 w (.slice (some ⟨b,0,none⟩) m cap) m k n F) {x:Nat} (hx:x < k):∃ rv,w.cell? ⟨b,x,none⟩ = some rv /\ R2 w rv n n (F x):=by
 obtain ⟨b',cap',h1,h2,h3,h4⟩:=h;simp only [Value.slice.injEq,Option.some.injEq,Addr.mk.injEq,and_true,true_and] at h1;obtain ⟨rfl,rfl⟩:=h1;exact h4 x hx
theorem R3.at {w:World} {b m cap k n:Nat} {F:Nat -> Nat -> Nat -> Bool} (h:R3 w (.slice (some ⟨b,0,none⟩) m cap) m k n F) {x i j:Nat} (hx:x < k) (hi:i < n) (hj:j < n) :
  ∃ ra ca q,w.cell? ⟨b,x,none⟩ = some (.slice (some ⟨ra,0,none⟩) n ca) /\ w.cell? ⟨ra,i,none⟩ = some (SL q n) /\ w.cell? ⟨q,j,none⟩ = some (.bool (F x i j)):=by
 obtain ⟨rv,h1,ra,ca,rfl,h2,h3,h4⟩:=h.row hx;obtain ⟨q,h5,h6⟩:=h4 i hi;exact ⟨ra,ca,q,h1,h5,h6.cell hj⟩
theorem node_cellsR {w:World} {g:Nat} {nd:Nd} (h:w.heap[g]? = some (.cells (NC nd) 87 (0,0))):NCell w g 0 nd :=
 ⟨(Lib.cell_of_heap h 0).trans rfl,(Lib.cell_of_heap h 1).trans rfl,(Lib.cell_of_heap h 2).trans rfl,(Lib.cell_of_heap h 3).trans rfl,(Lib.cell_of_heap h 4).trans rfl,(Lib.cell_of_heap h 5).trans rfl,(Lib.cell_of_heap h 6).trans rfl,(Lib.cell_of_heap h 7).trans rfl,(Lib.cell_of_heap h 8).trans rfl,(Lib.cell_of_heap h 9).trans rfl⟩
def ToldOk:Prop:=∀ ws,Wf ws -> ∃ bc:Array Value,bc.size = 256 /\ (∀ b,b < 256 -> bc[b]? = some (.bool (mem ws b))) /\ ∀ w:World,Calls Tryz.prog 104 #[SV ws] w fun e w'=>e = .returned (.agg bc) /\ Below w.heap.size w w'
structure PW (w:World) (nb no at0:Nat) (nd:Nd) (gb M gc n:Nat) (F:Nat -> Nat -> Nat -> Bool):Prop where
 nc:NCell w nb (no + at0 * 10) nd
 g:R3 w (.slice (some ⟨gb,0,none⟩) M gc) M at0 n F
theorem PW.box {w:World} {nb no at0:Nat} {nd:Nd} {gb M gc n:Nat} {F:Nat -> Nat -> Nat -> Bool} (h:PW w nb no at0 nd gb M gc n F) :
  NCell (w.alloc (.cells (NC nd) 87)) w.heap.size 0 nd /\ R3 (w.alloc (.cells (NC nd) 87)) (.slice (some ⟨gb,0,none⟩) M gc) M at0 n F :=
 ⟨node_cellsR (heap_alloc_new _ _),h.g.below ((Below.refl _ _).alloc (Nat.le_refl _) _)⟩
theorem part_0 (w:World) (nb no L lc at0:Nat) (hat:at0 < L) (z:List Nat) (a b:Nat) (mn mx m:Int) (gb M gc n:Nat) (F:Nat -> Nat -> Nat -> Bool) (h:PW w nb no at0 ⟨0,z,(a:Nat),(b:Nat),mn,mx,m⟩ gb M gc n F) (hM:at0 < M) (T:List UInt8) (hn:n = T.length + 1) (i j:Nat) (hij:i <= j) (hj:j <= T.length) (hj2:j <= 100000) :
  Calls Tryz.prog 98 #[.slice (some ⟨nb,no,none⟩) L lc,.slice (some ⟨gb,0,none⟩) M gc,E (at0:Nat),S T,E (i:Nat),E (j:Nat)] w fun e w'=>e = .returned (.bool (decide (i = j))) /\ Below w.heap.size w w':=by
 obtain ⟨q0,q1,q2,q3,q4,q5,q6,q7,q8,q9⟩:=h.nc;obtain ⟨⟨x0,x1,x2,x3,x4,x5,x6,x7,x8,x9⟩,hg⟩:=h.box;(try dsimp only at q0 q1 q2 q3 q4 q5 q6 q7 q8 q9 x0 x1 x2 x3 x4 x5 x6 x7 x8 x9);simp only [Nat.zero_add] at x0 x1 x2 x3 x4 x5 x6 x7 x8 x9;have HB:=Hd ((Below.refl w.heap.size w).alloc (Nat.le_refl _) (Obj.cells (NC ⟨0,z,(a:Nat),(b:Nat),mn,mx,m⟩) 87));(have ha0:(0:Int) <= (at0:Int):=by omega);(have ha1:(at0:Int) < (L:Int):=by omega);(have hv:((i:Int) == (j:Int)) = decide (i = j):=by by_cases e:i = j <;> simp [e,Int.ofNat_inj]);clear h hg hn hij hat;go_enter Tryz.func98,Tryz.ntmps98;go_wp2;go_ret;exact ⟨rfl,HB.out⟩
theorem part_2 (w:World) (nb no L lc at0:Nat) (hat:at0 < L) (z:List Nat) (a b:Nat) (mn mx m:Int) (gb M gc n:Nat) (F:Nat -> Nat -> Nat -> Bool) (h:PW w nb no at0 ⟨2,z,(a:Nat),(b:Nat),mn,mx,m⟩ gb M gc n F) (hM:at0 < M) (T:List UInt8) (hn:n = T.length + 1) (i j:Nat) (hij:i <= j) (hj:j <= T.length) (hj2:j <= 100000) :
  Calls Tryz.prog 98 #[.slice (some ⟨nb,no,none⟩) L lc,.slice (some ⟨gb,0,none⟩) M gc,E (at0:Nat),S T,E (i:Nat),E (j:Nat)] w fun e w'=>e = .returned (.bool (decide (j = 0))) /\ Below w.heap.size w w':=by
 obtain ⟨q0,q1,q2,q3,q4,q5,q6,q7,q8,q9⟩:=h.nc;obtain ⟨⟨x0,x1,x2,x3,x4,x5,x6,x7,x8,x9⟩,hg⟩:=h.box;(try dsimp only at q0 q1 q2 q3 q4 q5 q6 q7 q8 q9 x0 x1 x2 x3 x4 x5 x6 x7 x8 x9);simp only [Nat.zero_add] at x0 x1 x2 x3 x4 x5 x6 x7 x8 x9;have HB:=Hd ((Below.refl w.heap.size w).alloc (Nat.le_refl _) (Obj.cells (NC ⟨2,z,(a:Nat),(b:Nat),mn,mx,m⟩) 87));(have ha0:(0:Int) <= (at0:Int):=by omega);(have ha1:(at0:Int) < (L:Int):=by omega);(have hv:((j:Int) == 0) = decide (j = 0):=by by_cases e:j = 0 <;> simp [e]);clear h hg hn hij hat;go_enter Tryz.func98,Tryz.ntmps98;go_wp2;go_ret;exact ⟨rfl,HB.out⟩
theorem part_3 (w:World) (nb no L lc at0:Nat) (hat:at0 < L) (z:List Nat) (a b:Nat) (mn mx m:Int) (gb M gc n:Nat) (F:Nat -> Nat -> Nat -> Bool) (h:PW w nb no at0 ⟨3,z,(a:Nat),(b:Nat),mn,mx,m⟩ gb M gc n F) (hM:at0 < M) (T:List UInt8) (hn:n = T.length + 1) (i j:Nat) (hij:i <= j) (hj:j <= T.length) (hj2:j <= 100000) :
  Calls Tryz.prog 98 #[.slice (some ⟨nb,no,none⟩) L lc,.slice (some ⟨gb,0,none⟩) M gc,E (at0:Nat),S T,E (i:Nat),E (j:Nat)] w fun e w'=>e = .returned (.bool (decide (i = T.length))) /\ Below w.heap.size w w':=by
 obtain ⟨q0,q1,q2,q3,q4,q5,q6,q7,q8,q9⟩:=h.nc;obtain ⟨⟨x0,x1,x2,x3,x4,x5,x6,x7,x8,x9⟩,hg⟩:=h.box;(try dsimp only at q0 q1 q2 q3 q4 q5 q6 q7 q8 q9 x0 x1 x2 x3 x4 x5 x6 x7 x8 x9);simp only [Nat.zero_add] at x0 x1 x2 x3 x4 x5 x6 x7 x8 x9;have HB:=Hd ((Below.refl w.heap.size w).alloc (Nat.le_refl _) (Obj.cells (NC ⟨3,z,(a:Nat),(b:Nat),mn,mx,m⟩) 87));(have ha0:(0:Int) <= (at0:Int):=by omega);(have ha1:(at0:Int) < (L:Int):=by omega);(have hsz:(ByteArray.mk T.toArray).size = T.length:=by simp [ByteArray.size]);(have hv:((i:Int) == (T.length:Int)) = decide (i = T.length):=by by_cases e:i = T.length <;> simp [e,Int.ofNat_inj]);clear h hg hn hij hat;go_enter Tryz.func98,Tryz.ntmps98;go_wp2;go_ret;exact ⟨rfl,HB.out⟩
theorem part_7 (w:World) (nb no L lc at0:Nat) (hat:at0 < L) (z:List Nat) (a b:Nat) (mn mx m:Int) (gb M gc n:Nat) (F:Nat -> Nat -> Nat -> Bool) (h:PW w nb no at0 ⟨7,z,(a:Nat),(b:Nat),mn,mx,m⟩ gb M gc n F) (hM:at0 < M) (T:List UInt8) (hn:n = T.length + 1) (i j:Nat) (hij:i <= j) (hj:j <= T.length) (hj2:j <= 100000) (hca:a < at0) :
  Calls Tryz.prog 98 #[.slice (some ⟨nb,no,none⟩) L lc,.slice (some ⟨gb,0,none⟩) M gc,E (at0:Nat),S T,E (i:Nat),E (j:Nat)] w fun e w'=>e = .returned (.bool (F a i j)) /\ Below w.heap.size w w':=by
 obtain ⟨q0,q1,q2,q3,q4,q5,q6,q7,q8,q9⟩:=h.nc;obtain ⟨⟨x0,x1,x2,x3,x4,x5,x6,x7,x8,x9⟩,hg⟩:=h.box;(try dsimp only at q0 q1 q2 q3 q4 q5 q6 q7 q8 q9 x0 x1 x2 x3 x4 x5 x6 x7 x8 x9);simp only [Nat.zero_add] at x0 x1 x2 x3 x4 x5 x6 x7 x8 x9;have HB:=Hd ((Below.refl w.heap.size w).alloc (Nat.le_refl _) (Obj.cells (NC ⟨7,z,(a:Nat),(b:Nat),mn,mx,m⟩) 87));(have ha0:(0:Int) <= (at0:Int):=by omega);(have ha1:(at0:Int) < (L:Int):=by omega);obtain ⟨ra,ca,q,y1,y2,y3⟩:=hg.at (x:=a) (i:=i) (j:=j) hca (by omega) (by omega);(have hc0:(0:Int) <= (a:Int):=by omega);(have hc1:(a:Int) < (M:Int):=by omega);(have hi0:(0:Int) <= (i:Int):=by omega);(have hi1:(i:Int) < (n:Int):=by omega);(have hj0:(0:Int) <= (j:Int):=by omega);(have hj1:(j:Int) < (n:Int):=by omega);clear h hg hn hij hat;go_enter Tryz.func98,Tryz.ntmps98;go_wp2;go_ret;exact ⟨rfl,HB.out⟩
theorem part_5 (w:World) (nb no L lc at0:Nat) (hat:at0 < L) (z:List Nat) (a b:Nat) (mn mx m:Int) (gb M gc n:Nat) (F:Nat -> Nat -> Nat -> Bool) (h:PW w nb no at0 ⟨5,z,(a:Nat),(b:Nat),mn,mx,m⟩ gb M gc n F) (hM:at0 < M) (T:List UInt8) (hn:n = T.length + 1) (i j:Nat) (hij:i <= j) (hj:j <= T.length) (hj2:j <= 100000) (hca:a < at0) (hcb:b < at0) :
  Calls Tryz.prog 98 #[.slice (some ⟨nb,no,none⟩) L lc,.slice (some ⟨gb,0,none⟩) M gc,E (at0:Nat),S T,E (i:Nat),E (j:Nat)] w fun e w'=>e = .returned (.bool (F a i j || F b i j)) /\ Below w.heap.size w w':=by
 obtain ⟨q0,q1,q2,q3,q4,q5,q6,q7,q8,q9⟩:=h.nc;obtain ⟨⟨x0,x1,x2,x3,x4,x5,x6,x7,x8,x9⟩,hg⟩:=h.box;(try dsimp only at q0 q1 q2 q3 q4 q5 q6 q7 q8 q9 x0 x1 x2 x3 x4 x5 x6 x7 x8 x9);simp only [Nat.zero_add] at x0 x1 x2 x3 x4 x5 x6 x7 x8 x9;have HB:=Hd ((Below.refl w.heap.size w).alloc (Nat.le_refl _) (Obj.cells (NC ⟨5,z,(a:Nat),(b:Nat),mn,mx,m⟩) 87));(have ha0:(0:Int) <= (at0:Int):=by omega);(have ha1:(at0:Int) < (L:Int):=by omega);obtain ⟨ra,ca,q,y1,y2,y3⟩:=hg.at (x:=a) (i:=i) (j:=j) hca (by omega) (by omega);obtain ⟨rb,cb,p,z1,z2,z3⟩:=hg.at (x:=b) (i:=i) (j:=j) hcb (by omega) (by omega);(have hc0:(0:Int) <= (a:Int):=by omega);(have hc1:(a:Int) < (M:Int):=by omega);(have hb0:(0:Int) <= (b:Int):=by omega);(have hb1:(b:Int) < (M:Int):=by omega);(have hi0:(0:Int) <= (i:Int):=by omega);(have hi1:(i:Int) < (n:Int):=by omega);(have hj0:(0:Int) <= (j:Int):=by omega);(have hj1:(j:Int) < (n:Int):=by omega);clear h hg hn hij hat;go_enter Tryz.func98,Tryz.ntmps98;cases hf:F a i j
 · rw [hf] at y3;go_wp2;go_ret;exact ⟨rfl,HB.out⟩
 · rw [hf] at y3;go_wp2;go_ret;exact ⟨rfl,HB.out⟩
theorem idx_told {bc:Array Value} {f:Nat -> Bool} (h0:bc.size = 256) (hb:∀ b,b < 256 -> bc[b]? = some (.bool (f b))) {a:Nat} (ha:a < 256) (w:World):(Instr.index 176 (.agg bc) (.int .u8 (a:Int))).run Tryz.prog w = .ok (.bool (f a)) w:=by
 have h1:=Tryz.isAgg4;have h2:=Tryz.sizeOf4;have h3:=hb a ha;(have h4:(0:Int) <= (a:Int) /\ (a:Int) < 256:=by omega);(have h5:(0:Int) <= (a:Int) /\ (a:Int) < ((256:Nat):Int):=by omega);(have h6:a < bc.size:=by rw [h0];exact ha);simp [Instr.index,Sem.run_bind,asIntOf,run_underlying Tryz.underlying176,h1,h2,h3,h4,h5,h6,part,Result.andThen,h0];intro q;omega
theorem part_1 (w:World) (nb no L lc at0:Nat) (hat:at0 < L) (z:List Nat) (a b:Nat) (mn mx m:Int) (gb M gc n:Nat) (F:Nat -> Nat -> Nat -> Bool) (h:PW w nb no at0 ⟨1,z,(a:Nat),(b:Nat),mn,mx,m⟩ gb M gc n F) (hM:at0 < M) (T:List UInt8) (hn:n = T.length + 1) (i j:Nat) (hij:i <= j) (hj:j <= T.length) (hj2:j <= 100000) (hTo:ToldOk) (hz:Wf z) :
  Calls Tryz.prog 98 #[.slice (some ⟨nb,no,none⟩) L lc,.slice (some ⟨gb,0,none⟩) M gc,E (at0:Nat),S T,E (i:Nat),E (j:Nat)] w fun e w'=>e = .returned (.bool (decide (j = i + 1) && hasAt z T i)) /\ Below w.heap.size w w':=by
 obtain ⟨q0,q1,q2,q3,q4,q5,q6,q7,q8,q9⟩:=h.nc;obtain ⟨⟨x0,x1,x2,x3,x4,x5,x6,x7,x8,x9⟩,hg⟩:=h.box;(try dsimp only at q0 q1 q2 q3 q4 q5 q6 q7 q8 q9 x0 x1 x2 x3 x4 x5 x6 x7 x8 x9);simp only [Nat.zero_add] at x0 x1 x2 x3 x4 x5 x6 x7 x8 x9;have HB:=Hd ((Below.refl w.heap.size w).alloc (Nat.le_refl _) (Obj.cells (NC ⟨1,z,(a:Nat),(b:Nat),mn,mx,m⟩) 87));(have ha0:(0:Int) <= (at0:Int):=by omega);(have ha1:(at0:Int) < (L:Int):=by omega);(have hw1:IntKind.i64.wrap ((i:Int) + 1) = (i:Int) + 1:=by rw [IntKind.wrap_i64];omega);(have hi0:(0:Int) <= (i:Int):=by omega);(have hsz:(ByteArray.mk T.toArray).size = T.length:=by simp [ByteArray.size]);have HX:=Hd (show NCell (w.alloc (.cells (NC ⟨1,z,(a:Nat),(b:Nat),mn,mx,m⟩) 87)) w.heap.size 0 ⟨1,z,(a:Nat),(b:Nat),mn,mx,m⟩ from h.box.1);clear h hg hn hij hat;go_enter Tryz.func98,Tryz.ntmps98;by_cases hji:j = i + 1
 ·
  (have hq:((j:Int) == (i:Int) + 1) = true:=by rw [hji];simp);(have hlt:i < T.length:=by omega);(have hlt':(i:Int) < (T.length:Int):=by omega);have hg:=(show (ByteArray.mk T.toArray)[i]'(by rw [hsz];exact hlt) = T[i] from rfl);have HHA:=Hd (show hasAt z T i = mem z (T[i]).toNat from by unfold hasAt;rw [List.getElem?_eq_getElem hlt]);generalize T[i] = by0 at *;obtain ⟨bc,hb1,hb2,hb3⟩:=hTo z hz;(have hix:=fun W=>idx_told hb1 hb2 (a:=by0.toNat) (UInt8.toNat_lt by0) W);have HTC:=Hd (fun W=>(by have h1:=hb3 W;rw [SV_eq hz] at h1;exact h1:Calls Tryz.prog 104 #[.agg #[U (word z 0),U (word z 1),U (word z 2),U (word z 3)]] W fun e w'=>e = .returned (.agg bc) /\ Below W.heap.size W w'));have HJI:=Hd hji;clear hji hb1 hb2 hb3 hTo hz;go_wp2;have HD:=Hd (HX.out.below (Below.refl _ _).drew);have HB2:=Hd (HB.out.trans ((Below.refl (w.alloc (.cells (NC ⟨1,z,(a:Nat),(b:Nat),mn,mx,m⟩) 87)).heap.size _).drew.mono HB.out.size));clear x0 x1 x2 x3 x4 x5 x6 x7 x8 x9 q0 q1 q2 q3 q4 q5 q6 q7 q8 q9 HX HB;(refine Tk.g (fun w'=>NCell w' w.heap.size 0 ⟨1,z,(a:Nat),(b:Nat),mn,mx,m⟩) (by exact HD.out) fun hH=>?_);generalize World.drew _ = W4 at HD HB2 hH ⊢;refine Tk.t 0 ?_;refine Tk.t 1 ?_;refine Tk.t 2 ?_;refine Tk.t 3 ?_;refine Tk.t 4 ?_;refine Tk.t 5 ?_;refine Tk.t 6 (hy:=by (intro wv hSw;(try dsimp only at hSw);obtain ⟨k0,k1,k2,k3,k4,k5,k6,k7,k8,k9⟩:=hSw;(try dsimp only at k0 k1 k2 k3 k4 k5 k6 k7 k8 k9);simp only [Nat.zero_add] at k0 k1 k2 k3 k4 k5 k6 k7 k8 k9;go_simp) <;> with_reducible rfl) ?_;refine Tk.t 8 ?_;refine Tk.t 9 ?_;refine Tk.t 10 ?_;refine Tk.o 7 (fun K hK=>?_);go_simp
  (go_at_call 104;refine (HTC.out _).mono ?_;rintro e w6 ⟨rfl,hbl⟩;have HD2:=Hd (HD.out.below hbl);have HB3:=Hd (HB2.out.trans (hbl.mono HB2.out.size));clear HD HB2)
  (refine hK.out _ _ (by exact HD2.out) fun hH=>Tk.w ?_);clear hK K;refine Tk.t 11 ?_;refine Tk.t 12 ?_;refine Tk.t 13 ?_;refine Tk.d ?_;clear hH;go_wp2;go_ret;exact ⟨by rw [HHA.out,decide_eq_true HJI.out];rfl,HB3.out⟩
 · (have hq:((j:Int) == (i:Int) + 1) = false:=by rw [beq_eq_false_iff_ne];omega);have HJI:=Hd hji;clear hji hTo hz;go_wp2;have HD:=Hd (HX.out.below (Below.refl _ _).drew);have HB2:=Hd (HB.out.trans ((Below.refl (w.alloc (.cells (NC ⟨1,z,(a:Nat),(b:Nat),mn,mx,m⟩) 87)).heap.size _).drew.mono HB.out.size));clear x0 x1 x2 x3 x4 x5 x6 x7 x8 x9 q0 q1 q2 q3 q4 q5 q6 q7 q8 q9 HX HB;(refine Tk.g (fun w'=>NCell w' w.heap.size 0 ⟨1,z,(a:Nat),(b:Nat),mn,mx,m⟩) (by exact HD.out) fun hH=>?_);generalize World.drew _ = W4 at HD HB2 hH ⊢;refine Tk.t 0 ?_;refine Tk.t 1 ?_;refine Tk.t 2 ?_;refine Tk.t 3 ?_;refine Tk.t 4 ?_;refine Tk.p 5 ?_;refine Tk.p 6 ?_;refine Tk.p 7 ?_;refine Tk.p 8 ?_;refine Tk.p 9 ?_;refine Tk.p 10 ?_;refine Tk.p 11 ?_;refine Tk.t 12 ?_;refine Tk.t 13 ?_;refine Tk.d ?_;clear hH;go_wp2;go_ret;exact ⟨by rw [decide_eq_false HJI.out];rfl,HB2.out⟩
theorem part_4 (w:World) (nb no L lc at0:Nat) (hat:at0 < L) (z:List Nat) (a b:Nat) (mn mx m:Int) (gb M gc n:Nat) (F:Nat -> Nat -> Nat -> Bool) (h:PW w nb no at0 ⟨4,z,(a:Nat),(b:Nat),mn,mx,m⟩ gb M gc n F) (hM:at0 < M) (T:List UInt8) (hn:n = T.length + 1) (i j:Nat) (hij:i <= j) (hj:j <= T.length) (hj2:j <= 100000) (hca:a < at0) (hcb:b < at0) (V:Bool) (hV:V = (List.range (j + 1)).any fun k=>decide (i <= k) && F a i k && F b k j) :
  Calls Tryz.prog 98 #[.slice (some ⟨nb,no,none⟩) L lc,.slice (some ⟨gb,0,none⟩) M gc,E (at0:Nat),S T,E (i:Nat),E (j:Nat)] w fun e w'=>e = .returned (.bool (V)) /\ Below w.heap.size w w':=by
 obtain ⟨q0,q1,q2,q3,q4,q5,q6,q7,q8,q9⟩:=h.nc;obtain ⟨⟨x0,x1,x2,x3,x4,x5,x6,x7,x8,x9⟩,hg⟩:=h.box;(try dsimp only at q0 q1 q2 q3 q4 q5 q6 q7 q8 q9 x0 x1 x2 x3 x4 x5 x6 x7 x8 x9);simp only [Nat.zero_add] at x0 x1 x2 x3 x4 x5 x6 x7 x8 x9;have HB:=Hd ((Below.refl w.heap.size w).alloc (Nat.le_refl _) (Obj.cells (NC ⟨4,z,(a:Nat),(b:Nat),mn,mx,m⟩) 87));(have ha0:(0:Int) <= (at0:Int):=by omega);(have ha1:(at0:Int) < (L:Int):=by omega);(have hc0:(0:Int) <= (a:Int):=by omega);(have hc1:(a:Int) < (M:Int):=by omega);(have hb0:(0:Int) <= (b:Int):=by omega);(have hb1:(b:Int) < (M:Int):=by omega);(have hi0:(0:Int) <= (i:Int):=by omega);(have hi1:(i:Int) < (n:Int):=by omega);(have hj0:(0:Int) <= (j:Int):=by omega);(have hj1:(j:Int) < (n:Int):=by omega);have HG:=Hd hg;have HJ:=Hd (An hij (An hj (An hj2 hn)));have HC:=Hd (An hca hcb);have HV:=Hd hV;clear hV;clear h hg hn hij hat;go_enter Tryz.func98,Tryz.ntmps98;clear hca hcb hj hj2;go_wp2;clear q0 q1 q2 q3 q4 q5 q6 q7 q8 q9;go_loopw [14] (fun kv wr=>∃ K:Nat,i <= K /\ K <= j + 1 /\ kv = .int .i64 (K:Nat) /\ wr = w.alloc (.cells (NC ⟨4,z,(a:Nat),(b:Nat),mn,mx,m⟩) 87) /\ Hid (∀ k,i <= k -> k < K -> (F a i k && F b k j) = false)) (fun kv _=>j + 1 - (intOf kv).toNat);(case atStart=>exact ⟨i,Nat.le_refl _,by have:=HJ.out.1;omega,rfl,rfl,Hd (fun k h1 h2=>by omega)⟩);case round =>
  obtain ⟨K,hK1,hK2,rfl,rfl,HN⟩:=hrel;by_cases hKj:K <= j
  ·
   (have hkj:(K:Int) <= (j:Int):=by omega);(have hK0:(0:Int) <= (K:Int):=by omega);(have hKn:(K:Int) < (n:Int):=by have:=HJ.out;omega);(have hwK:IntKind.i64.wrap ((K:Int) + 1) = (K:Int) + 1:=by rw [IntKind.wrap_i64];have:=HJ.out;omega);obtain ⟨ra,ca,q,y1,y2,y3⟩:=HG.out.at (x:=a) (i:=i) (j:=K) HC.out.1 (by have:=HJ.out;omega) (by have:=HJ.out;omega);obtain ⟨rb,cb,p,z1,z2,z3⟩:=HG.out.at (x:=b) (i:=K) (j:=j) HC.out.2 (by have:=HJ.out;omega) (by have:=HJ.out;omega);have HKK:=Hd (An hK1 hKj);clear hK1 hK2 hKj;cases hf:F a i K with
   | false =>
    rw [hf] at y3;have HF:=Hd hf;clear hf;go_wp2;go_roundw;case rel=>exact ⟨K + 1,by have:=HKK.out;omega,by have:=HKK.out;omega,by go_num,trivial,Hd (fun k h1 h2=>by
     by_cases e:k = K
     · rw [e,HF.out];rfl
     · exact HN.out k h1 (by omega))⟩
    case measure=>have:=HKK.out;simp [intOf];omega
   | true =>
    rw [hf] at y3;have HF:=Hd hf;clear hf;cases hf2:F b K j with
    | false =>
     rw [hf2] at z3;have HF2:=Hd hf2;clear hf2;go_wp2;go_roundw;case rel=>exact ⟨K + 1,by have:=HKK.out;omega,by have:=HKK.out;omega,by go_num,trivial,Hd (fun k h1 h2=>by
      by_cases e:k = K
      · rw [e,HF2.out,Bool.and_false]
      · exact HN.out k h1 (by omega))⟩
     case measure=>have:=HKK.out;simp [intOf];omega
    | true =>
     rw [hf2] at z3;have HF2:=Hd hf2;clear hf2;go_wp2;go_ret;refine ⟨congrArg Ending.returned (congrArg Value.bool ?_),HB.out⟩;rw [HV.out]
     symm
     rw [List.any_eq_true];exact ⟨K,List.mem_range.2 (by have:=HKK.out;omega),by rw [HF.out,HF2.out,decide_eq_true HKK.out.1];rfl⟩
  ·
   (obtain rfl:K = j + 1:=by omega);(have hkj:¬ ((j + 1:Nat):Int) <= (j:Int):=by omega);clear hK1 hK2 hKj;go_wp2;go_ret;refine ⟨congrArg Ending.returned (congrArg Value.bool ?_),HB.out⟩;rw [HV.out]
   symm
   rw [List.any_eq_false];intro k hk;have:=List.mem_range.1 hk;by_cases e:i <= k
   · have h5:=HN.out k e this;rw [decide_eq_true e,Bool.true_and,h5];decide
   · rw [decide_eq_false e];simp
def R2t (w:World) (B:Nat) (v:Value) (n:Nat) (F:Nat -> Nat -> Bool):Prop :=
 ∃ r cs,v = SL r n /\ r < B /\ w.heap[r]? = some (.cells cs 165 (0,0)) /\ ∀ i,i < n -> ∃ q,cs[i]? = some (SL q n) /\ q < B /\ RB w q n (F i)
theorem R2t.read {w:World} {B n:Nat} {v:Value} {F:Nat -> Nat -> Bool} (h:R2t w B v n F):R2 w v n n F:=by
 obtain ⟨r,cs,rfl,h1,h2,h3⟩:=h;refine ⟨r,n,rfl,Nat.le_refl _,lt_heap' h2,fun i hi=>?_⟩;obtain ⟨q,h4,_,h5⟩:=h3 i hi;exact ⟨q,by rw [Lib.cell_of_heap h2];exact h4,h5⟩
theorem R2t.keep {w w':World} {B B' n:Nat} {v:Value} {F:Nat -> Nat -> Bool} (h:R2t w B v n F) (hB:B <= B') (hk:∀ k cs t fr,k < B -> w.heap[k]? = some (.cells cs t fr) -> (t = 165 \/ t = 4) -> w'.heap[k]? = w.heap[k]?):R2t w' B' v n F:=by
 obtain ⟨r,cs,h0,h1,h2,h3⟩:=h;refine ⟨r,cs,h0,by omega,(hk r _ _ _ h1 h2 (Or.inl rfl)).trans h2,fun i hi=>?_⟩;obtain ⟨q,h4,h5,h6⟩:=h3 i hi;exact ⟨q,h4,by omega,(hk q _ _ _ h5 h6 (Or.inr rfl)).trans h6⟩
theorem tab_ne {w:World} {a b:Nat} {c c':Array Value} {t:TypeId} {fr fr':Nat × Nat} (h1:w.heap[a]? = some (.cells c 164 fr)) (h2:w.heap[b]? = some (.cells c' t fr')) (ht:t = 165 \/ t = 4):b ≠ a:=by
 rintro rfl;rw [h1] at h2;simp only [Option.some.injEq,Obj.cells.injEq] at h2;rcases ht with rfl | rfl
 · exact absurd h2.2.1 (by decide)
 · exact absurd h2.2.1 (by decide)
theorem own_ne {w:World} {B k:Nat} {v:Value} {xs:List Value} (h:w.ownsRow B 164 1 v k xs) {b:Nat} {c:Array Value} {t:TypeId} {fr:Nat × Nat} (h2:w.heap[b]? = some (.cells c t fr)) (ht:t = 165 \/ t = 4):v.ownBlock ≠ some b:=by
 rcases h.2 with ⟨rfl,_⟩ | ⟨g,cap,cur,rfl,_,hg,_⟩
 · intro q;cases q
 · intro q;simp only [Value.ownBlock,Option.some.injEq] at q;exact tab_ne hg h2 ht q.symm
structure GT (w0 wr:World) (v:Value) (k n:Nat) (F:Nat -> Nat -> Nat -> Bool):Prop where
 bel:Below w0.heap.size w0 wr
 own:∃ vs,wr.ownsRow w0.heap.size 164 1 v k vs /\ ∀ x,x < k -> ∃ rv,vs[x]? = some rv /\ R2t wr wr.heap.size rv n (F x)
theorem keep_below {w w':World} (hb:Below w.heap.size w w') {B:Nat} (hB:B <= w.heap.size):∀ k cs t fr,k < B -> w.heap[k]? = some (.cells cs t fr) -> (t = 165 \/ t = 4) -> w'.heap[k]? = w.heap[k]?:=fun k _ _ _ hk _ _=>hb.block k (by omega)
theorem GT.below {w0 wr w':World} {v:Value} {k n:Nat} {F:Nat -> Nat -> Nat -> Bool} (h:GT w0 wr v k n F) (hb:Below wr.heap.size wr w'):GT w0 w' v k n F:=by
 obtain ⟨vs,ho,hv⟩:=h.own;refine ⟨h.bel.trans (hb.mono h.bel.size),vs,own_below ho hb,fun x hx=>?_⟩;obtain ⟨rv,h1,h2⟩:=hv x hx;exact ⟨rv,h1,h2.keep hb.size (keep_below hb (Nat.le_refl _))⟩
theorem gt_start (w:World) (n:Nat) (F:Nat -> Nat -> Nat -> Bool):GT w (w.alloc (.cells #[] 164)) (.slice (some ⟨w.heap.size,0,none⟩) 0 0) 0 n F:=by
 have:=World.ownsRow_made (base:=w.heap.size) (e:=164) (size:=1) w #[] 0 (by omega) (by decide) rfl;exact ⟨(Below.refl _ _).alloc (Nat.le_refl _) _,[],this,fun x hx=>by omega⟩
def rowsC (r i n:Nat):Array Value:=(Array.range n).map fun k=>if k < i then SL (r + 1 + k) n else .slice none 0 0
theorem rowsC_size (r i n:Nat):(rowsC r i n).size = n:=by simp [rowsC]
theorem rowsC_at {r i n k:Nat} (hk:k < n):(rowsC r i n)[k]? = some (if k < i then SL (r + 1 + k) n else .slice none 0 0):=by simp [rowsC,hk]
theorem rowsC_nil (r n:Nat):rowsC r 0 n = nilRow n:=by
 unfold rowsC nilRow;apply Array.map_congr_left;intro k _;rw [if_neg (by omega)]
theorem rowsC_set {r i n:Nat} (hi:i < n):(rowsC r i n).setIfInBounds i (SL (r + 1 + i) n) = rowsC r (i + 1) n:=by
 apply Array.ext_getElem?;intro k;by_cases hk:k < n
 ·
  rw [rowsC_at hk];by_cases e:i = k
  · subst e;rw [Array.getElem?_setIfInBounds_self_of_lt (by rw [rowsC_size];exact hk),if_pos (by omega)]
  ·
   rw [Array.getElem?_setIfInBounds_ne e,rowsC_at hk];by_cases e2:k < i
   · rw [if_pos e2,if_pos (by omega)]
   · rw [if_neg e2,if_neg (by omega)]
 · rw [Array.getElem?_eq_none (by rw [Array.size_setIfInBounds,rowsC_size];omega),Array.getElem?_eq_none (by rw [rowsC_size];omega)]
structure RW2 (w1 wr:World) (i n:Nat):Prop where
 bel:Below w1.heap.size w1 wr
 size:wr.heap.size = w1.heap.size + 1 + i
 row:wr.heap[w1.heap.size]? = some (.cells (rowsC w1.heap.size i n) 165 (0,0))
 rb:∀ j,j < i -> RB wr (w1.heap.size + 1 + j) n (fun _=>false)
theorem rw2_start (w:World) (n:Nat):RW2 w (w.alloc (.cells (nilRow n) 165)) 0 n :=
 ⟨(Below.refl _ _).alloc (Nat.le_refl _) _,by simp,by rw [rowsC_nil];exact heap_alloc_new _ _,fun j hj=>by omega⟩
theorem RW2.step {w1 wr:World} {i n:Nat} (h:RW2 w1 wr i n) (hi:i < n):RW2 w1 ((wr.alloc (.cells (bcn n fun _=>false) 4)).setCell ⟨w1.heap.size,i,none⟩ (SL wr.heap.size n)) (i + 1) n:=by
 have hs:=h.size;have ha:(wr.alloc (.cells (bcn n fun _=>false) 4)).heap[w1.heap.size]? = some (.cells (rowsC w1.heap.size i n) 165 (0,0)):=(Below.heap_alloc _ _ _ (by omega)).trans h.row;have hb:=Go.Joins.block_setCell ha (i:=i) (SL wr.heap.size n);rw [h.size,rowsC_set hi] at hb;refine ⟨(h.bel.alloc h.bel.size _).setCell (Nat.le_refl _) _,by simp [h.size];omega,by rw [h.size];exact hb,fun j hj=>?_⟩;refine (Below.heap_setCell _ ⟨w1.heap.size,i,none⟩ _ (w1.heap.size + 1 + j) (by show w1.heap.size + 1 + j ≠ w1.heap.size;omega)).trans ?_;by_cases e:j = i
 · subst e;rw [<- h.size];exact heap_alloc_new _ _
 · exact (Below.heap_alloc _ _ _ (by omega)).trans (h.rb j (by omega))
structure CT (w0 wr:World) (v:Value) (k n r:Nat) (F:Nat -> Nat -> Nat -> Bool) (G:Nat -> Nat -> Bool):Prop where
 bel:Below w0.heap.size w0 wr
 r0:w0.heap.size <= r
 rs:r + n < wr.heap.size
 own:∃ vs,vs.length = k /\ wr.ownsRow w0.heap.size 164 1 v (k + 1) (vs ++ [SL r n]) /\ ∀ x,x < k -> ∃ rv,vs[x]? = some rv /\ R2t wr r rv n (F x)
 row:wr.heap[r]? = some (.cells (rowsC r n n) 165 (0,0))
 rb:∀ i,i < n -> RB wr (r + 1 + i) n (G i)
section
variable {w0 wr w':World} {v:Value} {k n r:Nat} {F:Nat -> Nat -> Nat -> Bool} {G G':Nat -> Nat -> Bool}
theorem CT.below (h:CT w0 wr v k n r F G) (hb:Below wr.heap.size wr w'):CT w0 w' v k n r F G:=by
 obtain ⟨vs,hl,ho,hv⟩:=h.own;have hs:=h.rs;refine ⟨h.bel.trans (hb.mono h.bel.size),h.r0,Nat.lt_of_lt_of_le h.rs hb.size,⟨vs,hl,own_below ho hb,fun x hx=>?_⟩,(hb.block r (by omega)).trans h.row,fun i hi=>(hb.block _ (by omega)).trans (h.rb i hi)⟩;obtain ⟨rv,h1,h2⟩:=hv x hx;exact ⟨rv,h1,h2.keep (Nat.le_refl _) (keep_below hb (by omega))⟩
theorem CT.congr (h:CT w0 wr v k n r F G) (hG:∀ i x,i < n -> x < n -> G' i x = G i x):CT w0 wr v k n r F G' :=
 ⟨h.bel,h.r0,h.rs,h.own,h.row,fun i hi=>(h.rb i hi).congr fun x hx=>hG i x hi hx⟩
theorem CT.put (h:CT w0 wr v k n r F G) {i x:Nat} {b:Bool} (hi:i < n) (hG:∀ i' x',i' < n -> x' < n -> G' i' x' = if i' = i /\ x' = x then b else G i' x'):CT w0 (wr.setCell ⟨r + 1 + i,x,none⟩ (.bool b)) v k n r F G':=by
 obtain ⟨vs,hl,ho,hv⟩:=h.own;have hs:=h.rs;have hr0:=h.r0;(have hk:∀ j,j ≠ r + 1 + i -> (wr.setCell ⟨r + 1 + i,x,none⟩ (.bool b)).heap[j]? = wr.heap[j]?:=fun j hj=>Below.heap_setCell wr ⟨r + 1 + i,x,none⟩ _ j hj);refine ⟨h.bel.setCell (by show w0.heap.size <= r + 1 + i;omega) _,h.r0,by simpa using h.rs,⟨vs,hl,ownsRow_setCell_other ho (own_ne ho (h.rb i hi) (Or.inr rfl)) _,fun x hx=>?_⟩,(hk r (by omega)).trans h.row,fun i' hi'=>?_⟩
 · obtain ⟨rv,h1,h2⟩:=hv x hx;exact ⟨rv,h1,h2.keep (Nat.le_refl _) fun j _ _ _ hj _ _=>hk j (by omega)⟩
 ·
  by_cases e:i' = i
  ·
   subst e;exact (h.rb i' hi').put fun y hy=>by
    rw [hG i' y hi' hy];by_cases e2:y = x
    · rw [if_pos ⟨rfl,e2⟩,if_pos e2]
    · rw [if_neg (by rintro ⟨_,q⟩;exact e2 q),if_neg e2]
  · exact ((h.rb i' hi').keep (hk _ (by omega))).congr fun y hy=>by rw [hG i' y hi' hy,if_neg (by rintro ⟨q,_⟩;exact e q)]
theorem CT.form (h:CT w0 wr v k n r F G):∃ gb gc,v = .slice (some ⟨gb,0,none⟩) (k + 1) gc /\ k + 1 <= gc:=by
 obtain ⟨vs,hl,ho,hv⟩:=h.own;rcases own_forms ho with ⟨_,q⟩ | ⟨g,cap,e,hc⟩
 · omega
 · exact ⟨g,cap,e,hc⟩
theorem CT.cells {gb gc:Nat} (h:CT w0 wr (.slice (some ⟨gb,0,none⟩) (k + 1) gc) k n r F G) {i x:Nat} (hi:i < n) (hx:x < n) :
  wr.cell? ⟨gb,k,none⟩ = some (SL r n) /\ wr.cell? ⟨r,i,none⟩ = some (SL (r + 1 + i) n) /\ wr.cell? ⟨r + 1 + i,x,none⟩ = some (.bool (G i x)) /\ wr.frozen? ⟨r + 1 + i,x,none⟩ = false:=by
 obtain ⟨vs,hl,ho,hv⟩:=h.own;refine ⟨?_,?_,(h.rb i hi).cell hx,(h.rb i hi).fz x⟩
 · have:=own_cell' (m:=k) ho (by simp [hl]);rw [this,List.getElem_append_right (by omega)];simp [hl]
 · rw [Lib.cell_of_heap h.row,rowsC_at hi,if_pos hi]
theorem CT.r3 {gb gc:Nat} (h:CT w0 wr (.slice (some ⟨gb,0,none⟩) (k + 1) gc) k n r F G) (hc:k + 1 <= gc):R3 wr (.slice (some ⟨gb,0,none⟩) (k + 1) gc) (k + 1) k n F:=by
 obtain ⟨vs,hl,ho,hv⟩:=h.own;refine ⟨gb,gc,rfl,hc,own_lt ho,fun x hx=>?_⟩;obtain ⟨rv,h1,h2⟩:=hv x hx;refine ⟨rv,?_,h2.read⟩;have:=own_cell' (m:=x) ho (by simp [hl];omega);rw [this,List.getElem_append_left (by omega)];rw [List.getElem?_eq_getElem (by omega)] at h1;exact h1
theorem CT.done (h:CT w0 wr v k n r F G) (hG:∀ i x,i < n -> x < n -> G i x = F k i x):GT w0 wr v (k + 1) n F:=by
 obtain ⟨vs,hl,ho,hv⟩:=h.own;have hs:=h.rs;refine ⟨h.bel,vs ++ [SL r n],ho,fun x hx=>?_⟩;by_cases e:x = k
 · subst e;refine ⟨SL r n,by rw [List.getElem?_append_right (by omega),hl];simp,r,_,rfl,by omega,h.row,fun i hi=>?_⟩;exact ⟨r + 1 + i,by rw [rowsC_at hi,if_pos hi],by omega,(h.rb i hi).congr fun x hx=>(hG i x hi hx).symm⟩
 · obtain ⟨rv,h1,h2⟩:=hv x (by omega);exact ⟨rv,by rw [List.getElem?_append_left (by omega)];exact h1,h2.keep (by omega) fun _ _ _ _ _ _ _=>rfl⟩
theorem ct_start {wa:World} {v':Value} {tmp:Obj} {vs:List Value} (hG:GT w0 wr v k n F) (ho:wr.ownsRow w0.heap.size 164 1 v k vs) (hv:∀ x,x < k -> ∃ rv,vs[x]? = some rv /\ R2t wr wr.heap.size rv n (F x)) (hR:RW2 wr wa n n)
  (hown:w'.ownsRow w0.heap.size 164 1 v' (k + 1) (vs ++ [SL wr.heap.size n])) (hgrow:(wa.alloc tmp).grownBy w' v.ownBlock):CT w0 w' v' k n wr.heap.size F (fun _ _=>false):=by
 have hb:Below wr.heap.size wr (wa.alloc tmp):=hR.bel.alloc hR.bel.size _;have hs:=hR.size;(have hsz:(wa.alloc tmp).heap.size = wa.heap.size + 1:=by simp);have hlt:=ho.lt;have hkeep:∀ j,wr.heap.size <= j -> j < wa.heap.size -> w'.heap[j]? = wa.heap[j]?:=fun j h1 h2 =>
  (hgrow.block j (by omega) (by intro q;have:=hlt j q.symm;omega)).trans (Below.heap_alloc _ _ _ h2)
 refine ⟨((hG.bel.trans (hb.mono hG.bel.size))).grown hgrow (by have:=hG.bel.size;omega) (fun j hj=>(hlt j hj).1),hG.bel.size,by have:=hgrow.size;omega,⟨vs,by have:=ho.1;omega,hown,fun x hx=>?_⟩,(hkeep _ (Nat.le_refl _) (by omega)).trans hR.row,fun i hi=>(hkeep _ (by omega) (by omega)).trans (hR.rb i hi)⟩;obtain ⟨rv,h1,h2⟩:=hv x hx;refine ⟨rv,h1,h2.keep (Nat.le_refl _) fun j cs t fr hj hc ht=>?_⟩;exact (hgrow.block j (by omega) (fun q=>own_ne ho hc ht q.symm)).trans (hb.block j hj)
theorem GT.r3 (h:GT w0 wr v k n F) (hk:0 < k):R3 wr v k k n F:=by
 obtain ⟨vs,ho,hv⟩:=h.own;rcases own_forms ho with ⟨_,q⟩ | ⟨g,cap,rfl,hc⟩
 · omega
 refine ⟨g,cap,rfl,hc,own_lt ho,fun x hx=>?_⟩;obtain ⟨rv,h1,h2⟩:=hv x hx;refine ⟨rv,?_,h2.read⟩;have hl:=ho.1;have:=own_cell' (m:=x) ho (by omega);rw [this];rw [List.getElem?_eq_getElem (by omega)] at h1;exact h1
end
theorem infoT:(Tryz.prog.info? 164).map (fun i=>(i.zero,i.size,i.bytes)) = some (some (.slice none 0 0),1,24):=by kernel_rfl
theorem one_slice (g n:Nat):∀ u ∈ [SL g n],u.oneCell' = true:=by simp [Value.oneCell']
def PartOk (lv:Value) (l:List Nd) (T:List UInt8) (F:Nat -> Nat -> Nat -> Bool) (k:Nat):Prop:=∀ (W:World) (gb gc i j:Nat),i <= j -> j <= T.length -> Ns W lv l -> R3 W (.slice (some ⟨gb,0,none⟩) (k + 1) gc) (k + 1) k (T.length + 1) F ->
 Calls Tryz.prog 98 #[lv,.slice (some ⟨gb,0,none⟩) (k + 1) gc,E (k:Nat),S T,E (i:Nat),E (j:Nat)] W fun e w'=>e = .returned (.bool (F k i j)) /\ Below W.heap.size W w'
def NodeOk (lv:Value) (l:List Nd) (T:List UInt8) (F:Nat -> Nat -> Nat -> Bool) (k:Nat) (nd:Nd):Prop :=
 (nd.k ≠ 6 /\ PartOk lv l T F k) \/ (nd.k = 6 /\ ∃ a,a < k /\ nd.a = (a:Nat) /\ ∀ i j,i <= j -> j <= T.length -> F k i j = stF (F a) nd.mn nd.mx j 0 i)
theorem tables_any (ao:Option Addr) (c:Nat) (l:List Nd) (T:List UInt8) (hT:T.length <= 100) (hl:l.length <= 1000) (F:Nat -> Nat -> Nat -> Bool) (w:World) (hN:Ns w (.slice ao l.length c) l)
  (hRf:∀ W:World,Ns W (.slice ao l.length c) l -> Calls Tryz.prog 96 #[.slice ao l.length c] W fun e w'=>e = .returned (.bool false) /\ Below W.heap.size W w')
  (hF:∀ k i j,j < i -> F k i j = false)
  (hK:∀ (k:Nat) (h:k < l.length),NodeOk (.slice ao l.length c) l T F k l[k]) :
  Calls Tryz.prog 72 #[.slice ao l.length c,S T] w fun e w'=>∃ v,e = .returned v /\ GT w w' v l.length (T.length + 1) F:=by
 obtain ⟨i0,hi,hz0,hz1,hz2⟩:=info_parts infoT;have HNS:=Hd hN;have HRF:=Hd hRf;have HK:=Hd hK;have HFF:=Hd hF;(have hsz:(ByteArray.mk T.toArray).size = T.length:=by simp [ByteArray.size]);obtain ⟨N,hNN⟩:∃ N,N = T.length:=⟨_,rfl⟩;rw [<- hNN] at hT hsz;have hmk1:∀ W:World,(Instr.makeSlice 165 (.int .i64 ((N:Int) + 1)) (.int .i64 ((N:Int) + 1))).run Tryz.prog W = .ok (SL W.heap.size (N + 1)) (W.alloc (.cells (bcn (N + 1) fun _=>false) 4)):=fun W=>by
  have:=make_row (N + 1) (by omega) W
  rwa [show ((N + 1:Nat):Int) = (N:Int) + 1 from by omega] at this
 have hmk2:∀ W:World,(Instr.makeSlice 164 (.int .i64 ((N:Int) + 1)) (.int .i64 ((N:Int) + 1))).run Tryz.prog W = .ok (SL W.heap.size (N + 1)) (W.alloc (.cells (nilRow (N + 1)) 165)):=fun W=>by
  have:=make_rows (N + 1) (by omega) W
  rwa [show ((N + 1:Nat):Int) = (N:Int) + 1 from by omega] at this
 (have hwN:IntKind.i64.wrap ((N:Int) + 1) = (N:Int) + 1:=by rw [IntKind.wrap_i64];omega);have HTN:=Hd hNN;have HBD:=Hd (An hT hl);have HO0:=Hd (fun W:World=>gt_start W (N + 1) F);clear hN hRf hF hK hNN hT hl;go_enter Tryz.func72,Tryz.ntmps72;go_wp2;go_loopw [5,6] (fun v av wr=>∃ k:Nat,k <= l.length /\ av = .int .i64 (k:Nat) /\ Hid (GT w wr v k (N + 1) F)) (fun _ av _=>l.length - (intOf av).toNat);(case atStart=>exact ⟨0,Nat.zero_le _,rfl,Hd (HO0.out w)⟩);case round =>
  clear HO0;obtain ⟨k,hk,rfl,HG⟩:=hrel;by_cases hlt:k < l.length
  ·
   (have hlt':((k:Nat):Int) < ((l.length:Nat):Int):=by omega);have HLT:=Hd hlt;have HND:=Hd (HK.out k hlt);have HNC:=Hd (fun (W:World) (hb:Below w.heap.size w W)=>(HNS.out.below hb).at hlt);generalize l[k] = nd at HND HNC;clear hlt hk;(have hwk:IntKind.i64.wrap ((k:Int) + 1) = (k:Int) + 1:=by rw [IntKind.wrap_i64];have:=HLT.out;have:=HBD.out;omega);go_wp2_with (go_at_call 96;refine (HRF.out _ (HNS.out.below HG.out.bel)).mono ?_;rintro e w2 ⟨rfl,hb⟩;have HG2:=Hd (HG.out.below hb);clear hb HG);have HR0:=Hd (rw2_start w2 (N + 1));go_loopw [8] (fun iv wr=>∃ I:Nat,I <= N + 1 /\ iv = .int .i64 (I:Nat) /\ Hid (RW2 w2 wr I (N + 1))) (fun iv _=>N + 1 - (intOf iv).toNat);(case atStart=>exact ⟨0,Nat.zero_le _,rfl,HR0⟩);case round =>
    clear HR0;obtain ⟨I,hI,rfl,HR⟩:=hrel;by_cases hIN:I <= N
    · (have hIN':(I:Int) <= (N:Int):=by omega);(have hI0:(0:Int) <= (I:Int):=by omega);(have hI1:(I:Int) < (N:Int) + 1:=by omega);(have hwI:IntKind.i64.wrap ((I:Int) + 1) = (I:Int) + 1:=by rw [IntKind.wrap_i64];have:=HBD.out;omega);have ha:(wr.alloc (.cells (bcn (N + 1) fun _=>false) 4)).heap[w2.heap.size]? = some (.cells (rowsC w2.heap.size I (N + 1)) 165 (0,0)):=(Below.heap_alloc _ _ _ (by have:=HR.out.size;omega)).trans HR.out.row;(have hcc:(wr.alloc (.cells (bcn (N + 1) fun _=>false) 4)).cell? ⟨w2.heap.size,I,none⟩ = some (.slice none 0 0):=by rw [Lib.cell_of_heap ha,rowsC_at (by omega),if_neg (by omega)]);(have hff:(wr.alloc (.cells (bcn (N + 1) fun _=>false) 4)).frozen? ⟨w2.heap.size,I,none⟩ = false:=by simp [World.frozen?,ha]);have HR2:=HR.out.step (i:=I) (by omega);have HIN:=Hd hIN;clear ha hI hIN HR;go_wp2;generalize World.setCell _ _ _ = W2 at HR2 ⊢;have HR3:=Hd HR2;clear HR2;go_roundw;(case rel=>exact ⟨I + 1,by have:=HIN.out;omega,by go_num,HR3⟩);case measure=>have:=HIN.out;simp [intOf];omega
    ·
     (obtain rfl:I = N + 1:=by omega);(have hIN':¬ ((N + 1:Nat):Int) <= (N:Int):=by omega);clear hI hIN;obtain ⟨vs,hov,hvs⟩:=HG2.out.own;have HV:=Hd hvs;have HO:=Hd hov;have HSZ:=Hd (An HG2.out.bel.size HR.out.size);have HO3:=Hd (own_below (own_below hov HR.out.bel) ((Below.refl wr.heap.size wr).alloc (Nat.le_refl _) (.cells #[SL w2.heap.size (N + 1)] 164)));clear hov hvs;go_wp2_with (at_builtin;go_loud (refine wpList_append_own _ rfl _ _ 81 rfl w.heap.size 164 i0 _ 1 24 Tryz.underlying81 hi hz0 hz1 hz2 rfl (by decide) _ _ _ rfl HO3.out ⟨_,0,none⟩ 1 1 [SL w2.heap.size (N + 1)] rfl rfl (one_cell (heap_alloc_new _ _)) (one_slice _ _) (by unfold maxLen;have:=HLT.out;have:=HBD.out;omega) (by have:=HLT.out;have:=HBD.out;omega) (by have:=HSZ.out;simp;omega) ?_));rintro v' w4 hown hgrow -;have HC0:=Hd (ct_start HG2.out HO.out HV.out HR.out hown hgrow);clear hown hgrow HSZ HO HV HO3 HG2 HR;obtain ⟨gb,gc,rfl,hgc⟩:=HC0.out.form;have HGC:=Hd hgc;generalize w2.heap.size = r at HC0 ⊢;clear hgc;go_wp2;go_loopw [9] (fun jv wr=>∃ J:Nat,J <= N + 1 /\ jv = .int .i64 (J:Nat) /\ Hid (CT w wr (.slice (some ⟨gb,0,none⟩) (k + 1) gc) k (N + 1) r F (fun i x=>decide (x < J) && F k i x))) (fun jv _=>N + 1 - (intOf jv).toNat);(case atStart=>exact ⟨0,Nat.zero_le _,rfl,Hd (HC0.out.congr fun i x _ _=>by rw [decide_eq_false (by omega)];rfl)⟩);case round =>
      clear HC0;obtain ⟨J,hJ,rfl,HC⟩:=hrel;by_cases hJN:J <= N
      ·
       (have hJN':(J:Int) <= (N:Int):=by omega);(have hJ0:(0:Int) <= (J:Int):=by omega);(have hJ1:(J:Int) < (N:Int) + 1:=by omega);(have hwJ:IntKind.i64.wrap ((J:Int) + 1) = (J:Int) + 1:=by rw [IntKind.wrap_i64];have:=HBD.out;omega);have HJN:=Hd hJN;(have hk0:(0:Int) <= (k:Int):=by omega);(have hk1:(k:Int) < (k:Int) + 1:=by omega);clear hJ hJN;have HC1:=Hd (HC.out.below ((Below.refl wr.heap.size wr).alloc (Nat.le_refl _) (.cells #[] 165)));clear HC;obtain ⟨nb,no,rfl,q0,q1,q2,q3,q4,q5,q6,q7,q8,q9⟩:=HNC.out _ HC1.out.bel;rcases HND.out with ⟨hn6,hpart⟩ | ⟨hn6,a,hak,hna,hst⟩
       ·
        (have hne:(nd.k == 6) = false:=by rw [beq_eq_false_iff_ne];exact hn6);have HPA:=Hd hpart;clear hn6 hpart;go_wp2;clear q0 q1 q2 q3 q4 q5 q6 q7 q8 q9;generalize World.alloc _ _ = W5 at HC1 ⊢;go_loopw [11] (fun iv wr=>∃ I:Nat,I <= J + 1 /\ iv = .int .i64 (I:Nat) /\ Hid (CT w wr (.slice (some ⟨gb,0,none⟩) (k + 1) gc) k (N + 1) r F (fun i x=>(decide (x < J) || (decide (x = J) && decide (i < I))) && F k i x))) (fun iv _=>J + 1 - (intOf iv).toNat);(case atStart=>exact ⟨0,Nat.zero_le _,rfl,Hd (HC1.out.congr fun i x _ _=>by rw [decide_eq_false (by omega:¬ i < 0),Bool.and_false,Bool.or_false])⟩);case round =>
         clear HC1;obtain ⟨I,hI,rfl,HC⟩:=hrel;by_cases hIJ:I <= J
         ·
          (have hIJ':(I:Int) <= (J:Int):=by omega);(have hI0:(0:Int) <= (I:Int):=by omega);(have hI1:(I:Int) < (N:Int) + 1:=by have:=HJN.out;omega);(have hwI:IntKind.i64.wrap ((I:Int) + 1) = (I:Int) + 1:=by rw [IntKind.wrap_i64];have:=HBD.out;have:=HJN.out;omega);have HIJ:=Hd hIJ;clear hI hIJ;obtain ⟨nb',no',hq,q0,q1,q2,q3,q4,q5,q6,q7,q8,q9⟩:=HNC.out _ HC.out.bel;(obtain ⟨rfl,rfl⟩:nb = nb' /\ no = no':=by simpa using hq);clear hq;go_wp2;clear q0 q1 q2 q3 q4 q5 q6 q7 q8 q9;have HD:=Hd (HC.out.below (Below.refl _ _).drew);clear HC;(refine Tk.g (fun w'=>w'.cell? ⟨gb,k,none⟩ = some (SL r (N + 1)) /\ w'.cell? ⟨r,I,none⟩ = some (SL (r + 1 + I) (N + 1))) (by exact ⟨(HD.out.cells (i:=I) (x:=J) (by have:=HJN.out;have:=HIJ.out;omega) (by have:=HJN.out;omega)).1,(HD.out.cells (i:=I) (x:=J) (by have:=HJN.out;have:=HIJ.out;omega) (by have:=HJN.out;omega)).2.1⟩) fun hH=>?_);generalize World.drew _ = W6 at HD hH ⊢;refine Tk.t 0 ?_;refine Tk.t 1 ?_;refine Tk.t 2 ?_;refine Tk.t 3 ?_;refine Tk.t 4 ?_;refine Tk.t 5 ?_;refine Tk.t 6 ?_;refine Tk.t 7 ?_;refine Tk.t 8 ?_;refine Tk.t 9 ?_;refine Tk.t 10 ?_;refine Tk.t 11 ?_;refine Tk.t 12 ?_;refine Tk.t 13 ?_;refine Tk.o 14 (fun K hK=>?_);have hpa:=HPA.out W6 gb gc I J HIJ.out (by have:=HJN.out;have:=HTN.out;omega) (HNS.out.below HD.out.bel) (by rw [<- HTN.out];exact HD.out.r3 HGC.out);go_simp
          (go_at_call 98;refine hpa.mono ?_;clear hpa;rintro e w7 ⟨rfl,hbl⟩;have HD2:=Hd (HD.out.below hbl);clear HD hbl)
          (refine hK.out _ _ (by exact ⟨(HD2.out.cells (i:=I) (x:=J) (by have:=HJN.out;have:=HIJ.out;omega) (by have:=HJN.out;omega)).1,(HD2.out.cells (i:=I) (x:=J) (by have:=HJN.out;have:=HIJ.out;omega) (by have:=HJN.out;omega)).2.1⟩) fun hH=>Tk.w ?_);clear hK K;refine Tk.t 15 ?_;obtain ⟨z0,z1,z2,z3⟩:=HD2.out.cells (i:=I) (x:=J) (by have:=HJN.out;have:=HIJ.out;omega) (by have:=HJN.out;omega);have HD3:=Hd (HD2.out.put (i:=I) (x:=J) (b:=F k I J) (G':=fun i x=>(decide (x < J) || (decide (x = J) && decide (i < I + 1))) && F k i x) (by have:=HJN.out;have:=HIJ.out;omega) (fun i' x' _ _=>by
           by_cases e:i' = I /\ x' = J
           · rw [if_pos e,e.1,e.2,decide_eq_true (rfl:J = J),decide_eq_true (by omega:I < I + 1)];simp
           ·
            rw [if_neg e];by_cases e2:x' = J
            · (have:i' ≠ I:=fun q=>e ⟨q,e2⟩);(have:decide (i' < I + 1) = decide (i' < I):=by rw [decide_eq_decide];omega);rw [this]
            · rw [decide_eq_false e2];rfl))
          clear HD2;refine Tk.o 16 (fun K hK=>?_);go_simp;(refine hK.out _ _ (by exact ⟨(HD3.out.cells (i:=I) (x:=J) (by have:=HJN.out;have:=HIJ.out;omega) (by have:=HJN.out;omega)).1,(HD3.out.cells (i:=I) (x:=J) (by have:=HJN.out;have:=HIJ.out;omega) (by have:=HJN.out;omega)).2.1⟩) fun hH=>Tk.w ?_);clear hK K z0 z1 z2 z3;generalize World.setCell _ _ _ = W8 at HD3 hH ⊢;refine Tk.d ?_;clear hH;go_wp2;go_roundw;(case rel=>exact ⟨I + 1,by have:=HIJ.out;omega,by go_num,HD3⟩);case measure=>have:=HIJ.out;simp [intOf];omega
         ·
          (obtain rfl:I = J + 1:=by omega);(have hIJ':¬ ((J + 1:Nat):Int) <= (J:Int):=by omega);have HE:=Hd (HC.out.congr (G':=fun i x=>decide (x < J + 1) && F k i x) (fun i x _ _=>by
           by_cases e:x = J
           ·
            subst e;by_cases e2:i < x + 1
            · rw [decide_eq_true e2,decide_eq_true (by omega:x < x + 1)];simp
            · rw [HFF.out k i x (by omega),Bool.and_false,Bool.and_false]
           · (have:decide (x < J + 1) = decide (x < J):=by rw [decide_eq_decide];omega);rw [this,decide_eq_false e];simp))
          clear hI hIJ HC;go_wp2;go_roundw;(case rel=>exact ⟨J + 1,by have:=HJN.out;omega,by go_num,HE⟩);case measure=>have:=HJN.out;simp [intOf];omega
       ·
        (have hne:(nd.k == 6) = true:=by rw [beq_iff_eq];exact hn6);obtain ⟨nk,ns,na,nbb,nmn,nmx,nn⟩:=nd;dsimp only at hne hn6 hna hst q0 q1 q2 q3 q4 q5 q6 q7 q8 q9;subst hna;have HST:=Hd hst;have HAK:=Hd hak;(have ha0:(0:Int) <= (a:Int):=by omega);(have ha1:(a:Int) < (k:Int) + 1:=by omega);clear hn6 hst hak HND;go_wp2;have HD:=Hd (HC1.out.below (Below.refl _ _).drew);obtain ⟨rv,y1,y2⟩:=(HD.out.r3 HGC.out).row HAK.out;have HY:=Hd y2;have hbel:=HD.out.bel;have hnc:=HNC.out _ hbel;obtain ⟨nb',no',hq,hnc⟩:=hnc;(obtain ⟨rfl,rfl⟩:nb = nb' /\ no = no':=by simpa using hq);clear hq q0 q1 q2 q3 q4 q5 q6 q7 q8 q9 HC1 y2 hbel;(refine Tk.g (fun w'=>NCell w' nb (no + k * 10) ⟨nk,ns,(a:Nat),nbb,nmn,nmx,nn⟩ /\ w'.cell? ⟨gb,a,none⟩ = some rv) (by exact ⟨hnc,y1⟩) fun hH=>?_);clear hnc y1;generalize World.drew _ = W6 at HD HY hH ⊢;refine Tk.t 0 ?_;refine Tk.t 1 ?_;refine Tk.t 2 ?_;refine Tk.t 3 ?_;refine Tk.t 4 ?_;refine Tk.t 5 ?_;refine Tk.t 6 ?_;refine Tk.t 7 ?_;refine Tk.t 8 ?_;refine Tk.t 9 ?_;refine Tk.t 10 ?_;refine Tk.t 11 ?_;refine Tk.t 12 ?_;refine Tk.o 13 (fun K hK=>?_);have hsp:=steps_any ⟨nk,ns,(a:Nat),nbb,nmn,nmx,nn⟩ (F a) rv (N + 1) J (by have:=HJN.out;have:=HBD.out;omega) W6 HY.out (by have:=HJN.out;omega);(try dsimp only at hsp);go_simp
        (go_at_call 97;refine hsp.mono ?_;clear hsp;rintro e w7 ⟨rm,rfl,hrm,hbl⟩;have HD2:=Hd (HD.out.below hbl);have HRM:=Hd hrm;have HRS:=Hd HD.out.rs;have HBL:=Hd hbl;clear HD hbl hrm HY)
        (refine hK.out _ _ (by exact ⟨hH.1.below HBL.out,(HBL.out.cell (lt_cell hH.2)).trans hH.2⟩) fun hH=>Tk.w ?_);clear hK K HBL;refine Tk.t 14 ?_;refine Tk.d ?_;clear hH;go_wp2;go_loopw [11] (fun iv wr=>∃ I:Nat,I <= J + 1 /\ iv = .int .i64 (I:Nat) /\ Hid (CT w wr (.slice (some ⟨gb,0,none⟩) (k + 1) gc) k (N + 1) r F (fun i x=>(decide (x < J) || (decide (x = J) && decide (i < I))) && F k i x)) /\ Hid (R2n wr W6.heap.size (SL rm (J + 3)) (J + 3) (J + 1) (stF (F a) nmn nmx J))) (fun iv _=>J + 1 - (intOf iv).toNat);(case atStart=>exact ⟨0,Nat.zero_le _,rfl,Hd (HD2.out.congr fun i x _ _=>by rw [decide_eq_false (by omega:¬ i < 0),Bool.and_false,Bool.or_false]),HRM⟩);case round =>
         clear HD2 HRM;obtain ⟨I,hI,rfl,HC,HRM⟩:=hrel;by_cases hIJ:I <= J
         ·
          (have hIJ':(I:Int) <= (J:Int):=by omega);(have hI0:(0:Int) <= (I:Int):=by omega);(have hI1:(I:Int) < (N:Int) + 1:=by have:=HJN.out;omega);(have hI2:(I:Int) < (J:Int) + 1:=by omega);(have hJ3:(0:Int) < (J:Int) + 3:=by omega);(have hwI:IntKind.i64.wrap ((I:Int) + 1) = (I:Int) + 1:=by rw [IntKind.wrap_i64];have:=HBD.out;have:=HJN.out;omega);have HIJ:=Hd hIJ;clear hI;obtain ⟨nb',no',hq,q0,q1,q2,q3,q4,q5,q6,q7,q8,q9⟩:=HNC.out _ HC.out.bel;(obtain ⟨rfl,rfl⟩:nb = nb' /\ no = no':=by simpa using hq);(try dsimp only at q0 q1 q2 q3 q4 q5 q6 q7 q8 q9);clear hq;obtain ⟨z0,z1,z2,z3⟩:=HC.out.cells (i:=I) (x:=J) (by have:=HJN.out;omega) (by have:=HJN.out;omega);obtain ⟨qm,y1,y2⟩:=HRM.out.read.row (i:=0) (by omega);have y3:=y2.cell (i:=I) (by omega);rw [<- HST.out I J hIJ (by have:=HJN.out;have:=HTN.out;omega)] at y3;clear y2 hIJ;have HD3:=Hd (HC.out.put (i:=I) (x:=J) (b:=F k I J) (G':=fun i x=>(decide (x < J) || (decide (x = J) && decide (i < I + 1))) && F k i x) (by have:=HJN.out;have:=HIJ.out;omega) (fun i' x' _ _=>by
           by_cases e:i' = I /\ x' = J
           · rw [if_pos e,e.1,e.2,decide_eq_true (rfl:J = J),decide_eq_true (by omega:I < I + 1)];simp
           ·
            rw [if_neg e];by_cases e2:x' = J
            · (have:i' ≠ I:=fun q=>e ⟨q,e2⟩);(have:decide (i' < I + 1) = decide (i' < I):=by rw [decide_eq_decide];omega);rw [this]
            · rw [decide_eq_false e2];rfl))
          have HRM2:=Hd (HRM.out.keep (w':=wr.setCell ⟨r + 1 + I,J,none⟩ (.bool (F k I J))) (fun q h1 h2=>Below.heap_setCell wr ⟨r + 1 + I,J,none⟩ _ q (by show q ≠ r + 1 + I;have:=HRS.out;have:=HIJ.out;have:=HJN.out;omega)) (by simp));go_wp2;go_region;go_wp2;go_roundw;(case rel=>exact ⟨I + 1,by have:=HIJ.out;omega,by go_num,Hd (HD3.out.below (Below.refl _ _).drew),Hd (HRM2.out.keep (fun _ _ _=>rfl) (Nat.le_refl _))⟩);case measure=>have:=HIJ.out;simp [intOf];omega
         ·
          (obtain rfl:I = J + 1:=by omega);(have hIJ':¬ ((J + 1:Nat):Int) <= (J:Int):=by omega);have HE:=Hd (HC.out.congr (G':=fun i x=>decide (x < J + 1) && F k i x) (fun i x _ _=>by
           by_cases e:x = J
           ·
            subst e;by_cases e2:i < x + 1
            · rw [decide_eq_true e2,decide_eq_true (by omega:x < x + 1)];simp
            · rw [HFF.out k i x (by omega),Bool.and_false,Bool.and_false]
           · (have:decide (x < J + 1) = decide (x < J):=by rw [decide_eq_decide];omega);rw [this,decide_eq_false e];simp))
          clear hI hIJ HC HRM;go_wp2;go_roundw;(case rel=>exact ⟨J + 1,by have:=HJN.out;omega,by go_num,HE⟩);case measure=>have:=HJN.out;simp [intOf];omega
      · (obtain rfl:J = N + 1:=by omega);(have hJN':¬ ((N + 1:Nat):Int) <= (N:Int):=by omega);have HE:=Hd (HC.out.done (fun i x _ hx=>by rw [decide_eq_true hx,Bool.true_and]));clear hJ hJN HC;go_wp2;go_roundw;(case rel=>exact ⟨k + 1,by have:=HLT.out;omega,by go_num,HE⟩);case measure=>have:=HLT.out;simp [intOf];omega
  · (obtain rfl:k = l.length:=by omega);(have hlt':¬ ((l.length:Nat):Int) < ((l.length:Nat):Int):=by omega);clear hk hlt;go_wp2;go_ret;exact ⟨_,rfl,by rw [<- HTN.out];exact HG.out⟩
end Go.Proofs.YtinallojhkaogaaGreatDoor.Mt
