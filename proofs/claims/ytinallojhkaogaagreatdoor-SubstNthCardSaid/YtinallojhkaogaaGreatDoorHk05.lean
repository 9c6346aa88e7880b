/- The texts RxW1 MtV RxW2. -/
import Derived.LoopN
import Derived.Handy
import Derived.Deep.WholeRow
import Derived.Deep.RegionHeld3
import Derived.Laws.StructEq
import Derived.ChangeKeysEq
import Derived.MapKept
import Derived.WideMake
import Derived.Test.YtinallojhkaogaaGreatDoorHk02
import Derived.Test.YtinallojhkaogaaGreatDoorHk03
import Derived.Test.YtinallojhkaogaaGreatDoorHk04
set_option linter.unusedVariables false
set_option linter.unusedSimpArgs false
set_option maxHeartbeats 1600000
set_option maxRecDepth 100000
namespace Go.Proofs.YtinallojhkaogaaGreatDoor.Rx
open Go.RowKit Go.Shelf
open St (Wf word zeroW)
abbrev S (l:List UInt8):Value:=.string ⟨l.toArray⟩
abbrev E (n:Int):Value:=.int .i64 n
abbrev U (n:Nat):Value:=.int .u64 (n:Int)
theorem ret1 {a a':Value} (h1:a = a'):Ending.returned a = .returned a':=by rw [h1]
abbrev NC (n:Nd):Array Value:=#[E n.k,U (word n.s 0),U (word n.s 1),U (word n.s 2),U (word n.s 3),E n.a,E n.b,E n.mn,E n.mx,E n.n]
abbrev NV (n:Nd):Value:=.agg (NC n)
theorem ansA {t:TypeId} {fs:Array Field} (hu:Tryz.prog.underlying t = some (.struct fs)) (n:Nat) (hs:(Tryz.prog.info? t).map (·.size) = some n) {fn:Func} {p:Tmp} (h:fn.results = #[.cell p t]) {tmps:Array Value} {w:World} {g:Nat} {c:Array Value} {tt:TypeId} {fr:Nat × Nat} (hp:tmps.getD p undef = .pointer (some ⟨g,0,none⟩)) (hg:w.heap[g]? = some (.cells c tt fr)) (hc:c.size = n) :
  (results fn tmps).run Tryz.prog w = .ok (.agg c) w :=
 results_cell_row h tmps w g tt c fr (.struct fs) hp hg hu rfl (by rw [hc];exact hs)
theorem parts_other (n:Nd) (w:World) (h4:(n.k == 4) = false) (h5:(n.k == 5) = false) (h6:(n.k == 6) = false) (h7:(n.k == 7) = false) :
  Calls Tryz.prog 90 #[NV n] w fun e w'=>e = .returned (E 0) /\ Below w.heap.size w w':=by
 go_enter Tryz.func90,Tryz.ntmps90;go_wp2;go_ret;exact ⟨rfl,(Below.refl w.heap.size w).alloc (Nat.le_refl _) _⟩
theorem parts_two (n:Nd) (w:World) (h:n.k = 4 \/ n.k = 5) :
  Calls Tryz.prog 90 #[NV n] w fun e w'=>e = .returned (E 2) /\ Below w.heap.size w w':=by
 obtain ⟨k,s,a,b,mn,mx,m⟩:=n;dsimp only at h;rcases h with rfl | rfl
 · go_enter Tryz.func90,Tryz.ntmps90;go_wp2;go_ret;exact ⟨rfl,(Below.refl w.heap.size w).alloc (Nat.le_refl _) _⟩
 · go_enter Tryz.func90,Tryz.ntmps90;go_wp2;go_ret;exact ⟨rfl,(Below.refl w.heap.size w).alloc (Nat.le_refl _) _⟩
theorem parts_one (n:Nd) (w:World) (h:n.k = 6 \/ n.k = 7) :
  Calls Tryz.prog 90 #[NV n] w fun e w'=>e = .returned (E 1) /\ Below w.heap.size w w':=by
 obtain ⟨k,s,a,b,mn,mx,m⟩:=n;dsimp only at h;rcases h with rfl | rfl
 · go_enter Tryz.func90,Tryz.ntmps90;go_wp2;go_ret;exact ⟨rfl,(Below.refl w.heap.size w).alloc (Nat.le_refl _) _⟩
 · go_enter Tryz.func90,Tryz.ntmps90;go_wp2;go_ret;exact ⟨rfl,(Below.refl w.heap.size w).alloc (Nat.le_refl _) _⟩
theorem parts_any (n:Nd) (w:World):Calls Tryz.prog 90 #[NV n] w fun e w'=>e = .returned (E ((parts n:Nat):Int)) /\ Below w.heap.size w w':=by
 by_cases h4:n.k = 4 \/ n.k = 5
 · rw [show parts n = 2 from by unfold parts;rw [if_pos h4]];exact parts_two n w h4
 by_cases h6:n.k = 6 \/ n.k = 7
 · rw [show parts n = 1 from by unfold parts;rw [if_neg h4,if_pos h6]];exact parts_one n w h6
 · rw [show parts n = 0 from by unfold parts;rw [if_neg h4,if_neg h6]];exact parts_other n w (by simp;omega) (by simp;omega) (by simp;omega) (by simp;omega)
theorem infoN:(Tryz.prog.info? 72).map (·.size) = some 10:=by kernel_rfl
def plainN (n:Nd):Nd :=
 if n.k = 1 then ⟨1,n.s,0,0,0,0,0⟩ else if n.k = 4 then ⟨4,z4,n.a,n.b,0,0,0⟩ else if n.k = 5 then ⟨5,z4,n.a,n.b,0,0,0⟩
 else if n.k = 6 then ⟨6,z4,n.a,0,n.mn,n.mx,0⟩ else if n.k = 7 then ⟨7,z4,n.a,0,0,0,n.n⟩ else if n.k = 8 then ⟨8,z4,0,0,0,0,n.n⟩ else ⟨n.k,z4,0,0,0,0,0⟩
theorem mid (w:World) (o1 o2 o3:Obj):(((w.alloc o1).alloc o2).alloc o3).heap[w.heap.size + 1]? = some o2:=by
 rw [Below.heap_alloc _ _ _ (by simp)];have:=heap_alloc_new (w.alloc o1) o2;simpa using this
theorem three_below (w:World) (o1 o2 o3:Obj):Below w.heap.size w (((w.alloc o1).alloc o2).alloc o3) :=
 (((Below.refl w.heap.size w).alloc (Nat.le_refl _) _).alloc (by simp) _).alloc (by simp;omega) _
theorem plain_other (n:Nd) (w:World) (h1:(n.k == 1) = false) (h4:(n.k == 4) = false) (h5:(n.k == 5) = false) (h6:(n.k == 6) = false) (h7:(n.k == 7) = false) (h8:(n.k == 8) = false) :
  Calls Tryz.prog 151 #[NV n] w fun e w'=>e = .returned (NV ⟨n.k,z4,0,0,0,0,0⟩) /\ Below w.heap.size w w':=by
 go_enter Tryz.func151,Tryz.ntmps151;go_wp2;refine bodyPost_ret (v:=NV ⟨n.k,z4,0,0,0,0,0⟩) ?_ ?_ ?_
 · exact ansA Tryz.underlying72 10 infoN rfl rfl (mid _ _ _ _) rfl
 · rfl
 · exact ⟨rfl,three_below _ _ _ _⟩
theorem plain_1 (s:List Nat) (a b mn mx m:Int) (w:World) :
  Calls Tryz.prog 151 #[NV ⟨1,s,a,b,mn,mx,m⟩] w fun e w'=>e = .returned (NV ⟨1,s,0,0,0,0,0⟩) /\ Below w.heap.size w w':=by
 go_enter Tryz.func151,Tryz.ntmps151;go_wp2;refine bodyPost_ret (v:=NV ⟨1,s,0,0,0,0,0⟩) ?_ ?_ ?_
 · exact ansA Tryz.underlying72 10 infoN rfl rfl (mid _ _ _ _) rfl
 · rfl
 · exact ⟨rfl,three_below _ _ _ _⟩
theorem plain_4 (s:List Nat) (a b mn mx m:Int) (w:World) :
  Calls Tryz.prog 151 #[NV ⟨4,s,a,b,mn,mx,m⟩] w fun e w'=>e = .returned (NV ⟨4,z4,a,b,0,0,0⟩) /\ Below w.heap.size w w':=by
 go_enter Tryz.func151,Tryz.ntmps151;go_wp2;go_region;go_wp2;refine bodyPost_ret (v:=NV ⟨4,z4,a,b,0,0,0⟩) ?_ ?_ ?_
 · exact ansA Tryz.underlying72 10 infoN rfl rfl (mid _ _ _ _) rfl
 · rfl
 · exact ⟨rfl,(three_below _ _ _ _).drew⟩
theorem plain_5 (s:List Nat) (a b mn mx m:Int) (w:World) :
  Calls Tryz.prog 151 #[NV ⟨5,s,a,b,mn,mx,m⟩] w fun e w'=>e = .returned (NV ⟨5,z4,a,b,0,0,0⟩) /\ Below w.heap.size w w':=by
 go_enter Tryz.func151,Tryz.ntmps151;go_wp2;go_region;go_wp2;refine bodyPost_ret (v:=NV ⟨5,z4,a,b,0,0,0⟩) ?_ ?_ ?_
 · exact ansA Tryz.underlying72 10 infoN rfl rfl (mid _ _ _ _) rfl
 · rfl
 · exact ⟨rfl,(three_below _ _ _ _).drew⟩
theorem plain_6 (s:List Nat) (a b mn mx m:Int) (w:World) :
  Calls Tryz.prog 151 #[NV ⟨6,s,a,b,mn,mx,m⟩] w fun e w'=>e = .returned (NV ⟨6,z4,a,0,mn,mx,0⟩) /\ Below w.heap.size w w':=by
 go_enter Tryz.func151,Tryz.ntmps151;go_wp2;go_region;go_wp2;refine bodyPost_ret (v:=NV ⟨6,z4,a,0,mn,mx,0⟩) ?_ ?_ ?_
 · exact ansA Tryz.underlying72 10 infoN rfl rfl (mid _ _ _ _) rfl
 · rfl
 · exact ⟨rfl,(three_below _ _ _ _).drew⟩
theorem plain_7 (s:List Nat) (a b mn mx m:Int) (w:World) :
  Calls Tryz.prog 151 #[NV ⟨7,s,a,b,mn,mx,m⟩] w fun e w'=>e = .returned (NV ⟨7,z4,a,0,0,0,m⟩) /\ Below w.heap.size w w':=by
 go_enter Tryz.func151,Tryz.ntmps151;go_wp2;go_region;go_wp2;refine bodyPost_ret (v:=NV ⟨7,z4,a,0,0,0,m⟩) ?_ ?_ ?_
 · exact ansA Tryz.underlying72 10 infoN rfl rfl (mid _ _ _ _) rfl
 · rfl
 · exact ⟨rfl,(three_below _ _ _ _).drew⟩
theorem plain_8 (s:List Nat) (a b mn mx m:Int) (w:World) :
  Calls Tryz.prog 151 #[NV ⟨8,s,a,b,mn,mx,m⟩] w fun e w'=>e = .returned (NV ⟨8,z4,0,0,0,0,m⟩) /\ Below w.heap.size w w':=by
 go_enter Tryz.func151,Tryz.ntmps151;go_wp2;refine bodyPost_ret (v:=NV ⟨8,z4,0,0,0,0,m⟩) ?_ ?_ ?_
 · exact ansA Tryz.underlying72 10 infoN rfl rfl (mid _ _ _ _) rfl
 · rfl
 · exact ⟨rfl,three_below _ _ _ _⟩
theorem plain_any (n:Nd) (w:World):Calls Tryz.prog 151 #[NV n] w fun e w'=>e = .returned (NV (plainN n)) /\ Below w.heap.size w w':=by
 obtain ⟨k,s,a,b,mn,mx,m⟩:=n;by_cases h1:k = 1
 · subst h1;exact plain_1 s a b mn mx m w
 by_cases h4:k = 4
 · subst h4;exact plain_4 s a b mn mx m w
 by_cases h5:k = 5
 · subst h5;exact plain_5 s a b mn mx m w
 by_cases h6:k = 6
 · subst h6;exact plain_6 s a b mn mx m w
 by_cases h7:k = 7
 · subst h7;exact plain_7 s a b mn mx m w
 by_cases h8:k = 8
 · subst h8;exact plain_8 s a b mn mx m w
 rw [show plainN ⟨k,s,a,b,mn,mx,m⟩ = ⟨k,z4,0,0,0,0,0⟩ from by unfold plainN;simp only [h1,h4,h5,h6,h7,h8,if_false]];exact plain_other ⟨k,s,a,b,mn,mx,m⟩ w (by simp;omega) (by simp;omega) (by simp;omega) (by simp;omega) (by simp;omega) (by simp;omega)
theorem run_eq4g (a b c d a' b' c' d':Nat) (q:Nat) (w:World):(Op.equalIn (q + 2) 70 (.agg #[U a,U b,U c,U d]) (.agg #[U a',U b',U c',U d'])).run Tryz.prog w = .ok (decide (a = a' /\ b = b' /\ c = c' /\ d = d')) w:=by
 have u3:=Tryz.underlying68;have a3:=Tryz.isAgg68;have z3:=Tryz.sizeOf68;rw [show (q + 2:Nat) = (q + 1) + 1 from rfl,Op.equalIn];simp only [Sem.run_bind,run_underlying Tryz.underlying70,Result.andThen_ok];simp only [Std.Legacy.Range.forIn_eq_forIn_range',Std.Legacy.Range.size,Nat.sub_zero,Nat.add_sub_cancel,Nat.div_one,List.range'_succ,List.range'_zero,List.forIn_cons,List.forIn_nil];by_cases ha:a = a'
 ·
  subst ha;by_cases hb:b = b'
  ·
   subst hb;by_cases hc:c = c'
   ·
    subst hc;by_cases hd:d = d'
    · subst hd;go_simp
    · (have hdB:((d:Int) == d') = false:=by simp;omega);go_simp
   · (have hdB:((c:Int) == c') = false:=by simp;omega);go_simp
  · (have hdB:((b:Int) == b') = false:=by simp;omega);go_simp
 · (have hdB:((a:Int) == a') = false:=by simp;omega);go_simp
end Go.Proofs.YtinallojhkaogaaGreatDoor.Rx
namespace Go.Proofs.YtinallojhkaogaaGreatDoor.Mt
open Go.RowKit Go.Shelf
open Rx
open Fl
open Sp (fi cx noneB may_fi fi_in inB inB_of eqB_none)
def capV:Cap -> Value
 | none=>cx noneB noneB
 | some (i,j)=>cx (fi i) (fi j)
def gr (c:Caps) (n:Nat):Cap:=(c[n]?).getD none
abbrev CC (c:Caps):Array Value:=#[capV (gr c 0),capV (gr c 1),capV (gr c 2),capV (gr c 3),capV (gr c 4),capV (gr c 5),capV (gr c 6),capV (gr c 7),capV (gr c 8),capV (gr c 9)]
abbrev CV (c:Caps):Value:=.agg (CC c)
def CapOk (N:Nat):Cap -> Prop
 | none=>True
 | some (i,j)=>i <= j /\ j <= N
structure CapsOk (N:Nat) (c:Caps):Prop where
 len:c.length = 10
 all:∀ x ∈ c,CapOk N x
theorem caps_none (N:Nat):CapsOk N nones:=⟨rfl,by intro x hx;obtain ⟨_,rfl⟩:=List.mem_replicate.1 hx;trivial⟩
theorem CapsOk.at {N:Nat} {c:Caps} (h:CapsOk N c) (n:Nat):CapOk N (gr c n):=by
 unfold gr;cases hn:c[n]? with
 | none=>trivial
 | some x=>exact h.all x (List.mem_of_getElem? hn)
theorem CapsOk.set {N:Nat} {c:Caps} (h:CapsOk N c) {i j:Nat} (h1:i <= j) (h2:j <= N) (n:Nat):CapsOk N (c.set n (some (i,j))):=by
 refine ⟨by rw [List.length_set];exact h.len,fun x hx=>?_⟩;rcases List.mem_or_eq_of_mem_set hx with q | q
 · exact h.all x q
 · subst q;exact ⟨h1,h2⟩
theorem gr_set {c:Caps} (h:c.length = 10) {n:Nat} (hn:n < 10) (x:Cap) (m:Nat):gr (c.set n x) m = if m = n then x else gr c m:=by
 unfold gr;rw [List.getElem?_set];by_cases e:m = n
 · subst e;rw [if_pos rfl,if_pos rfl,if_pos (by omega)];rfl
 · rw [if_neg (fun q=>e q.symm),if_neg e]
theorem cc_set {c:Caps} (h:c.length = 10) {n:Nat} (hn:n < 10) (x:Cap):(CC c).setIfInBounds n (capV x) = CC (c.set n x):=by
 unfold CC;simp only [gr_set h hn]
 match n,hn with
 | 0,_=>rfl
 | 1,_=>rfl
 | 2,_=>rfl
 | 3,_=>rfl
 | 4,_=>rfl
 | 5,_=>rfl
 | 6,_=>rfl
 | 7,_=>rfl
 | 8,_=>rfl
 | 9,_=>rfl
theorem caps_ext {c d:Caps} (hc:c.length = 10) (hd:d.length = 10) (h:∀ n,n < 10 -> gr c n = gr d n):c = d:=by
 apply List.ext_getElem (by rw [hc,hd]);intro n h1 h2;have:=h n (by omega);unfold gr at this;rw [List.getElem?_eq_getElem h1,List.getElem?_eq_getElem h2] at this;exact this
theorem fit_ok {T:List UInt8}:∀ (t:Tr) (i j:Nat) (c a:Caps),i <= j -> j <= T.length -> CapsOk T.length c -> fitP T t i j c = some a -> CapsOk T.length a
 | .e,i,j,c,a,hij,hj,hc,h=>by
  unfold fitP at h;split at h
  · cases h;exact hc
  · cases h
 | .set s,i,j,c,a,hij,hj,hc,h=>by
  unfold fitP at h;split at h
  · cases h;exact hc
  · cases h
 | .beg,i,j,c,a,hij,hj,hc,h=>by
  unfold fitP at h;split at h
  · cases h;exact hc
  · cases h
 | .fin,i,j,c,a,hij,hj,hc,h=>by
  unfold fitP at h;split at h
  · cases h;exact hc
  · cases h
 | .ref n,i,j,c,a,hij,hj,hc,h=>by
  unfold fitP at h;split at h
  · cases h;exact hc
  · cases h
 | .cat x y,i,j,c,a,hij,hj,hc,h=>by
  unfold fitP at h;obtain ⟨k,h1,h2,h3⟩:=down_some h;cases hx:fitP T x i k c with
  | none=>rw [hx] at h3;cases h3
  | some b =>
   rw [hx,Option.bind_some] at h3;exact fit_ok y k j b a (by omega) hj (fit_ok x i k c b h1 (by omega) hc hx) h3
 | .alt x y,i,j,c,a,hij,hj,hc,h=>by
  unfold fitP at h;cases hx:fitP T x i j c with
  | some b=>rw [hx] at h;cases h;exact fit_ok x i j c a hij hj hc hx
  | none=>rw [hx] at h;exact fit_ok y i j c a hij hj hc h
 | .grp n x,i,j,c,a,hij,hj,hc,h=>by
  unfold fitP at h;cases hx:fitP T x i j c with
  | none=>rw [hx] at h;cases h
  | some b=>rw [hx] at h;cases h;exact (fit_ok x i j c b hij hj hc hx).set hij hj _
 | .times mn mx x,i,j,c,a,hij,hj,hc,h=>by
  unfold fitP at h;have key:∀ (fuel p k:Nat) (c a:Caps),p <= j -> CapsOk T.length c -> timesP (fitP T x) mn mx j fuel p k c = some a -> CapsOk T.length a:=by
   intro fuel
   induction fuel with
   | zero =>
    intro p k c a hp hc h;unfold timesP at h;split at h
    ·
     split at h
     · cases h;exact hc
     · exact fit_ok x j j c a (Nat.le_refl _) hj hc h
    · split at h <;> cases h
   | succ fuel ih =>
    intro p k c a hp hc h;unfold timesP at h;split at h
    ·
     split at h
     · cases h;exact hc
     · exact fit_ok x j j c a (Nat.le_refl _) hj hc h
    ·
     split at h
     · cases h
     ·
      dsimp only at h;obtain ⟨q,h1,h2,h3⟩:=down_some h;cases hx:fitP T x p q c with
      | none=>rw [hx] at h3;cases h3
      | some b =>
       rw [hx,Option.bind_some] at h3;exact ih q (k + 1) b a (by omega) (fit_ok x p q c b (by omega) (by omega) hc hx) h3
  exact key (j - i) i 0 c a hij hc h
theorem may_cap {N:Nat} (hN:N <= 999999999) {x:Cap} (h:CapOk N x) (w:World):Calls Tryz.prog 67 #[capV x] w fun e w'=>e = .returned (.bool x.isSome) /\ w = w':=by
 cases x with
 | none =>
  have:=Sp.may_any noneB noneB w;rw [may_none] at this;exact this
 | some p =>
  obtain ⟨i,j⟩:=p;have:=Sp.may_any (fi i) (fi j) w;rw [(fi_in (inB_of (by omega) (by have:=h.1;omega) (by have:=h.2;omega))).1] at this;exact this
theorem from_cap {N:Nat} (hN:N <= 999999999) {i j:Nat} (h:CapOk N (some (i,j))) (w:World):Calls Tryz.prog 39 #[capV (some (i,j))] w fun e w'=>e = .returned (E (i:Nat)) /\ w = w':=by
 have:=Sp.from_any (fi i) (fi j) w;rw [(fi_in (inB_of (by omega) (by have:=h.1;omega) (by have:=h.2;omega))).2.1] at this;exact this
theorem to_cap {N:Nat} (hN:N <= 999999999) {i j:Nat} (h:CapOk N (some (i,j))) (w:World):Calls Tryz.prog 57 #[capV (some (i,j))] w fun e w'=>e = .returned (E (j:Nat)) /\ w = w':=by
 have:=Sp.to_any (fi i) (fi j) w;rw [(fi_in (inB_of (by omega) (by have:=h.1;omega) (by have:=h.2;omega))).2.2.1] at this;exact this
theorem none_cap (w:World):Calls Tryz.prog 53 #[] w fun e w'=>e = .returned (capV none) /\ w = w':=Sp.none_any w
theorem rnone_cap (w:World):Calls Tryz.prog 54 #[] w fun e w'=>e = .returned (capV none) /\ w = w':=Sp.rnone_any w
theorem of_cap {i j:Nat} (h1:i <= j) (h2:j <= 999999999) (w:World):Calls Tryz.prog 77 #[E (i:Nat),E (j:Nat)] w fun e w'=>e = .returned (.tuple #[capV (some (i,j)),.bool true]) /\ w = w':=by
 have:=Sp.of_any (i:Int) (j:Int) w;have hm:=(fi_in (inB_of (a:=(i:Int)) (b:=(j:Int)) (by omega) (by omega) (by omega))).1;rw [hm] at this;have e:Sp.knV (floatOfInt .f64 (i:Int)) (floatOfInt .f64 (j:Int)) = capV (some (i,j)):=by
  show cx (Sp.kA _ _) (Sp.kB _ _) = _;unfold Sp.kA Sp.kB;rw [hm,if_pos rfl,if_pos rfl,capV]
 rw [e] at this;exact this
theorem rof_cap {i j:Nat} (h1:i <= j) (h2:j <= 999999999) (w:World):Calls Tryz.prog 79 #[E (i:Nat),E (j:Nat)] w fun e w'=>e = .returned (.tuple #[capV (some (i,j)),.bool true]) /\ w = w':=by
 have:=Sp.rof_any (i:Int) (j:Int) w;have hb:=inB_of (a:=(i:Int)) (b:=(j:Int)) (by omega) (by omega) (by omega);have e:Sp.rofV (i:Int) (j:Int) = capV (some (i,j)):=by
  show cx (Sp.rA _ _) (Sp.rB _ _) = _;unfold Sp.rA Sp.rB;rw [hb,if_pos rfl,if_pos rfl,capV]
 rw [e,hb] at this;exact this
theorem rmay_cap {N:Nat} (hN:N <= 999999999) {x:Cap} (h:CapOk N x) (w:World):Calls Tryz.prog 73 #[capV x] w fun e w'=>e = .returned (.bool x.isSome) /\ w = w':=by
 cases x with
 | none =>
  have:=Sp.rmay_any noneB noneB w;rw [may_none] at this;exact this
 | some p =>
  obtain ⟨i,j⟩:=p;have:=Sp.rmay_any (fi i) (fi j) w;rw [(fi_in (inB_of (by omega) (by have:=h.1;omega) (by have:=h.2;omega))).1] at this;exact this
def cutC (T:List UInt8):Cap -> List UInt8
 | none=>[]
 | some (i,j)=>cutT T i j
theorem ext_cut (T:List UInt8) (i j:Nat):(⟨T.toArray⟩:ByteArray).extract i j = ⟨(cutT T i j).toArray⟩:=by
 rw [Go.Lib.extract_eq];unfold cutT;rcases Nat.le_total i j with h | h
 · simp
 · simp
theorem cut_cap {T:List UInt8} (hN:T.length <= 999999999) {x:Cap} (h:CapOk T.length x) (w:World):Calls Tryz.prog 38 #[S T,capV x] w fun e w'=>e = .returned (S (cutC T x)) /\ w = w':=by
 (have hsz:(ByteArray.mk T.toArray).size = T.length:=by simp [ByteArray.size]);cases x with
 | none =>
  have:=Sp.cut_any ⟨T.toArray⟩ noneB noneB w (by rw [hsz];unfold maxLen;omega);unfold Sp.cutL at this;rw [may_none] at this;exact this
 | some p =>
  obtain ⟨i,j⟩:=p;obtain ⟨h1,_,_,h4,h5⟩:=fi_in (inB_of (a:=(i:Int)) (b:=(j:Int)) (by omega) (by have:=h.1;omega) (by have:=h.2;omega));have:=Sp.cut_any ⟨T.toArray⟩ (fi i) (fi j) w (by rw [hsz];unfold maxLen;omega);unfold Sp.cutL at this;rw [if_pos h1,h4,h5,hsz] at this;(have e1:(min (i:Int) (min (j:Int) (T.length:Int))).toNat = i:=by have:=h.1;have:=h.2;omega);(have e2:(min (j:Int) (T.length:Int)).toNat = j:=by have:=h.2;omega);rw [e1,e2,ext_cut] at this;exact this
theorem rcut_cap {T:List UInt8} (hN:T.length <= 999999999) {x:Cap} (h:CapOk T.length x) (w:World):Calls Tryz.prog 52 #[S T,capV x] w fun e w'=>e = .returned (S (cutC T x)) /\ w = w':=by
 (have hsz:(ByteArray.mk T.toArray).size = T.length:=by simp [ByteArray.size]);cases x with
 | none =>
  have:=Sp.rcut_any ⟨T.toArray⟩ noneB noneB w (by rw [hsz];unfold maxLen;omega);unfold Sp.rcut at this;rw [may_none] at this;exact this
 | some p =>
  obtain ⟨i,j⟩:=p;obtain ⟨h1,_,_,h4,h5⟩:=fi_in (inB_of (a:=(i:Int)) (b:=(j:Int)) (by omega) (by have:=h.1;omega) (by have:=h.2;omega));have:=Sp.rcut_any ⟨T.toArray⟩ (fi i) (fi j) w (by rw [hsz];unfold maxLen;omega);unfold Sp.rcut at this;rw [if_pos h1,h4,h5,hsz,Int.toNat_natCast,Int.toNat_natCast,Nat.min_eq_right h.2,ext_cut] at this;exact this
theorem V_fi {n:Nat} (h:n <= 999999999):V (fi n) = some ((n:Int) * unit):=by
 have h1:=wh_ofInt (n:Int) (by omega) (by omega);(have h2:wh (fi n) = true:=by rw [h1.1];simp;omega);have h3:=(wh_spec h2).1;rw [h1.2 (by omega) (by omega)] at h3;exact h3
theorem eq_fi {a b:Nat} (ha:a <= 999999999) (hb:b <= 999999999):eqB (fi a) (fi b) = decide (a = b):=by
 have hu:=unit_pos;unfold eqB;rw [V_fi ha,V_fi hb];dsimp only;rw [Bool.eq_iff_iff,decide_eq_true_eq,decide_eq_true_eq];constructor
 · intro h;have:=Int.eq_of_mul_eq_mul_right (Int.ne_of_gt hu) h;omega
 · rintro rfl;rfl
theorem eq_fi_none {a:Nat} (ha:a <= 999999999):eqB (fi a) noneB = false:=by
 have hu:=unit_pos;unfold eqB;rw [V_fi ha,V_none];dsimp only;rw [decide_eq_false_iff_not];intro h;have:=Int.eq_of_mul_eq_mul_right (Int.ne_of_gt hu) h;omega
theorem run_eq_cap {N:Nat} (hN:N <= 999999999) {x y:Cap} (hx:CapOk N x) (hy:CapOk N y) (q:Nat) (w:World):(Op.equalIn (q + 1) 31 (capV x) (capV y)).run Tryz.prog w = .ok (decide (x = y)) w:=by
 have key:∀ a b c d:Nat,(Op.equalIn (q + 1) 31 (cx a b) (cx c d)).run Tryz.prog w = .ok (eqB a c && eqB b d) w:=by
  intro a b c d;rw [<- order_eq,<- order_eq];rw [Op.equalIn];simp only [Sem.run_bind,run_underlying Tryz.underlying31,Result.andThen_ok];simp only [if_true,Sem.run_pure,Op.floatEq];rfl
 cases x with
 | none =>
  cases y with
  | none=>unfold capV;rw [key,eqB_none];simp
  | some p =>
   obtain ⟨i,j⟩:=p;unfold capV;rw [key,eqB_comm,eq_fi_none (by have:=hy.1;have:=hy.2;omega)];simp
 | some p =>
  obtain ⟨i,j⟩:=p;cases y with
  | none =>
   unfold capV;rw [key,eq_fi_none (by have:=hx.1;have:=hx.2;omega)];simp
  | some p2 =>
   obtain ⟨k,l⟩:=p2;unfold capV;rw [key,eq_fi (by have:=hx.1;have:=hx.2;omega) (by have:=hy.1;have:=hy.2;omega),eq_fi (by have:=hx.2;omega) (by have:=hy.2;omega)]
   congr 1
   rw [Bool.eq_iff_iff];simp
theorem cell1:Tryz.prog.cellsOf 31 = 1:=by kernel_rfl
theorem part_cap (c:Caps) {i:Nat} (hi:i < 10) (w:World):(part 31 (CC c) (i * 1)).run Tryz.prog w = .ok (capV (gr c i)) w:=by
 have h1:=Tryz.isAgg31
 match i,hi with
 | 0,_=>simp [part,h1]
 | 1,_=>simp [part,h1]
 | 2,_=>simp [part,h1]
 | 3,_=>simp [part,h1]
 | 4,_=>simp [part,h1]
 | 5,_=>simp [part,h1]
 | 6,_=>simp [part,h1]
 | 7,_=>simp [part,h1]
 | 8,_=>simp [part,h1]
 | 9,_=>simp [part,h1]
theorem eq_items {N:Nat} (hN:N <= 999999999) {c d:Caps} (hc:CapsOk N c) (hd:CapsOk N d) (q:Nat) (w:World):∀ is:List Nat,(∀ i ∈ is,i < 10) ->
  (Op.eqItems (q + 1) 31 1 (CC c) (CC d) is).run Tryz.prog w = .ok (is.all fun i=>decide (gr c i = gr d i)) w
 | [],_=>by simp [Op.eqItems]
 | i :: is,h=>by
  have h1:=part_cap c (h i (by simp)) w;have h2:=part_cap d (h i (by simp)) w;have h3:=run_eq_cap hN (hc.at i) (hd.at i) q w;have ih:=eq_items hN hc hd q w is (fun j hj=>h j (by simp [hj]));simp only [Op.eqItems,Sem.run_bind,h1,h2,h3,Result.andThen_ok,List.all_cons];by_cases e:gr c i = gr d i
  · rw [decide_eq_true e];simpa using ih
  · rw [decide_eq_false e];simp
theorem run_eq_caps {ty:TypeId} (hu:Tryz.prog.underlying ty = some (.array 10 31)) {N:Nat} (hN:N <= 999999999) {c d:Caps} (hc:CapsOk N c) (hd:CapsOk N d) (q:Nat) (w:World) :
  (Op.equalIn (q + 2) ty (CV c) (CV d)).run Tryz.prog w = .ok (decide (c = d)) w:=by
 obtain ⟨i,hi⟩:=info_of_underlying Tryz.underlying31;have e:((List.range 10).all fun i=>decide (gr c i = gr d i)) = decide (c = d):=by
  rw [Bool.eq_iff_iff,List.all_eq_true,decide_eq_true_eq];constructor
  · intro h;exact caps_ext hc.len hd.len fun n hn=>of_decide_eq_true (h n (List.mem_range.2 hn))
  · rintro rfl n _;exact decide_eq_true rfl
 rw [run_equalIn_array w (q + 1) (CC c) (CC d) hu hi,cell1,eq_items hN hc hd q w _ (fun i hi=>List.mem_range.1 hi),e]
structure Keys (K:Type) where
 ty:TypeId
 enc:K -> Value
 ok:K -> Prop
 desc:∃ fs,Tryz.prog.underlying ty = some (.struct fs)
 eq:∀ a b,ok a -> ok b -> ∀ w,∃ r,(Op.equal ty (enc a) (enc b)).run Tryz.prog w = .ok r w /\ (r = true ↔ enc a = enc b)
 check:∀ a,ok a -> ∀ em w,(Instr.checkKey em 10000 ty (enc a)).run Tryz.prog w = .ok () w
 same:∀ a,ok a -> Instr.sameBits 10000 (enc a) (enc a) = true
section
variable {K:Type} (M:Keys K)
def KeysIn (es:Array MapEntry):Prop:=∀ e ∈ es.toList,∃ k,M.ok k /\ e.key = M.enc k
theorem find_run {k:K} (hk:M.ok k):∀ (es:List MapEntry) (i:Nat),(∀ e ∈ es,∃ k,M.ok k /\ e.key = M.enc k) ->
  ∃ r,(∀ w,(Instr.findAsking M.ty (M.enc k) es i).run Tryz.prog w = .ok r w) /\ (r = none \/ ∃ j e,r = some (i + j,e.val) /\ es[j]? = some e /\ e.key = M.enc k)
 | [],i,_=>⟨none,fun w=>by simp [Instr.findAsking],Or.inl rfl⟩
 | e :: es,i,h=>by
  obtain ⟨k2,h2,he⟩:=h e (by simp);obtain ⟨r,h3,h4⟩:=find_run hk es (i + 1) (fun e he=>h e (by simp [he]));by_cases hq:M.enc k = M.enc k2
  · refine ⟨some (i,e.val),fun w=>?_,Or.inr ⟨0,e,rfl,rfl,by rw [he,hq]⟩⟩;obtain ⟨b,hb,hbi⟩:=M.eq k k2 hk h2 w;rw [hbi.2 hq] at hb;unfold Instr.findAsking;rw [he];simp [Sem.run_bind,hb]
  ·
   refine ⟨r,fun w=>?_,?_⟩
   · obtain ⟨b,hb,hbi⟩:=M.eq k k2 hk h2 w;(have hbf:b = false:=by cases b;rfl;exact absurd (hbi.1 rfl) hq);rw [hbf] at hb;unfold Instr.findAsking;rw [he];simp [Sem.run_bind,hb,h3 w]
   ·
    rcases h4 with h4 | ⟨j,e2,h5,h6,h7⟩
    · exact Or.inl h4
    · exact Or.inr ⟨j + 1,e2,by rw [h5];congr 2;omega,by simpa using h6,h7⟩
theorem key_run {k:K} (hk:M.ok k) {es:Array MapEntry} (h:KeysIn M es) :
  ∃ r,(∀ w,(Instr.findKey M.ty (M.enc k) es.toList).run Tryz.prog w = .ok r w) /\ (r = none \/ ∃ j e,r = some (j,e.val) /\ es[j]? = some e /\ e.key = M.enc k):=by
 obtain ⟨fs,hd⟩:=M.desc;obtain ⟨r,h1,h2⟩:=find_run M hk es.toList 0 h;have hr:r = none \/ ∃ j e,r = some (j,e.val) /\ es[j]? = some e /\ e.key = M.enc k:=by
  rcases h2 with h2 | ⟨j,e,h3,h4,h5⟩
  · exact Or.inl h2
  · exact Or.inr ⟨j,e,by rw [h3,Nat.zero_add],by simpa using h4,h5⟩
 refine ⟨r,fun w=>?_,hr⟩;unfold Instr.findKey;simp only [Sem.run_bind,run_underlying hd,Result.andThen_ok];cases hes:es.toList with
 | nil =>
  rw [hes] at h1;have:=h1 w;simp [Instr.findAsking] at this;simp [Instr.findNow,this]
 | cons e l =>
  have:Instr.findNow (.struct fs) (M.enc k) (e :: l) 0 = none:=by
   unfold Instr.findNow;have hs:Instr.sameNow (.struct fs) (M.enc k) e.key = none:=by
    unfold Instr.sameNow;split <;> simp_all
   rw [hs]
  rw [this,<- hes];exact h1 w
theorem look_run {mt et:TypeId} (ht:Tryz.prog.underlying mt = some (.map M.ty et)) {z:Value} (hz:∀ w,(zeroValue et).run Tryz.prog w = .ok z w) {k:K} (hk:M.ok k) {es:Array MapEntry} (h:KeysIn M es) :
  ∃ v b,(∀ (w:World) (bm clk:Nat),w.heap[bm]? = some (.map es clk) -> (Instr.lookup mt (.map (some bm)) (M.enc k) true).run Tryz.prog w = .ok (.tuple #[v,.bool b]) w) /\
   ((b = false /\ v = z) \/ (b = true /\ ∃ e ∈ es.toList,e.key = M.enc k /\ v = e.val)):=by
 obtain ⟨r,h1,h2⟩:=key_run M hk h;rcases h2 with rfl | ⟨j,e,rfl,h4,h5⟩
 · refine ⟨z,false,fun w bm clk hb=>?_,Or.inl ⟨rfl,rfl⟩⟩;simp [Instr.lookup,run_underlying ht,MapKept.run_getObj_map hb,M.check k hk,h1 w,hz w,Result.andThen]
 ·
  refine ⟨e.val,true,fun w bm clk hb=>?_,Or.inr ⟨rfl,e,?_,h5,rfl⟩⟩
  · simp [Instr.lookup,run_underlying ht,MapKept.run_getObj_map hb,M.check k hk,h1 w,Result.andThen]
  · exact Array.mem_toList_iff.2 (Array.mem_of_getElem? h4)
theorem put_run {mt et:TypeId} (ht:Tryz.prog.underlying mt = some (.map M.ty et)) {k:K} (hk:M.ok k) {es:Array MapEntry} (h:KeysIn M es) (v:Value) (w:World) (bm clk:Nat) (hb:w.heap[bm]? = some (.map es clk)) :
  ∃ es' clk',(Instr.mapUpdate mt (.map (some bm)) (M.enc k) v).run Tryz.prog w = .ok () (ChangeMaps.setBlock w bm (.map es' clk')) /\ ∀ e ∈ es'.toList,e ∈ es.toList \/ (e.key = M.enc k /\ e.val = v):=by
 obtain ⟨r,h1,h2⟩:=key_run M hk h;rcases h2 with rfl | ⟨j,e,rfl,h4,h5⟩
 ·
  refine ⟨es.push ⟨M.enc k,v,clk⟩,clk + 1,?_,fun e he=>?_⟩
  · simp [Instr.mapUpdate,run_underlying ht,MapKept.run_getObj_map hb,M.check k hk,h1 w,MapKept.run_setObj_map _ hb,Result.andThen,ChangeMaps.setBlock]
  ·
   simp only [Array.toList_push,List.mem_append,List.mem_singleton] at he;rcases he with he | he
   · exact Or.inl he
   · subst he;exact Or.inr ⟨rfl,rfl⟩
 ·
  refine ⟨es.modify j fun e=>{ e with key:=M.enc k,val:=v },clk,?_,fun e2 he=>?_⟩
  ·
   have hs:=M.same k hk;have hkt:(Instr.keyThatStays (M.enc k) (M.enc k)).run Tryz.prog w = .ok (M.enc k) w:=by
    unfold Instr.keyThatStays;rw [if_pos hs];rfl
   simp [Instr.mapUpdate,run_underlying ht,MapKept.run_getObj_map hb,M.check k hk,h1 w,h4,h5,hkt,MapKept.run_setObj_map _ hb,Result.andThen,ChangeMaps.setBlock]
  ·
   obtain ⟨n,hn,rfl⟩:=List.mem_iff_getElem.1 he;simp only [Array.getElem_toList,Array.getElem_modify];split
   · exact Or.inr ⟨rfl,rfl⟩
   · exact Or.inl (by simp)
end
end Go.Proofs.YtinallojhkaogaaGreatDoor.Mt
namespace Go.Proofs.YtinallojhkaogaaGreatDoor.Rx
open Go.RowKit Go.Shelf
open St (Wf word zeroW ext_word wf_zero)
theorem word_eq {s t:List Nat} (hs:Wf s) (ht:Wf t):s = t ↔ (word s 0 = word t 0 /\ word s 1 = word t 1 /\ word s 2 = word t 2 /\ word s 3 = word t 3):=by
 constructor
 · rintro rfl;simp
 ·
  rintro ⟨h0,h1,h2,h3⟩;refine ext_word hs ht fun i hi=>?_
  match i,hi with
  | 0,_=>exact h0
  | 1,_=>exact h1
  | 2,_=>exact h2
  | 3,_=>exact h3
theorem run_eqN (n m:Nd) (hn:Wf n.s) (hm:Wf m.s) (w:World):(Op.equalIn 10000 72 (NV n) (NV m)).run Tryz.prog w = .ok (decide (n = m)) w:=by
 obtain ⟨k,s,a,b,mn,mx,x⟩:=n;obtain ⟨k',s',a',b',mn',mx',x'⟩:=m;dsimp only at hn hm;(have H4:=fun W=>run_eq4g (word s 0) (word s 1) (word s 2) (word s 3) (word s' 0) (word s' 1) (word s' 2) (word s' 3) 9997 W);(have ne:∀ {p q:Int},p ≠ q -> (p == q) = false:=fun h=>by simpa using h);by_cases hk:k = k'
 ·
  subst hk;by_cases hs:s = s'
  ·
   subst hs;simp only [true_and,decide_true] at H4;by_cases ha:a = a'
   ·
    subst ha;by_cases hb:b = b'
    ·
     subst hb;by_cases hmn:mn = mn'
     ·
      subst hmn;by_cases hmx:mx = mx'
      ·
       subst hmx;by_cases hx:x = x'
       · subst hx;go_simp
       · have hB:=ne hx;rw [decide_eq_false (by simpa using hx)];go_simp
      · have hB:=ne hmx;rw [decide_eq_false (by simp [hmx])];go_simp
     · have hB:=ne hmn;rw [decide_eq_false (by simp [hmn])];go_simp
    · have hB:=ne hb;rw [decide_eq_false (by simp [hb])];go_simp
   · have hB:=ne ha;rw [decide_eq_false (by simp [ha])];go_simp
  ·
   have h4:(decide (word s 0 = word s' 0 /\ word s 1 = word s' 1 /\ word s 2 = word s' 2 /\ word s 3 = word s' 3)) = false:=by
    rw [decide_eq_false_iff_not,<- word_eq hn hm];exact hs
   simp only [h4] at H4;rw [decide_eq_false (by simp [hs])];go_simp
 · have hB:=ne hk;rw [decide_eq_false (by simp [hk])];go_simp
theorem lt_cell {W:World} {a:Addr} {v:Value} (h:W.cell? a = some v):a.block < W.heap.size:=by
 rcases Nat.lt_or_ge a.block W.heap.size with hl | hl
 · exact hl
 · exfalso;have hn:W.heap[a.block]? = none:=Array.getElem?_eq_none hl;unfold World.cell? at h;simp [hn] at h
abbrev NB (w:World) (b:Nat) (n:Nd):Prop:=w.heap[b]? = some (.cells (NC n) 72 (0,0))
abbrev NH (w0 w:World) (b:Nat) (n:Nd):Prop :=
 w.cell? ⟨b,0,none⟩ = some (E n.k) /\ w.cell? ⟨b,1,none⟩ = some (U (word n.s 0)) /\ w.cell? ⟨b,2,none⟩ = some (U (word n.s 1)) /\ w.cell? ⟨b,3,none⟩ = some (U (word n.s 2)) /\ w.cell? ⟨b,4,none⟩ = some (U (word n.s 3)) /\
 w.cell? ⟨b,5,none⟩ = some (E n.a) /\ w.cell? ⟨b,6,none⟩ = some (E n.b) /\ w.cell? ⟨b,7,none⟩ = some (E n.mn) /\ w.cell? ⟨b,8,none⟩ = some (E n.mx) /\ w.cell? ⟨b,9,none⟩ = some (E n.n) /\ Below w0.heap.size w0 w
theorem NB.held {w0 w:World} {b:Nat} {n:Nd} (h:NB w b n) (hb:Below w0.heap.size w0 w):NH w0 w b n:=by
 refine ⟨?_,?_,?_,?_,?_,?_,?_,?_,?_,?_,hb⟩ <;> simp [World.cell?,h]
theorem NH.below {w0 w w':World} {b:Nat} {n:Nd} (h:NH w0 w b n) (hb:Below w.heap.size w w'):NH w0 w' b n:=by
 obtain ⟨h0,h1,h2,h3,h4,h5,h6,h7,h8,h9,h⟩:=h;exact ⟨(hb.cell (lt_cell h0)).trans h0,(hb.cell (lt_cell h1)).trans h1,(hb.cell (lt_cell h2)).trans h2,(hb.cell (lt_cell h3)).trans h3,(hb.cell (lt_cell h4)).trans h4,(hb.cell (lt_cell h5)).trans h5,(hb.cell (lt_cell h6)).trans h6,(hb.cell (lt_cell h7)).trans h7,(hb.cell (lt_cell h8)).trans h8,(hb.cell (lt_cell h9)).trans h9,h.trans (hb.mono h.size)⟩
theorem NH.drew {w0 w:World} {b:Nat} {n:Nd} (h:NH w0 w b n):NH w0 w.drew b n:=by
 obtain ⟨h0,h1,h2,h3,h4,h5,h6,h7,h8,h9,h⟩:=h;exact ⟨h0,h1,h2,h3,h4,h5,h6,h7,h8,h9,h.drew⟩
theorem wf_plain {n:Nd} (h:Wf n.s):Wf (plainN n).s:=by
 unfold plainN;split
 · exact h
 ·
  repeat (split;exact wf_zero)
  exact wf_zero
theorem one_low (n:Nd) (w:World) (h:n.k < 0):Calls Tryz.prog 126 #[NV n] w fun e w'=>e = .returned (.bool false) /\ Below w.heap.size w w':=by
 (have h0B:decide (n.k < 0) = true:=by simp;omega);go_enter Tryz.func126,Tryz.ntmps126;go_wp2;go_region;go_wp2;go_ret;exact ⟨rfl,((Below.refl w.heap.size w).alloc (Nat.le_refl _) _).drew⟩
theorem one_high (n:Nd) (w:World) (h:8 < n.k):Calls Tryz.prog 126 #[NV n] w fun e w'=>e = .returned (.bool false) /\ Below w.heap.size w w':=by
 (have h0B:decide (n.k < 0) = false:=by simp;omega);(have h8B:decide (8 < n.k) = true:=by simp;omega);go_enter Tryz.func126,Tryz.ntmps126;go_wp2;go_region;go_wp2;go_ret;exact ⟨rfl,((Below.refl w.heap.size w).alloc (Nat.le_refl _) _).drew⟩
theorem one_ne (n:Nd) (w:World) (h0:0 <= n.k) (h8:n.k <= 8) (hw:Wf n.s) (hne:n ≠ plainN n):Calls Tryz.prog 126 #[NV n] w fun e w'=>e = .returned (.bool false) /\ Below w.heap.size w w':=by
 (have CP:=fun W=>plain_any n W);(have HQ:=fun W=>run_eqN n (plainN n) hw (wf_plain hw) W);have HB:∀ W,(binOp .neq 72 (NV n) (NV (plainN n))).run Tryz.prog W = .ok (.bool true) W:=fun W=>by
  rw [run_neq_struct,HQ,decide_eq_false hne];rfl
 (have h0B:decide ((n).k < 0) = false:=by simp;omega);(have h8B:decide (8 < (n).k) = false:=by simp;omega);(have HG:∀ x y W,(eqGuard .neq 72 x y (NV n) (NV (plainN n))).run Tryz.prog W = .ok () W:=fun x y W=>run_eqGuard_agg W _ _ _ _ _ _ (by kernel_rfl));generalize NV (plainN n) = v at CP HB HG;clear HQ;go_enter Tryz.func126,Tryz.ntmps126;go_wp2;have HN0:NB (w.alloc (Obj.cells (NC n) 72)) w.heap.size n:=heap_alloc_new _ _;have HA0:=(Below.refl w.heap.size w).alloc (Nat.le_refl _) (Obj.cells (NC n) 72);have HS0:=NB.held (w0:=w) HN0 HA0
 go_region_held3 (fun w'=>NH w w' w.heap.size n)
  (first
   | exact HS0.drew
   | assumption
   | exact NH.below (by assumption) (by assumption))
  (first
   | (go_at_call 151;refine (CP _).mono ?_;rintro e w' ⟨rfl,hbl⟩))
 rename_i hH;have hH2:=Lib.hid hH;obtain ⟨q0,q1,q2,q3,q4,q5,q6,q7,q8,q9,_⟩:=hH;clear HS0 HA0 HN0;go_wp2;go_ret;exact ⟨rfl,hH2.out.2.2.2.2.2.2.2.2.2.2⟩
theorem one_0  (w:World)  : Calls Tryz.prog 126 #[NV ⟨0,z4,0,0,0,0,0⟩] w fun e w'=>e = .returned (.bool (decide (OneN ⟨0,z4,0,0,0,0,0⟩))) /\ Below w.heap.size w w':=by
 (have CP:=fun W=>plain_any ⟨0,z4,0,0,0,0,0⟩ W);have hpl:plainN ⟨0,z4,0,0,0,0,0⟩ = ⟨0,z4,0,0,0,0,0⟩:=rfl;(have HQ:=fun W=>run_eqN ⟨0,z4,0,0,0,0,0⟩ (plainN ⟨0,z4,0,0,0,0,0⟩) (by first | exact wf_zero | assumption) (by first | exact wf_zero | assumption) W);have HB:∀ W,(binOp .neq 72 (NV ⟨0,z4,0,0,0,0,0⟩) (NV (plainN ⟨0,z4,0,0,0,0,0⟩))).run Tryz.prog W = .ok (.bool false) W:=fun W=>by
  rw [run_neq_struct,HQ,hpl,decide_eq_true rfl];rfl
 clear hpl;(have HG:∀ x y W,(eqGuard .neq 72 x y (NV ⟨0,z4,0,0,0,0,0⟩) (NV (plainN ⟨0,z4,0,0,0,0,0⟩))).run Tryz.prog W = .ok () W:=fun x y W=>run_eqGuard_agg W _ _ _ _ _ _ (by kernel_rfl));generalize NV (plainN ⟨0,z4,0,0,0,0,0⟩) = v at CP HB HG;clear HQ;go_enter Tryz.func126,Tryz.ntmps126;go_wp2;have HN0:NB (w.alloc (Obj.cells (NC ⟨0,z4,0,0,0,0,0⟩) 72)) w.heap.size ⟨0,z4,0,0,0,0,0⟩:=heap_alloc_new _ _;have HA0:=(Below.refl w.heap.size w).alloc (Nat.le_refl _) (Obj.cells (NC ⟨0,z4,0,0,0,0,0⟩) 72);have HS0:=NB.held (w0:=w) HN0 HA0
 go_region_held3 (fun w'=>NH w w' w.heap.size ⟨0,z4,0,0,0,0,0⟩)
  (first
   | exact HS0.drew
   | assumption
   | exact NH.below (by assumption) (by assumption))
  (first
   | (go_at_call 151;refine (CP _).mono ?_;rintro e w' ⟨rfl,hbl⟩))
 rename_i hH;have hH2:=Lib.hid hH;obtain ⟨q0,q1,q2,q3,q4,q5,q6,q7,q8,q9,_⟩:=hH;clear HS0 HA0 HN0;go_wp2;(all_goals go_ret);(all_goals refine ⟨ret1 (congrArg Value.bool ?_),hH2.out.2.2.2.2.2.2.2.2.2.2⟩);all_goals first
  | (rw [decide_eq_decide];unfold OneN;simp;done)
  | (rw [decide_eq_decide];unfold OneN;simp;omega)
  | (symm;rw [decide_eq_false_iff_not];unfold OneN;simp;done)
  | (symm;rw [decide_eq_false_iff_not];unfold OneN;simp;omega)
  | (symm;rw [decide_eq_true_iff];unfold OneN;simp;done)
  | (symm;rw [decide_eq_true_iff];unfold OneN;simp;omega)
  | (rw [Bool.eq_iff_iff];unfold OneN;simp;omega)
theorem one_2  (w:World)  : Calls Tryz.prog 126 #[NV ⟨2,z4,0,0,0,0,0⟩] w fun e w'=>e = .returned (.bool (decide (OneN ⟨2,z4,0,0,0,0,0⟩))) /\ Below w.heap.size w w':=by
 (have CP:=fun W=>plain_any ⟨2,z4,0,0,0,0,0⟩ W);have hpl:plainN ⟨2,z4,0,0,0,0,0⟩ = ⟨2,z4,0,0,0,0,0⟩:=rfl;(have HQ:=fun W=>run_eqN ⟨2,z4,0,0,0,0,0⟩ (plainN ⟨2,z4,0,0,0,0,0⟩) (by first | exact wf_zero | assumption) (by first | exact wf_zero | assumption) W);have HB:∀ W,(binOp .neq 72 (NV ⟨2,z4,0,0,0,0,0⟩) (NV (plainN ⟨2,z4,0,0,0,0,0⟩))).run Tryz.prog W = .ok (.bool false) W:=fun W=>by
  rw [run_neq_struct,HQ,hpl,decide_eq_true rfl];rfl
 clear hpl;(have HG:∀ x y W,(eqGuard .neq 72 x y (NV ⟨2,z4,0,0,0,0,0⟩) (NV (plainN ⟨2,z4,0,0,0,0,0⟩))).run Tryz.prog W = .ok () W:=fun x y W=>run_eqGuard_agg W _ _ _ _ _ _ (by kernel_rfl));generalize NV (plainN ⟨2,z4,0,0,0,0,0⟩) = v at CP HB HG;clear HQ;go_enter Tryz.func126,Tryz.ntmps126;go_wp2;have HN0:NB (w.alloc (Obj.cells (NC ⟨2,z4,0,0,0,0,0⟩) 72)) w.heap.size ⟨2,z4,0,0,0,0,0⟩:=heap_alloc_new _ _;have HA0:=(Below.refl w.heap.size w).alloc (Nat.le_refl _) (Obj.cells (NC ⟨2,z4,0,0,0,0,0⟩) 72);have HS0:=NB.held (w0:=w) HN0 HA0
 go_region_held3 (fun w'=>NH w w' w.heap.size ⟨2,z4,0,0,0,0,0⟩)
  (first
   | exact HS0.drew
   | assumption
   | exact NH.below (by assumption) (by assumption))
  (first
   | (go_at_call 151;refine (CP _).mono ?_;rintro e w' ⟨rfl,hbl⟩))
 rename_i hH;have hH2:=Lib.hid hH;obtain ⟨q0,q1,q2,q3,q4,q5,q6,q7,q8,q9,_⟩:=hH;clear HS0 HA0 HN0;go_wp2;(all_goals go_ret);(all_goals refine ⟨ret1 (congrArg Value.bool ?_),hH2.out.2.2.2.2.2.2.2.2.2.2⟩);all_goals first
  | (rw [decide_eq_decide];unfold OneN;simp;done)
  | (rw [decide_eq_decide];unfold OneN;simp;omega)
  | (symm;rw [decide_eq_false_iff_not];unfold OneN;simp;done)
  | (symm;rw [decide_eq_false_iff_not];unfold OneN;simp;omega)
  | (symm;rw [decide_eq_true_iff];unfold OneN;simp;done)
  | (symm;rw [decide_eq_true_iff];unfold OneN;simp;omega)
  | (rw [Bool.eq_iff_iff];unfold OneN;simp;omega)
theorem one_3  (w:World)  : Calls Tryz.prog 126 #[NV ⟨3,z4,0,0,0,0,0⟩] w fun e w'=>e = .returned (.bool (decide (OneN ⟨3,z4,0,0,0,0,0⟩))) /\ Below w.heap.size w w':=by
 (have CP:=fun W=>plain_any ⟨3,z4,0,0,0,0,0⟩ W);have hpl:plainN ⟨3,z4,0,0,0,0,0⟩ = ⟨3,z4,0,0,0,0,0⟩:=rfl;(have HQ:=fun W=>run_eqN ⟨3,z4,0,0,0,0,0⟩ (plainN ⟨3,z4,0,0,0,0,0⟩) (by first | exact wf_zero | assumption) (by first | exact wf_zero | assumption) W);have HB:∀ W,(binOp .neq 72 (NV ⟨3,z4,0,0,0,0,0⟩) (NV (plainN ⟨3,z4,0,0,0,0,0⟩))).run Tryz.prog W = .ok (.bool false) W:=fun W=>by
  rw [run_neq_struct,HQ,hpl,decide_eq_true rfl];rfl
 clear hpl;(have HG:∀ x y W,(eqGuard .neq 72 x y (NV ⟨3,z4,0,0,0,0,0⟩) (NV (plainN ⟨3,z4,0,0,0,0,0⟩))).run Tryz.prog W = .ok () W:=fun x y W=>run_eqGuard_agg W _ _ _ _ _ _ (by kernel_rfl));generalize NV (plainN ⟨3,z4,0,0,0,0,0⟩) = v at CP HB HG;clear HQ;go_enter Tryz.func126,Tryz.ntmps126;go_wp2;have HN0:NB (w.alloc (Obj.cells (NC ⟨3,z4,0,0,0,0,0⟩) 72)) w.heap.size ⟨3,z4,0,0,0,0,0⟩:=heap_alloc_new _ _;have HA0:=(Below.refl w.heap.size w).alloc (Nat.le_refl _) (Obj.cells (NC ⟨3,z4,0,0,0,0,0⟩) 72);have HS0:=NB.held (w0:=w) HN0 HA0
 go_region_held3 (fun w'=>NH w w' w.heap.size ⟨3,z4,0,0,0,0,0⟩)
  (first
   | exact HS0.drew
   | assumption
   | exact NH.below (by assumption) (by assumption))
  (first
   | (go_at_call 151;refine (CP _).mono ?_;rintro e w' ⟨rfl,hbl⟩))
 rename_i hH;have hH2:=Lib.hid hH;obtain ⟨q0,q1,q2,q3,q4,q5,q6,q7,q8,q9,_⟩:=hH;clear HS0 HA0 HN0;go_wp2;(all_goals go_ret);(all_goals refine ⟨ret1 (congrArg Value.bool ?_),hH2.out.2.2.2.2.2.2.2.2.2.2⟩);all_goals first
  | (rw [decide_eq_decide];unfold OneN;simp;done)
  | (rw [decide_eq_decide];unfold OneN;simp;omega)
  | (symm;rw [decide_eq_false_iff_not];unfold OneN;simp;done)
  | (symm;rw [decide_eq_false_iff_not];unfold OneN;simp;omega)
  | (symm;rw [decide_eq_true_iff];unfold OneN;simp;done)
  | (symm;rw [decide_eq_true_iff];unfold OneN;simp;omega)
  | (rw [Bool.eq_iff_iff];unfold OneN;simp;omega)
theorem one_4 (a b:Int) (w:World)  : Calls Tryz.prog 126 #[NV ⟨4,z4,a,b,0,0,0⟩] w fun e w'=>e = .returned (.bool (decide (OneN ⟨4,z4,a,b,0,0,0⟩))) /\ Below w.heap.size w w':=by
 (have CP:=fun W=>plain_any ⟨4,z4,a,b,0,0,0⟩ W);have hpl:plainN ⟨4,z4,a,b,0,0,0⟩ = ⟨4,z4,a,b,0,0,0⟩:=rfl;(have HQ:=fun W=>run_eqN ⟨4,z4,a,b,0,0,0⟩ (plainN ⟨4,z4,a,b,0,0,0⟩) (by first | exact wf_zero | assumption) (by first | exact wf_zero | assumption) W);have HB:∀ W,(binOp .neq 72 (NV ⟨4,z4,a,b,0,0,0⟩) (NV (plainN ⟨4,z4,a,b,0,0,0⟩))).run Tryz.prog W = .ok (.bool false) W:=fun W=>by
  rw [run_neq_struct,HQ,hpl,decide_eq_true rfl];rfl
 clear hpl;(have HG:∀ x y W,(eqGuard .neq 72 x y (NV ⟨4,z4,a,b,0,0,0⟩) (NV (plainN ⟨4,z4,a,b,0,0,0⟩))).run Tryz.prog W = .ok () W:=fun x y W=>run_eqGuard_agg W _ _ _ _ _ _ (by kernel_rfl));generalize NV (plainN ⟨4,z4,a,b,0,0,0⟩) = v at CP HB HG;clear HQ;go_enter Tryz.func126,Tryz.ntmps126;go_wp2;have HN0:NB (w.alloc (Obj.cells (NC ⟨4,z4,a,b,0,0,0⟩) 72)) w.heap.size ⟨4,z4,a,b,0,0,0⟩:=heap_alloc_new _ _;have HA0:=(Below.refl w.heap.size w).alloc (Nat.le_refl _) (Obj.cells (NC ⟨4,z4,a,b,0,0,0⟩) 72);have HS0:=NB.held (w0:=w) HN0 HA0
 go_region_held3 (fun w'=>NH w w' w.heap.size ⟨4,z4,a,b,0,0,0⟩)
  (first
   | exact HS0.drew
   | assumption
   | exact NH.below (by assumption) (by assumption))
  (first
   | (go_at_call 151;refine (CP _).mono ?_;rintro e w' ⟨rfl,hbl⟩))
 rename_i hH;have hH2:=Lib.hid hH;obtain ⟨q0,q1,q2,q3,q4,q5,q6,q7,q8,q9,_⟩:=hH;clear HS0 HA0 HN0;go_wp2;(all_goals go_ret);(all_goals refine ⟨ret1 (congrArg Value.bool ?_),hH2.out.2.2.2.2.2.2.2.2.2.2⟩);all_goals first
  | (rw [decide_eq_decide];unfold OneN;simp;done)
  | (rw [decide_eq_decide];unfold OneN;simp;omega)
  | (symm;rw [decide_eq_false_iff_not];unfold OneN;simp;done)
  | (symm;rw [decide_eq_false_iff_not];unfold OneN;simp;omega)
  | (symm;rw [decide_eq_true_iff];unfold OneN;simp;done)
  | (symm;rw [decide_eq_true_iff];unfold OneN;simp;omega)
  | (rw [Bool.eq_iff_iff];unfold OneN;simp;omega)
theorem one_5 (a b:Int) (w:World)  : Calls Tryz.prog 126 #[NV ⟨5,z4,a,b,0,0,0⟩] w fun e w'=>e = .returned (.bool (decide (OneN ⟨5,z4,a,b,0,0,0⟩))) /\ Below w.heap.size w w':=by
 (have CP:=fun W=>plain_any ⟨5,z4,a,b,0,0,0⟩ W);have hpl:plainN ⟨5,z4,a,b,0,0,0⟩ = ⟨5,z4,a,b,0,0,0⟩:=rfl;(have HQ:=fun W=>run_eqN ⟨5,z4,a,b,0,0,0⟩ (plainN ⟨5,z4,a,b,0,0,0⟩) (by first | exact wf_zero | assumption) (by first | exact wf_zero | assumption) W);have HB:∀ W,(binOp .neq 72 (NV ⟨5,z4,a,b,0,0,0⟩) (NV (plainN ⟨5,z4,a,b,0,0,0⟩))).run Tryz.prog W = .ok (.bool false) W:=fun W=>by
  rw [run_neq_struct,HQ,hpl,decide_eq_true rfl];rfl
 clear hpl;(have HG:∀ x y W,(eqGuard .neq 72 x y (NV ⟨5,z4,a,b,0,0,0⟩) (NV (plainN ⟨5,z4,a,b,0,0,0⟩))).run Tryz.prog W = .ok () W:=fun x y W=>run_eqGuard_agg W _ _ _ _ _ _ (by kernel_rfl));generalize NV (plainN ⟨5,z4,a,b,0,0,0⟩) = v at CP HB HG;clear HQ;go_enter Tryz.func126,Tryz.ntmps126;go_wp2;have HN0:NB (w.alloc (Obj.cells (NC ⟨5,z4,a,b,0,0,0⟩) 72)) w.heap.size ⟨5,z4,a,b,0,0,0⟩:=heap_alloc_new _ _;have HA0:=(Below.refl w.heap.size w).alloc (Nat.le_refl _) (Obj.cells (NC ⟨5,z4,a,b,0,0,0⟩) 72);have HS0:=NB.held (w0:=w) HN0 HA0
 go_region_held3 (fun w'=>NH w w' w.heap.size ⟨5,z4,a,b,0,0,0⟩)
  (first
   | exact HS0.drew
   | assumption
   | exact NH.below (by assumption) (by assumption))
  (first
   | (go_at_call 151;refine (CP _).mono ?_;rintro e w' ⟨rfl,hbl⟩))
 rename_i hH;have hH2:=Lib.hid hH;obtain ⟨q0,q1,q2,q3,q4,q5,q6,q7,q8,q9,_⟩:=hH;clear HS0 HA0 HN0;go_wp2;(all_goals go_ret);(all_goals refine ⟨ret1 (congrArg Value.bool ?_),hH2.out.2.2.2.2.2.2.2.2.2.2⟩);all_goals first
  | (rw [decide_eq_decide];unfold OneN;simp;done)
  | (rw [decide_eq_decide];unfold OneN;simp;omega)
  | (symm;rw [decide_eq_false_iff_not];unfold OneN;simp;done)
  | (symm;rw [decide_eq_false_iff_not];unfold OneN;simp;omega)
  | (symm;rw [decide_eq_true_iff];unfold OneN;simp;done)
  | (symm;rw [decide_eq_true_iff];unfold OneN;simp;omega)
  | (rw [Bool.eq_iff_iff];unfold OneN;simp;omega)
theorem one_6 (a mn mx:Int) (w:World)  : Calls Tryz.prog 126 #[NV ⟨6,z4,a,0,mn,mx,0⟩] w fun e w'=>e = .returned (.bool (decide (OneN ⟨6,z4,a,0,mn,mx,0⟩))) /\ Below w.heap.size w w':=by
 (have CP:=fun W=>plain_any ⟨6,z4,a,0,mn,mx,0⟩ W);have hpl:plainN ⟨6,z4,a,0,mn,mx,0⟩ = ⟨6,z4,a,0,mn,mx,0⟩:=rfl;(have HQ:=fun W=>run_eqN ⟨6,z4,a,0,mn,mx,0⟩ (plainN ⟨6,z4,a,0,mn,mx,0⟩) (by first | exact wf_zero | assumption) (by first | exact wf_zero | assumption) W);have HB:∀ W,(binOp .neq 72 (NV ⟨6,z4,a,0,mn,mx,0⟩) (NV (plainN ⟨6,z4,a,0,mn,mx,0⟩))).run Tryz.prog W = .ok (.bool false) W:=fun W=>by
  rw [run_neq_struct,HQ,hpl,decide_eq_true rfl];rfl
 clear hpl;(have HG:∀ x y W,(eqGuard .neq 72 x y (NV ⟨6,z4,a,0,mn,mx,0⟩) (NV (plainN ⟨6,z4,a,0,mn,mx,0⟩))).run Tryz.prog W = .ok () W:=fun x y W=>run_eqGuard_agg W _ _ _ _ _ _ (by kernel_rfl));generalize NV (plainN ⟨6,z4,a,0,mn,mx,0⟩) = v at CP HB HG;clear HQ;go_enter Tryz.func126,Tryz.ntmps126;go_wp2;have HN0:NB (w.alloc (Obj.cells (NC ⟨6,z4,a,0,mn,mx,0⟩) 72)) w.heap.size ⟨6,z4,a,0,mn,mx,0⟩:=heap_alloc_new _ _;have HA0:=(Below.refl w.heap.size w).alloc (Nat.le_refl _) (Obj.cells (NC ⟨6,z4,a,0,mn,mx,0⟩) 72);have HS0:=NB.held (w0:=w) HN0 HA0
 go_region_held3 (fun w'=>NH w w' w.heap.size ⟨6,z4,a,0,mn,mx,0⟩)
  (first
   | exact HS0.drew
   | assumption
   | exact NH.below (by assumption) (by assumption))
  (first
   | (go_at_call 151;refine (CP _).mono ?_;rintro e w' ⟨rfl,hbl⟩))
 rename_i hH;have hH2:=Lib.hid hH;obtain ⟨q0,q1,q2,q3,q4,q5,q6,q7,q8,q9,_⟩:=hH;clear HS0 HA0 HN0;go_wp2;(all_goals go_ret);(all_goals refine ⟨ret1 (congrArg Value.bool ?_),hH2.out.2.2.2.2.2.2.2.2.2.2⟩);all_goals first
  | (rw [decide_eq_decide];unfold OneN;simp;done)
  | (rw [decide_eq_decide];unfold OneN;simp;omega)
  | (symm;rw [decide_eq_false_iff_not];unfold OneN;simp;done)
  | (symm;rw [decide_eq_false_iff_not];unfold OneN;simp;omega)
  | (symm;rw [decide_eq_true_iff];unfold OneN;simp;done)
  | (symm;rw [decide_eq_true_iff];unfold OneN;simp;omega)
  | (rw [Bool.eq_iff_iff];unfold OneN;simp;omega)
theorem one_7 (a m:Int) (w:World)  : Calls Tryz.prog 126 #[NV ⟨7,z4,a,0,0,0,m⟩] w fun e w'=>e = .returned (.bool (decide (OneN ⟨7,z4,a,0,0,0,m⟩))) /\ Below w.heap.size w w':=by
 (have CP:=fun W=>plain_any ⟨7,z4,a,0,0,0,m⟩ W);have hpl:plainN ⟨7,z4,a,0,0,0,m⟩ = ⟨7,z4,a,0,0,0,m⟩:=rfl;(have HQ:=fun W=>run_eqN ⟨7,z4,a,0,0,0,m⟩ (plainN ⟨7,z4,a,0,0,0,m⟩) (by first | exact wf_zero | assumption) (by first | exact wf_zero | assumption) W);have HB:∀ W,(binOp .neq 72 (NV ⟨7,z4,a,0,0,0,m⟩) (NV (plainN ⟨7,z4,a,0,0,0,m⟩))).run Tryz.prog W = .ok (.bool false) W:=fun W=>by
  rw [run_neq_struct,HQ,hpl,decide_eq_true rfl];rfl
 clear hpl;(have HG:∀ x y W,(eqGuard .neq 72 x y (NV ⟨7,z4,a,0,0,0,m⟩) (NV (plainN ⟨7,z4,a,0,0,0,m⟩))).run Tryz.prog W = .ok () W:=fun x y W=>run_eqGuard_agg W _ _ _ _ _ _ (by kernel_rfl));generalize NV (plainN ⟨7,z4,a,0,0,0,m⟩) = v at CP HB HG;clear HQ;go_enter Tryz.func126,Tryz.ntmps126;go_wp2;have HN0:NB (w.alloc (Obj.cells (NC ⟨7,z4,a,0,0,0,m⟩) 72)) w.heap.size ⟨7,z4,a,0,0,0,m⟩:=heap_alloc_new _ _;have HA0:=(Below.refl w.heap.size w).alloc (Nat.le_refl _) (Obj.cells (NC ⟨7,z4,a,0,0,0,m⟩) 72);have HS0:=NB.held (w0:=w) HN0 HA0
 go_region_held3 (fun w'=>NH w w' w.heap.size ⟨7,z4,a,0,0,0,m⟩)
  (first
   | exact HS0.drew
   | assumption
   | exact NH.below (by assumption) (by assumption))
  (first
   | (go_at_call 151;refine (CP _).mono ?_;rintro e w' ⟨rfl,hbl⟩))
 rename_i hH;have hH2:=Lib.hid hH;obtain ⟨q0,q1,q2,q3,q4,q5,q6,q7,q8,q9,_⟩:=hH;clear HS0 HA0 HN0;go_wp2;(all_goals go_ret);(all_goals refine ⟨ret1 (congrArg Value.bool ?_),hH2.out.2.2.2.2.2.2.2.2.2.2⟩);all_goals first
  | (rw [decide_eq_decide];unfold OneN;simp;done)
  | (rw [decide_eq_decide];unfold OneN;simp;omega)
  | (symm;rw [decide_eq_false_iff_not];unfold OneN;simp;done)
  | (symm;rw [decide_eq_false_iff_not];unfold OneN;simp;omega)
  | (symm;rw [decide_eq_true_iff];unfold OneN;simp;done)
  | (symm;rw [decide_eq_true_iff];unfold OneN;simp;omega)
  | (rw [Bool.eq_iff_iff];unfold OneN;simp;omega)
theorem one_8 (m:Int) (w:World)  : Calls Tryz.prog 126 #[NV ⟨8,z4,0,0,0,0,m⟩] w fun e w'=>e = .returned (.bool (decide (OneN ⟨8,z4,0,0,0,0,m⟩))) /\ Below w.heap.size w w':=by
 (have CP:=fun W=>plain_any ⟨8,z4,0,0,0,0,m⟩ W);have hpl:plainN ⟨8,z4,0,0,0,0,m⟩ = ⟨8,z4,0,0,0,0,m⟩:=rfl;(have HQ:=fun W=>run_eqN ⟨8,z4,0,0,0,0,m⟩ (plainN ⟨8,z4,0,0,0,0,m⟩) (by first | exact wf_zero | assumption) (by first | exact wf_zero | assumption) W);have HB:∀ W,(binOp .neq 72 (NV ⟨8,z4,0,0,0,0,m⟩) (NV (plainN ⟨8,z4,0,0,0,0,m⟩))).run Tryz.prog W = .ok (.bool false) W:=fun W=>by
  rw [run_neq_struct,HQ,hpl,decide_eq_true rfl];rfl
 clear hpl;(have HG:∀ x y W,(eqGuard .neq 72 x y (NV ⟨8,z4,0,0,0,0,m⟩) (NV (plainN ⟨8,z4,0,0,0,0,m⟩))).run Tryz.prog W = .ok () W:=fun x y W=>run_eqGuard_agg W _ _ _ _ _ _ (by kernel_rfl));generalize NV (plainN ⟨8,z4,0,0,0,0,m⟩) = v at CP HB HG;clear HQ;go_enter Tryz.func126,Tryz.ntmps126;go_wp2;have HN0:NB (w.alloc (Obj.cells (NC ⟨8,z4,0,0,0,0,m⟩) 72)) w.heap.size ⟨8,z4,0,0,0,0,m⟩:=heap_alloc_new _ _;have HA0:=(Below.refl w.heap.size w).alloc (Nat.le_refl _) (Obj.cells (NC ⟨8,z4,0,0,0,0,m⟩) 72);have HS0:=NB.held (w0:=w) HN0 HA0
 go_region_held3 (fun w'=>NH w w' w.heap.size ⟨8,z4,0,0,0,0,m⟩)
  (first
   | exact HS0.drew
   | assumption
   | exact NH.below (by assumption) (by assumption))
  (first
   | (go_at_call 151;refine (CP _).mono ?_;rintro e w' ⟨rfl,hbl⟩))
 rename_i hH;have hH2:=Lib.hid hH;obtain ⟨q0,q1,q2,q3,q4,q5,q6,q7,q8,q9,_⟩:=hH;clear HS0 HA0 HN0;go_wp2;(all_goals go_ret);(all_goals refine ⟨ret1 (congrArg Value.bool ?_),hH2.out.2.2.2.2.2.2.2.2.2.2⟩);all_goals first
  | (rw [decide_eq_decide];unfold OneN;simp;done)
  | (rw [decide_eq_decide];unfold OneN;simp;omega)
  | (symm;rw [decide_eq_false_iff_not];unfold OneN;simp;done)
  | (symm;rw [decide_eq_false_iff_not];unfold OneN;simp;omega)
  | (symm;rw [decide_eq_true_iff];unfold OneN;simp;done)
  | (symm;rw [decide_eq_true_iff];unfold OneN;simp;omega)
  | (rw [Bool.eq_iff_iff];unfold OneN;simp;omega)
theorem one_1 (s:List Nat) (w:World) (hs:Wf s):Calls Tryz.prog 126 #[NV ⟨1,s,0,0,0,0,0⟩] w fun e w'=>e = .returned (.bool (decide (OneN ⟨1,s,0,0,0,0,0⟩))) /\ Below w.heap.size w w':=by
 (have CP:=fun W=>plain_any ⟨1,s,0,0,0,0,0⟩ W);have hpl:plainN ⟨1,s,0,0,0,0,0⟩ = ⟨1,s,0,0,0,0,0⟩:=rfl;(have HQ:=fun W=>run_eqN ⟨1,s,0,0,0,0,0⟩ (plainN ⟨1,s,0,0,0,0,0⟩) (by first | exact wf_zero | assumption) (by first | exact wf_zero | assumption) W);have HB:∀ W,(binOp .neq 72 (NV ⟨1,s,0,0,0,0,0⟩) (NV (plainN ⟨1,s,0,0,0,0,0⟩))).run Tryz.prog W = .ok (.bool false) W:=fun W=>by
  rw [run_neq_struct,HQ,hpl,decide_eq_true rfl];rfl
 clear hpl;(have HG:∀ x y W,(eqGuard .neq 72 x y (NV ⟨1,s,0,0,0,0,0⟩) (NV (plainN ⟨1,s,0,0,0,0,0⟩))).run Tryz.prog W = .ok () W:=fun x y W=>run_eqGuard_agg W _ _ _ _ _ _ (by kernel_rfl));generalize NV (plainN ⟨1,s,0,0,0,0,0⟩) = v at CP HB HG;clear HQ;go_enter Tryz.func126,Tryz.ntmps126;go_wp2;have HN0:NB (w.alloc (Obj.cells (NC ⟨1,s,0,0,0,0,0⟩) 72)) w.heap.size ⟨1,s,0,0,0,0,0⟩:=heap_alloc_new _ _;have HA0:=(Below.refl w.heap.size w).alloc (Nat.le_refl _) (Obj.cells (NC ⟨1,s,0,0,0,0,0⟩) 72);have HS0:=NB.held (w0:=w) HN0 HA0
 go_region_held3 (fun w'=>NH w w' w.heap.size ⟨1,s,0,0,0,0,0⟩)
  (first
   | exact HS0.drew
   | assumption
   | exact NH.below (by assumption) (by assumption))
  (first
   | (go_at_call 151;refine (CP _).mono ?_;rintro e w' ⟨rfl,hbl⟩))
 rename_i hH;have hH2:=Lib.hid hH;obtain ⟨q0,q1,q2,q3,q4,q5,q6,q7,q8,q9,_⟩:=hH;clear HS0 HA0 HN0;have HO:=Lib.hid (show decide (OneN ⟨1,s,0,0,0,0,0⟩) = !decide (s = z4) from by
  by_cases h:s = z4
  · subst h;rw [decide_eq_true rfl];show decide _ = false;rw [decide_eq_false_iff_not];unfold OneN;simp
  · rw [decide_eq_false h];show decide _ = true;rw [decide_eq_true_iff];unfold OneN;simp [h])
 have H4:∀ W,(Op.equalIn 10000 70 (.agg #[U (word s 0),U (word s 1),U (word s 2),U (word s 3)]) (.agg #[.int .u64 0,.int .u64 0,.int .u64 0,.int .u64 0])).run Tryz.prog W = .ok (decide (s = z4)) W:=fun W=>by
  have h:=run_eq4g (word s 0) (word s 1) (word s 2) (word s 3) 0 0 0 0 9998 W;rw [show (decide (word s 0 = 0 /\ word s 1 = 0 /\ word s 2 = 0 /\ word s 3 = 0)) = decide (s = z4) from by
   rw [decide_eq_decide];exact (word_eq hs wf_zero).symm] at h
  exact h
 generalize decide (s = z4) = b at H4 HO;go_wp2;go_ret;exact ⟨by rw [HO.out];exact ret1 rfl,hH2.out.2.2.2.2.2.2.2.2.2.2⟩
theorem one_fields {n:Nd} (h:plainN n = n) (h0:0 <= n.k) (h8:n.k <= 8) :
  (∃ s,n = ⟨1,s,0,0,0,0,0⟩) \/ n = ⟨0,z4,0,0,0,0,0⟩ \/ n = ⟨2,z4,0,0,0,0,0⟩ \/ n = ⟨3,z4,0,0,0,0,0⟩ \/ (∃ a b,n = ⟨4,z4,a,b,0,0,0⟩) \/ (∃ a b,n = ⟨5,z4,a,b,0,0,0⟩) \/ (∃ a mn mx,n = ⟨6,z4,a,0,mn,mx,0⟩) \/ (∃ a m,n = ⟨7,z4,a,0,0,0,m⟩) \/ (∃ m,n = ⟨8,z4,0,0,0,0,m⟩):=by
 obtain ⟨k,s,a,b,mn,mx,m⟩:=n;dsimp only at h0 h8;(have hk:k = 0 \/ k = 1 \/ k = 2 \/ k = 3 \/ k = 4 \/ k = 5 \/ k = 6 \/ k = 7 \/ k = 8:=by omega);rcases hk with rfl | rfl | rfl | rfl | rfl | rfl | rfl | rfl | rfl <;> (rw [<- h];unfold plainN;simp)
theorem one_plain {n:Nd} (h:OneN n):plainN n = n:=by
 obtain ⟨k,s,a,b,mn,mx,m⟩:=n;unfold OneN at h;dsimp only at h;rcases h with ⟨hk,rfl,rfl,rfl,rfl,rfl,rfl⟩ | ⟨rfl,hs,rfl,rfl,rfl,rfl,rfl⟩ | ⟨hk,rfl,rfl,rfl,rfl⟩ | ⟨rfl,rfl,rfl,rfl,h6,h7,h8⟩ | ⟨rfl,rfl,rfl,rfl,rfl,h6,h7⟩ | ⟨rfl,rfl,rfl,rfl,rfl,rfl,h6,h7⟩
 · rcases hk with rfl | rfl | rfl <;> rfl
 · rfl
 · rcases hk with rfl | rfl <;> rfl
 · rfl
 · rfl
 · rfl
theorem one_kind {n:Nd} (h:OneN n):0 <= n.k /\ n.k <= 8:=by
 unfold OneN at h;omega
theorem one_any (n:Nd) (w:World) (hw:Wf n.s):Calls Tryz.prog 126 #[NV n] w fun e w'=>e = .returned (.bool (decide (OneN n))) /\ Below w.heap.size w w':=by
 by_cases hl:n.k < 0
 · rw [decide_eq_false (fun h=>by have:=one_kind h;omega)];exact one_low n w hl
 by_cases hh:8 < n.k
 · rw [decide_eq_false (fun h=>by have:=one_kind h;omega)];exact one_high n w hh
 by_cases hp:n = plainN n
 ·
  rcases one_fields hp.symm (by omega) (by omega) with ⟨s,rfl⟩ | rfl | rfl | rfl | ⟨a,b,rfl⟩ | ⟨a,b,rfl⟩ | ⟨a,mn,mx,rfl⟩ | ⟨a,m,rfl⟩ | ⟨m,rfl⟩
  · exact one_1 s w hw
  · exact one_0 w
  · exact one_2 w
  · exact one_3 w
  · exact one_4 a b w
  · exact one_5 a b w
  · exact one_6 a mn mx w
  · exact one_7 a m w
  · exact one_8 m w
 · rw [decide_eq_false (fun h=>hp (one_plain h).symm)];exact one_ne n w (by omega) (by omega) hw hp
end Go.Proofs.YtinallojhkaogaaGreatDoor.Rx
