/- The texts RrY M6F M6N. -/
import Derived.Test.YtinallojhkaogaaGreatDoorHk29
set_option linter.unusedVariables false
set_option linter.unusedSimpArgs false
set_option maxHeartbeats 6400000
set_option maxRecDepth 100000
namespace Go.Proofs.YtinallojhkaogaaGreatDoor.Rx
open Go.RowKit Go.Shelf
open Tr
open St (Wf word zeroW wf_zero)
theorem off_false (s:NSt):offN false s = ⟨s.g,s.e,s.r,false⟩:=by unfold offN;simp
theorem thr_len (em:Bool) (t:Tr) (s:NSt):(thrT em t s).e.length = s.e.length:=by rw [thr_num];exact num_e t s
theorem thr_g (em:Bool) (t:Tr) (s:NSt):(thrT em t s).g = s.g + cnt t:=by rw [thr_num];exact num_g t s
theorem ns_root {w:World} {b0 o0 c:Nat} {l:List Nd} {t:Tr} {o:Nat} (hN:Ns w (.slice (some ⟨b0,o0,none⟩) l.length c) l) (h:At l t o):o + t.size - 1 < l.length /\ NCell w b0 (o0 + (o + t.size - 1) * 10) (t.root o):=by
 have hr:=at_root h;obtain ⟨hlt,he⟩:=List.getElem?_eq_some_iff.1 hr;obtain ⟨B,o',hq,hc⟩:=hN.at hlt;simp only [Option.some.injEq,Addr.mk.injEq,and_true] at hq;obtain ⟨rfl,rfl⟩:=hq;rw [he] at hc;exact ⟨hlt,hc⟩
theorem ns_kind {w:World} {b0 o0 c:Nat} {l:List Nd} {t:Tr} {o:Nat} (hN:Ns w (.slice (some ⟨b0,o0,none⟩) l.length c) l) (h:At l t o):w.cell? ⟨b0,o0 + (o + t.size - 1) * 10,none⟩ = some (E t.rk):=by
 have:=(ns_root hN h).2.1;rw [root_k] at this;exact this
theorem thr_any (b0 o0 c:Nat) (l:List Nd):∀ (t:Tr) (o:Nat) (s:NSt) (w:World),At l t o -> (∀ n ∈ t.nodes o,OneN n) -> Ns w (.slice (some ⟨b0,o0,none⟩) l.length c) l -> s.e.length = 10 -> 0 <= s.g -> s.g + t.size <= 1000 ->
  Calls Tryz.prog 125 #[.slice (some ⟨b0,o0,none⟩) l.length c,E ((o + t.size - 1:Nat):Int),WV s] w fun e w'=>e = .returned (WV (thrT (decide (l.length = 1)) t s)) /\ Below w.heap.size w w'
 | t,o,s,w,ha,ho,hN,he,hg0,hg1=>by
  obtain ⟨hlt,hc⟩:=ns_root hN ha;(have hi:((o + t.size - 1:Nat):Int) < ((l.length:Nat):Int):=by omega);have one:=ho _ (List.mem_of_getElem? (nodes_last t o))
  match t with
  | .e =>
   by_cases h1:l.length = 1
   · rw [show thrT (decide (l.length = 1)) .e s = s from by rw [decide_eq_true h1];exact off_true s];exact thr_0t w b0 o0 l.length c _ s hi _ _ _ _ _ _ h1 hc
   · rw [show thrT (decide (l.length = 1)) .e s = ⟨s.g,s.e,s.r,false⟩ from by rw [decide_eq_false h1];exact off_false s];exact thr_0f w b0 o0 l.length c _ s hi _ _ _ _ _ _ (by simp;omega) hc
  | .set z=>exact thr_leaf w b0 o0 l.length c _ s hi _ rfl rfl rfl rfl rfl rfl hc
  | .beg=>exact thr_leaf w b0 o0 l.length c _ s hi _ rfl rfl rfl rfl rfl rfl hc
  | .fin=>exact thr_leaf w b0 o0 l.length c _ s hi _ rfl rfl rfl rfl rfl rfl hc
  | .ref n =>
   have h19:=one_ref one;obtain ⟨m,rfl⟩:∃ m:Nat,n = (m:Int):=⟨n.toNat,by omega⟩;(have hm:m < 10:=by omega);cases hx:ex s m with
   | true =>
    rw [show thrT (decide (l.length = 1)) (.ref (m:Int)) s = ⟨s.g,s.e,true,s.ok⟩ from by
     show (⟨s.g,s.e,true,s.ok && (s.e[((m:Int)).toNat]?).getD false⟩:NSt) = _;rw [Int.toNat_natCast];unfold ex at hx;rw [hx,Bool.and_true]]
    exact thr_8t w b0 o0 l.length c _ s hi _ m _ _ _ _ hm hx hc
   | false =>
    rw [show thrT (decide (l.length = 1)) (.ref (m:Int)) s = ⟨s.g,s.e,true,false⟩ from by
     show (⟨s.g,s.e,true,s.ok && (s.e[((m:Int)).toNat]?).getD false⟩:NSt) = _;rw [Int.toNat_natCast];unfold ex at hx;rw [hx,Bool.and_false]]
    exact thr_8f w b0 o0 l.length c _ s hi _ m _ _ _ _ hm hx hc
  | .cat x y =>
   have px:=size_pos x;have py:=size_pos y;have hax:=at_left (t:=.cat x y) (x:=x) (r:=y.nodes (o + x.size) ++ [(Tr.cat x y).root o]) ha (by simp [nodes]);have hay:=at_right (t:=.cat x y) (x:=x) (y:=y) (r:=[(Tr.cat x y).root o]) ha (by simp [nodes]);(have hox:∀ n ∈ x.nodes o,OneN n:=fun n hn=>ho n (by simp [nodes,hn]));(have hoy:∀ n ∈ y.nodes (o + x.size),OneN n:=fun n hn=>ho n (by simp [nodes,hn]));have hkx:=ns_kind hN hax;have hky:=ns_kind hN hay;have hlx:=(ns_root hN hax).1;have hly:=(ns_root hN hay).1;have cx:=cnt_size x;have cp:=cnt_pos x;(have IHx:=fun (s':NSt) (h1:s'.e.length = 10) (h2:0 <= s'.g) (h3:s'.g + x.size <= 1000)=>Hd (fun W (hb:Below w.heap.size w W)=>thr_any b0 o0 c l x o s' W hax hox (hN.below hb) h1 h2 h3));(have IHy:=fun (s':NSt) (h1:s'.e.length = 10) (h2:0 <= s'.g) (h3:s'.g + y.size <= 1000)=>Hd (fun W (hb:Below w.heap.size w W)=>thr_any b0 o0 c l y (o + x.size) s' W hay hoy (hN.below hb) h1 h2 h3));simp only [size] at hg1;(have hgx:=fun s'=>thr_g (decide (l.length = 1)) x s');by_cases hgood:x.rk ≠ 4 /\ x.rk ≠ 5 /\ y.rk ≠ 5
   ·
    rw [show thrT (decide (l.length = 1)) (.cat x y) s = thrT (decide (l.length = 1)) y (thrT (decide (l.length = 1)) x s) from by
     show thrT _ y (thrT _ x (offN (decide _) s)) = _;rw [decide_eq_true hgood,off_true]]
    exact thr_4g w b0 o0 l.length c _ s hi _ (o + x.size - 1) (o + x.size + y.size - 1) _ _ _ x.rk y.rk (thrT (decide (l.length = 1)) x s) _ (by omega) (by omega) hkx hky (by simpa using hgood.1) (by simpa using hgood.2.1) (by simpa using hgood.2.2)
     (IHx s he hg0 (by omega)) (IHy _ (by rw [thr_len];exact he) (by rw [hgx];omega) (by rw [hgx];omega)) hc
   ·
    rw [show thrT (decide (l.length = 1)) (.cat x y) s = thrT (decide (l.length = 1)) y (thrT (decide (l.length = 1)) x ⟨s.g,s.e,s.r,false⟩) from by
     show thrT _ y (thrT _ x (offN (decide _) s)) = _;rw [decide_eq_false hgood,off_false]]
    have Hx:=IHx ⟨s.g,s.e,s.r,false⟩ he hg0 (by show s.g + (x.size:Int) <= 1000;omega);have Hy:=IHy (thrT (decide (l.length = 1)) x ⟨s.g,s.e,s.r,false⟩) (by rw [thr_len];exact he) (by rw [hgx];show 0 <= s.g + cnt x;omega) (by rw [hgx];show s.g + cnt x + (y.size:Int) <= 1000;omega);by_cases k4:x.rk = 4
    · exact thr_4a w b0 o0 l.length c _ s hi _ (o + x.size - 1) (o + x.size + y.size - 1) _ _ _ x.rk y.rk _ _ (by omega) (by omega) hkx hky k4 Hx Hy hc
    by_cases k5:x.rk = 5
    · exact thr_4b w b0 o0 l.length c _ s hi _ (o + x.size - 1) (o + x.size + y.size - 1) _ _ _ x.rk y.rk _ _ (by omega) (by omega) hkx hky k5 Hx Hy hc
    have y5:y.rk = 5:=by
     by_cases q:y.rk = 5
     · exact q
     · exact absurd ⟨k4,k5,q⟩ hgood
    exact thr_4c w b0 o0 l.length c _ s hi _ (o + x.size - 1) (o + x.size + y.size - 1) _ _ _ x.rk y.rk _ _ (by omega) (by omega) hkx hky (by simpa using k4) (by simpa using k5) y5 Hx Hy hc
  | .alt x y =>
   have px:=size_pos x;have py:=size_pos y;have hax:=at_left (t:=.alt x y) (x:=x) (r:=y.nodes (o + x.size) ++ [(Tr.alt x y).root o]) ha (by simp [nodes]);have hay:=at_right (t:=.alt x y) (x:=x) (y:=y) (r:=[(Tr.alt x y).root o]) ha (by simp [nodes]);(have hox:∀ n ∈ x.nodes o,OneN n:=fun n hn=>ho n (by simp [nodes,hn]));(have hoy:∀ n ∈ y.nodes (o + x.size),OneN n:=fun n hn=>ho n (by simp [nodes,hn]));have hkx:=ns_kind hN hax;have hky:=ns_kind hN hay;have hlx:=(ns_root hN hax).1;have hly:=(ns_root hN hay).1;have cx:=cnt_size x;have cp:=cnt_pos x;(have IHx:=fun (s':NSt) (h1:s'.e.length = 10) (h2:0 <= s'.g) (h3:s'.g + x.size <= 1000)=>Hd (fun W (hb:Below w.heap.size w W)=>thr_any b0 o0 c l x o s' W hax hox (hN.below hb) h1 h2 h3));(have IHy:=fun (s':NSt) (h1:s'.e.length = 10) (h2:0 <= s'.g) (h3:s'.g + y.size <= 1000)=>Hd (fun W (hb:Below w.heap.size w W)=>thr_any b0 o0 c l y (o + x.size) s' W hay hoy (hN.below hb) h1 h2 h3));simp only [size] at hg1;(have hgx:=fun s'=>thr_g (decide (l.length = 1)) x s');by_cases k5:x.rk = 5
   ·
    rw [show thrT (decide (l.length = 1)) (.alt x y) s = thrT (decide (l.length = 1)) y (thrT (decide (l.length = 1)) x ⟨s.g,s.e,s.r,false⟩) from by
     show thrT _ y (thrT _ x (offN (decide _) s)) = _;rw [show (decide (x.rk ≠ 5)) = false from decide_eq_false (fun q=>q k5),off_false]]
    have Hx:=IHx ⟨s.g,s.e,s.r,false⟩ he hg0 (by show s.g + (x.size:Int) <= 1000;omega);have Hy:=IHy (thrT (decide (l.length = 1)) x ⟨s.g,s.e,s.r,false⟩) (by rw [thr_len];exact he) (by rw [hgx];show 0 <= s.g + cnt x;omega) (by rw [hgx];show s.g + cnt x + (y.size:Int) <= 1000;omega);exact thr_5b w b0 o0 l.length c _ s hi _ (o + x.size - 1) (o + x.size + y.size - 1) _ _ _ x.rk y.rk _ _ (by omega) (by omega) hkx hky k5 Hx Hy hc
   ·
    rw [show thrT (decide (l.length = 1)) (.alt x y) s = thrT (decide (l.length = 1)) y (thrT (decide (l.length = 1)) x s) from by
     show thrT _ y (thrT _ x (offN (decide _) s)) = _;rw [show (decide (x.rk ≠ 5)) = true from decide_eq_true k5,off_true]]
    exact thr_5g w b0 o0 l.length c _ s hi _ (o + x.size - 1) (o + x.size + y.size - 1) _ _ _ x.rk y.rk (thrT (decide (l.length = 1)) x s) _ (by omega) (by omega) hkx hky (by simpa using k5)
     (IHx s he hg0 (by omega)) (IHy _ (by rw [thr_len];exact he) (by rw [hgx];omega) (by rw [hgx];omega)) hc
  | .times mn mx x =>
   have px:=size_pos x;have hax:=at_left (t:=.times mn mx x) (x:=x) (r:=[(Tr.times mn mx x).root o]) ha (by simp [nodes]);(have hox:∀ n ∈ x.nodes o,OneN n:=fun n hn=>ho n (by simp [nodes,hn]));have hkx:=ns_kind hN hax;have hlx:=(ns_root hN hax).1;(have IHx:=fun (s':NSt) (h1:s'.e.length = 10) (h2:0 <= s'.g) (h3:s'.g + x.size <= 1000)=>Hd (fun W (hb:Below w.heap.size w W)=>thr_any b0 o0 c l x o s' W hax hox (hN.below hb) h1 h2 h3));simp only [size] at hg1;by_cases hgood:x.rk = 1 \/ x.rk = 7 \/ x.rk = 8
   ·
    rw [show thrT (decide (l.length = 1)) (.times mn mx x) s = thrT (decide (l.length = 1)) x s from by
     show thrT _ x (offN (decide _) s) = _;rw [decide_eq_true hgood,off_true]]
    rcases hgood with k | k | k
    · exact thr_61 w b0 o0 l.length c _ s hi _ (o + x.size - 1) _ _ _ _ x.rk _ (by omega) hkx k (IHx s he hg0 (by omega)) hc
    · exact thr_67 w b0 o0 l.length c _ s hi _ (o + x.size - 1) _ _ _ _ x.rk _ (by omega) hkx k (IHx s he hg0 (by omega)) hc
    · exact thr_68 w b0 o0 l.length c _ s hi _ (o + x.size - 1) _ _ _ _ x.rk _ (by omega) hkx k (IHx s he hg0 (by omega)) hc
   ·
    rw [show thrT (decide (l.length = 1)) (.times mn mx x) s = thrT (decide (l.length = 1)) x ⟨s.g,s.e,s.r,false⟩ from by
     show thrT _ x (offN (decide _) s) = _;rw [decide_eq_false hgood,off_false]]
    exact thr_6f w b0 o0 l.length c _ s hi _ (o + x.size - 1) _ _ _ _ x.rk _ (by omega) hkx (by simpa using fun q=>hgood (Or.inl q)) (by simpa using fun q=>hgood (Or.inr (Or.inl q))) (by simpa using fun q=>hgood (Or.inr (Or.inr q)))
     (IHx ⟨s.g,s.e,s.r,false⟩ he hg0 (by show s.g + (x.size:Int) <= 1000;omega)) hc
  | .grp n x =>
   have px:=size_pos x;have h19:=one_grp one;obtain ⟨m,rfl⟩:∃ m:Nat,n = (m:Int):=⟨n.toNat,by omega⟩;have hax:=at_left (t:=.grp (m:Int) x) (x:=x) (r:=[(Tr.grp (m:Int) x).root o]) ha (by simp [nodes]);(have hox:∀ n ∈ x.nodes o,OneN n:=fun n hn=>ho n (by simp [nodes,hn]));have hlx:=(ns_root hN hax).1;(have IHx:=fun (s':NSt) (h1:s'.e.length = 10) (h2:0 <= s'.g) (h3:s'.g + x.size <= 1000)=>Hd (fun W (hb:Below w.heap.size w W)=>thr_any b0 o0 c l x o s' W hax hox (hN.below hb) h1 h2 h3));simp only [size] at hg1;by_cases hgm:s.g + 1 = (m:Int)
   ·
    (have e:(⟨s.g + 1,s.e,s.r,s.ok && decide ((m:Int) = s.g + 1)⟩:NSt) = ⟨s.g + 1,s.e,s.r,s.ok⟩:=by rw [decide_eq_true hgm.symm,Bool.and_true]);rw [show thrT (decide (l.length = 1)) (.grp (m:Int) x) s = ⟨(thrT (decide (l.length = 1)) x ⟨s.g + 1,s.e,s.r,s.ok⟩).g,(thrT (decide (l.length = 1)) x ⟨s.g + 1,s.e,s.r,s.ok⟩).e.set m true,(thrT (decide (l.length = 1)) x ⟨s.g + 1,s.e,s.r,s.ok⟩).r,(thrT (decide (l.length = 1)) x ⟨s.g + 1,s.e,s.r,s.ok⟩).ok⟩ from by
     simp only [thrT];rw [e,Int.toNat_natCast]]
    exact thr_7g w b0 o0 l.length c _ s hi _ (o + x.size - 1) m _ _ _ _ (by omega) (by omega) hg0 (by omega) (by rw [thr_len];exact he) hgm (IHx ⟨s.g + 1,s.e,s.r,s.ok⟩ he (by show 0 <= s.g + 1;omega) (by show s.g + 1 + (x.size:Int) <= 1000;omega)) hc
   ·
    (have e:(⟨s.g + 1,s.e,s.r,s.ok && decide ((m:Int) = s.g + 1)⟩:NSt) = ⟨s.g + 1,s.e,s.r,false⟩:=by rw [decide_eq_false (fun q=>hgm q.symm),Bool.and_false]);rw [show thrT (decide (l.length = 1)) (.grp (m:Int) x) s = ⟨(thrT (decide (l.length = 1)) x ⟨s.g + 1,s.e,s.r,false⟩).g,(thrT (decide (l.length = 1)) x ⟨s.g + 1,s.e,s.r,false⟩).e.set m true,(thrT (decide (l.length = 1)) x ⟨s.g + 1,s.e,s.r,false⟩).r,(thrT (decide (l.length = 1)) x ⟨s.g + 1,s.e,s.r,false⟩).ok⟩ from by
     simp only [thrT];rw [e,Int.toNat_natCast]]
    exact thr_7f w b0 o0 l.length c _ s hi _ (o + x.size - 1) m _ _ _ _ (by omega) (by omega) hg0 (by omega) (by rw [thr_len];exact he) (by simpa using hgm) (IHx ⟨s.g + 1,s.e,s.r,false⟩ he (by show 0 <= s.g + 1;omega) (by show s.g + 1 + (x.size:Int) <= 1000;omega)) hc
def LookA (l:List Nd) (s:NSt):Prop:=s.ok = mayL l /\ (mayL l = true -> s.g = groupsL l /\ s.r = refsL l)
def nsz:NSt:=⟨0,List.replicate 10 false,false,false⟩
theorem look_no {l:List Nd} (h:mayL l = false):LookA l nsz:=⟨by rw [h];rfl,fun q=>by rw [h] at q;cases q⟩
theorem may_len0 {l:List Nd} (h:l.length = 0):mayL l = false:=by
 unfold mayL;cases hp:patOf l with
 | none=>rfl
 | some t =>
  obtain ⟨h1,_⟩:=patOf_some hp;have:=size_pos t;rw [h1,nodes_len] at h;omega
theorem may_long {l:List Nd} (h:120 < l.length):mayL l = false:=by
 unfold mayL;cases hp:patOf l with
 | none=>rfl
 | some t =>
  obtain ⟨h1,h2⟩:=patOf_some hp;have:=h2.2.1;rw [h1,nodes_len] at h;omega
theorem all_one {l:List Nd} (h:∀ j (hj:j < l.length),OneN l[j]):∀ n ∈ l,OneN n:=by
 intro n hn;obtain ⟨j,hj,rfl⟩:=List.getElem_of_mem hn;exact h j hj
theorem wz_new (w:World):WB (w.alloc (.cells #[.bool false,.int .i64 0,.bool false,.bool false,.bool false,.bool false,.bool false,.bool false,.bool false,.bool false,.bool false,.bool false,.bool false] 162)) w.heap.size nsz:=heap_alloc_new _ _
theorem rlook_any (ao:Option Addr) (c:Nat) (l:List Nd) (w:World) (hN:Ns w (.slice ao l.length c) l) (hw:∀ n ∈ l,Wf n.s) :
  Calls Tryz.prog 95 #[.slice ao l.length c] w fun e w'=>∃ s,e = .returned (WV s) /\ LookA l s /\ Below w.heap.size w w':=by
 have HZ:=Hd (wz_new w);have HB0:=Hd ((Below.refl w.heap.size w).alloc (Nat.le_refl _) (.cells #[.bool false,.int .i64 0,.bool false,.bool false,.bool false,.bool false,.bool false,.bool false,.bool false,.bool false,.bool false,.bool false,.bool false] 162));by_cases h1:l.length = 0
 · have HA:=Hd (look_no (may_len0 h1));(have hlt:((l.length:Nat):Int) < 1:=by omega);clear h1 hN hw;go_enter Tryz.func95,Tryz.ntmps95;go_wp2;exact bodyPost_ret (v:=WV nsz) (ansW rfl rfl HZ.out Tryz.underlying162) rfl ⟨nsz,rfl,HA.out,HB0.out⟩
 by_cases h120:120 < l.length
 · have HA:=Hd (look_no (may_long h120));(have hlt:¬ ((l.length:Nat):Int) < 1:=by omega);(have hgt:(120:Int) < ((l.length:Nat):Int):=by omega);clear h1 h120 hN hw;go_enter Tryz.func95,Tryz.ntmps95;go_wp2;exact bodyPost_ret (v:=WV nsz) (ansW rfl rfl HZ.out Tryz.underlying162) rfl ⟨nsz,rfl,HA.out,HB0.out⟩
 (have hlt0:¬ ((l.length:Nat):Int) < 1:=by omega);(have hgt0:¬ (120:Int) < ((l.length:Nat):Int):=by omega);obtain ⟨b0,o0,rfl,_⟩:=hN.at (i:=0) (by omega);have HNS:=Hd (fun W (hb:Below w.heap.size w W)=>hN.below hb);have HW:=Hd (fun (k:Nat) (hk:k < l.length)=>show Wf l[k].s from hw _ (List.getElem_mem hk));clear hN hw;go_enter Tryz.func95,Tryz.ntmps95;go_wp2;go_loopw [3] (fun i wr=>∃ (k:Nat),k <= l.length /\ i = .int .i64 (k:Nat) /\ Hid (∀ j (hj:j < l.length),j < k -> OneN l[j]) /\ Hid (WB wr w.heap.size nsz) /\ Hid (Below w.heap.size w wr)) (fun i _=>l.length - (intOf i).toNat);(case atStart=>exact ⟨0,Nat.zero_le _,rfl,Hd (fun j hj h=>absurd h (by omega)),HZ,HB0⟩);case round =>
  clear HZ HB0;obtain ⟨k,hk,rfl,HO,HZ,HB⟩:=hrel;by_cases hlt:k < l.length
  ·
   (have hlt':((k:Nat):Int) < ((l.length:Nat):Int):=by omega);obtain ⟨B,o,hq,q0,q1,q2,q3,q4,q5,q6,q7,q8,q9⟩:=(HNS.out wr HB.out).at hlt;simp only [Option.some.injEq,Addr.mk.injEq,and_true] at hq;obtain ⟨rfl,rfl⟩:=hq;(have HF0:=fun W=>fields_any l[k] W (HW.out k hlt));by_cases hone:OneN l[k]
   ·
    have HK:=Hd (show ∀ j (hj:j < l.length),j < k + 1 -> OneN l[j] from fun j hj h=>by
     rcases Nat.lt_or_ge j k with q | q
     · exact HO.out j hj q
     · (obtain rfl:j = k:=by omega);exact hone)
    rw [decide_eq_true hone] at HF0;have HF:=Hd HF0;generalize l[k] = n at *;clear HF0 HO hone;go_wp2_with (go_at_call 123;refine (HF.out _).mono ?_;rintro e w2 ⟨rfl,hb⟩;have HZ2:=Hd ((hb.block _ (lt_heap' HZ.out)).trans HZ.out);have HB2:=Hd (HB.out.trans (hb.mono HB.out.size));clear hb);go_roundw;(case rel=>exact ⟨k + 1,by omega,by go_num,HK,HZ2,HB2⟩);case measure=>simp [intOf];omega
   · have HA:=Hd (look_no (may_one (fun q=>hone (q _ (List.getElem_mem hlt)))));rw [decide_eq_false hone] at HF0;have HF:=Hd HF0;generalize l[k] = n at *;clear HF0 HO hone;go_wp2_with (go_at_call 123;refine (HF.out _).mono ?_;rintro e w2 ⟨rfl,hb⟩;have HZ2:Hid (WB w2 w.heap.size nsz):=Hd ((hb.block _ (lt_heap' HZ.out)).trans HZ.out);have HB2:=Hd (HB.out.trans (hb.mono HB.out.size));clear hb;have HR:=Hd (rb_put HZ2.out nsz);have HBL:=Hd (put_below HB2.out (Nat.le_refl _) nsz);obtain ⟨⟨y0,y1,y2,y3,y4,y5,y6,y7,y8,y9,y10,y11,y12⟩,yf⟩:=HZ2.out.cells);exact bodyPost_ret (v:=WV nsz) (ansW rfl rfl HR.out Tryz.underlying162) rfl ⟨nsz,rfl,HA.out,HBL.out⟩
  ·
   (obtain rfl:k = l.length:=by omega);have hall:=all_one (fun j hj=>HO.out j hj hj);(have hl:l.length <= 120:=by omega);have HF1:=Hd (first_any b0 o0 c l (by omega) 121 ((l.length:Int) - 1) wr (HNS.out _ HB.out) (by omega) (by omega) (by omega));(have hw1:IntKind.i64.wrap (((l.length:Nat):Int) - 1) = ((l.length:Nat):Int) - 1:=by rw [IntKind.wrap_i64];omega);by_cases hf:firstF l 121 ((l.length:Int) - 1) = 0
   ·
    obtain ⟨t,ht⟩:=tree_of_first hall hf;(have hs:l.length = t.size:=by rw [ht,nodes_len]);(have HT0:=fun W hb=>thr_any b0 o0 c l t 0 num0 W (by rw [ht];exact at_self t) (by rw [<- ht];exact hall) (HNS.out W hb) rfl (by decide) (by show (0:Int) + t.size <= 1000;omega));have hm:=thr_may (t:=t) (by rw [<- ht];exact hall) (by omega);rw [show (decide (t.size = 1)) = decide (l.length = 1) from by rw [hs],<- ht] at hm;rw [show ((0 + t.size - 1:Nat):Int) = ((l.length:Nat):Int) - 1 from by omega] at HT0;generalize thrT (decide (l.length = 1)) t num0 = sf at *;rw [hf] at HF1;have HA:=Hd (show LookA l sf from hm);have HT:=Hd HT0;clear HT0 hm hs ht hf hall HO hl;go_wp2_with (first
     | (go_at_call 124;refine HF1.out.mono ?_;rintro e w2 ⟨rfl,hb⟩;have HZ2:Hid (WB w2 w.heap.size nsz):=Hd ((hb.block _ (lt_heap' HZ.out)).trans HZ.out);have HB2:=Hd (HB.out.trans (hb.mono HB.out.size));clear hb)
     | (go_at_call 125;refine (HT.out _ HB2.out).mono ?_;rintro e w3 ⟨rfl,hb⟩;have HZ3:Hid (WB w3 w.heap.size nsz):=Hd ((hb.block _ (lt_heap' HZ2.out)).trans HZ2.out);have HB3:=Hd (HB2.out.trans (hb.mono HB2.out.size));clear hb;have HR:=Hd (rb_put HZ3.out sf);have HBL:=Hd (put_below HB3.out (Nat.le_refl _) sf);obtain ⟨⟨y0,y1,y2,y3,y4,y5,y6,y7,y8,y9,y10,y11,y12⟩,yf⟩:=HZ3.out.cells))
    exact bodyPost_ret (v:=WV sf) (ansW rfl rfl HR.out Tryz.underlying162) rfl ⟨sf,rfl,HA.out,HBL.out⟩
   · have HA:=Hd (look_no (may_first hl hf));generalize firstF l 121 ((l.length:Int) - 1) = fv at *;(have hfv:(fv != 0) = true:=by simpa using hf);clear hf hall HO hl;go_wp2_with (go_at_call 124;refine HF1.out.mono ?_;rintro e w2 ⟨rfl,hb⟩;have HZ2:Hid (WB w2 w.heap.size nsz):=Hd ((hb.block _ (lt_heap' HZ.out)).trans HZ.out);have HB2:=Hd (HB.out.trans (hb.mono HB.out.size));clear hb;have HR:=Hd (rb_put HZ2.out nsz);have HBL:=Hd (put_below HB2.out (Nat.le_refl _) nsz);obtain ⟨⟨y0,y1,y2,y3,y4,y5,y6,y7,y8,y9,y10,y11,y12⟩,yf⟩:=HZ2.out.cells);exact bodyPost_ret (v:=WV nsz) (ansW rfl rfl HR.out Tryz.underlying162) rfl ⟨nsz,rfl,HA.out,HBL.out⟩
open St (Wf)
theorem groups_not {l:List Nd} (h:mayL l = false):groupsL l = 0 /\ refsL l = false:=by
 unfold mayL at h;have:patOf l = none:=by
  cases hp:patOf l with
  | none=>rfl
  | some t=>rw [hp] at h;cases h
 unfold groupsL refsL;rw [this];exact ⟨rfl,rfl⟩
theorem rmay_any (ao:Option Addr) (c:Nat) (l:List Nd) (w:World) (hN:Ns w (.slice ao l.length c) l) (hw:∀ n ∈ l,Wf n.s) :
  Calls Tryz.prog 71 #[.slice ao l.length c] w fun e w'=>e = .returned (.bool (mayL l)) /\ Below w.heap.size w w':=by
 have HK:=Hd (rlook_any ao c l w hN hw);clear hN hw;(have hfd:∀ (s:NSt) (W:World),(Instr.field 162 (WV s) 0).run Tryz.prog W = .ok (.bool s.ok) W:=fun _ _=>by kernel_rfl);go_enter Tryz.func71,Tryz.ntmps71;go_wp2_with (go_at_call 95;refine HK.out.mono ?_;rintro e w2 ⟨s,rfl,hl,hb⟩;have HA:=Hd hl;have HB:=Hd hb;clear hl hb);go_ret;exact ⟨by rw [<- HA.out.1];rfl,HB.out⟩
theorem rrefs_any (ao:Option Addr) (c:Nat) (l:List Nd) (w:World) (hN:Ns w (.slice ao l.length c) l) (hw:∀ n ∈ l,Wf n.s) :
  Calls Tryz.prog 96 #[.slice ao l.length c] w fun e w'=>e = .returned (.bool (refsL l)) /\ Below w.heap.size w w':=by
 have HK:=Hd (rlook_any ao c l w hN hw);clear hN hw;go_enter Tryz.func96,Tryz.ntmps96;cases hm:mayL l
 · have HG:=Hd (groups_not hm).2;have HM:=Hd hm;clear hm;go_wp2_with (go_at_call 95;refine HK.out.mono ?_;rintro e w2 ⟨s,rfl,hl,hb⟩;have hk:=hl.1;rw [HM.out] at hk;rw [show WV s = .agg #[.bool false,E s.g,.bool (ex s 0),.bool (ex s 1),.bool (ex s 2),.bool (ex s 3),.bool (ex s 4),.bool (ex s 5),.bool (ex s 6),.bool (ex s 7),.bool (ex s 8),.bool (ex s 9),.bool s.r] from by rw [<- hk]];have HB:=Hd ((hb.alloc hb.size (.cells #[.bool false,E s.g,.bool (ex s 0),.bool (ex s 1),.bool (ex s 2),.bool (ex s 3),.bool (ex s 4),.bool (ex s 5),.bool (ex s 6),.bool (ex s 7),.bool (ex s 8),.bool (ex s 9),.bool s.r] 162)));clear hl hb hk);go_ret;exact ⟨by rw [HG.out];rfl,HB.out⟩
 · have HM:=Hd hm;clear hm;go_wp2_with (go_at_call 95;refine HK.out.mono ?_;rintro e w2 ⟨s,rfl,hl,hb⟩;have hk:=hl.1;have HG:=Hd (hl.2 HM.out).2;rw [HM.out] at hk;rw [show WV s = .agg #[.bool true,E s.g,.bool (ex s 0),.bool (ex s 1),.bool (ex s 2),.bool (ex s 3),.bool (ex s 4),.bool (ex s 5),.bool (ex s 6),.bool (ex s 7),.bool (ex s 8),.bool (ex s 9),.bool s.r] from by rw [<- hk]];have HB:=Hd ((hb.alloc hb.size (.cells #[.bool true,E s.g,.bool (ex s 0),.bool (ex s 1),.bool (ex s 2),.bool (ex s 3),.bool (ex s 4),.bool (ex s 5),.bool (ex s 6),.bool (ex s 7),.bool (ex s 8),.bool (ex s 9),.bool s.r] 162)));clear hl hb hk);go_ret;exact ⟨by rw [<- HG.out];rfl,HB.out⟩
end Go.Proofs.YtinallojhkaogaaGreatDoor.Rx
namespace Go.Proofs.YtinallojhkaogaaGreatDoor.Mt
open Go.RowKit Go.Shelf
open Rx
open Rx.Tr
open St (Wf word mem SV SV_eq)
theorem rlongest_any (n:Nat) (ao:Option Addr) (c:Nat) (go:Option Addr) (gn gc:Nat) (T:List UInt8) (hT:T.length <= 100000) (w:World) (i:Int) (G:Nat -> Option Caps)
  (hW:∀ W,Below w.heap.size w W -> ∀ q:Nat,q <= T.length -> Calls Tryz.prog 51 #[.agg #[.slice ao n c,S T,.slice go gn gc],E i,E (q:Nat)] W fun e w'=>e = .returned (ansC (G q)) /\ Below W.heap.size W w') (R:Option Caps) (hR:R = dn G 0 (T.length + 1)) :
  Calls Tryz.prog 50 #[.agg #[.slice ao n c,S T,.slice go gn gc],E i] w fun e w'=>e = .returned (ansC R) /\ Below w.heap.size w w':=by
 have HT:=Hd (tb_start w (.slice ao n c) (.slice go gn gc) T);have HNA:=Hd (fun W=>rnone_any W);(have hsz:(ByteArray.mk T.toArray).size = T.length:=by simp [ByteArray.size]);have HWH:=Hd hW;have HRR:=Hd hR;have HTL:=Hd hT;clear hW hR hT;go_enter Tryz.func50,Tryz.ntmps50;rw [show Code.region 1 = Fz 1 from rfl];go_wp2;refine at_world (p:=fun V=>TB w V (.slice ao n c) (.slice go gn gc) T) HT.out (fun V hV=>?_);have HV:=Hd hV;have hc:=tw_cells (show TW w (.slice ao n c) (.slice go gn gc) T V from hV.bx);obtain ⟨x0,x1,x2⟩:=hc;clear hV HT;rw [show Fz 1 = Code.region 1 from rfl];go_wp2;clear x0 x1 x2;go_loopg [6] (T.length + 1) (fun m jv wr=>m <= T.length + 1 /\ ∃ k:Int,k = (m:Int) - 1 /\ jv = .int .i64 k /\ Hid (R = dn G 0 m) /\ Hid (TB w wr (.slice ao n c) (.slice go gn gc) T));(case atStart=>exact ⟨Nat.le_refl _,(T.length:Int),by omega,rfl,HRR,HV⟩);case round =>
  clear HV HRR;obtain ⟨hn,k,hk,rfl,HD,HV⟩:=hrel;cases gk with
  | zero =>
   (have hlt:¬ ((0:Int) <= k):=by omega);clear hk;go_wp2_with (first
    | (go_at_call 27;refine (HNA.out _).mono ?_;rintro e w8 ⟨rfl,hb⟩;have HE:=Hd (HV.out.below hb);clear hb)
    | (refine st6 4 25 nones HE.out.rs ?_;obtain ⟨r1,r2⟩:=HE.out.ret nones;have HR:=Hd (An r1 r2);clear r1 r2 HE;generalize World.setRow _ _ _ = W9 at HR ⊢))
   refine bodyPost_ret (res_caps6 rfl rfl HR.out.1 rfl) rfl ?_;refine ⟨?_,HR.out.2⟩;rw [HD.out];rfl
  | succ m =>
   (obtain rfl:k = (m:Int):=by omega);(have hle:(0:Int) <= (m:Int):=by omega);(have hwq:IntKind.i64.wrap ((m:Int) - 1) = (m:Int) - 1:=by rw [IntKind.wrap_i64];have:=HTL.out;omega);have HQ:=Hd (show m <= T.length from by omega);have HDN:=Hd (show R = (match G m with | some a=>some a | none=>dn G 0 m) from by rw [HD.out,dn_succ,Nat.zero_add];cases G m <;> rfl);have hq:=HWH.out _ HV.out.bel m HQ.out;obtain ⟨x0,x1,x2⟩:=tw_cells (show TW w (.slice ao n c) (.slice go gn gc) T wr from HV.out.bx);have HBX:=Hd (show wr.heap[w.heap.size]? = some (.cells #[.slice ao n c,S T,.slice go gn gc] 83 (0,0)) from HV.out.bx);clear hk hn HD;cases hc:G m with
   | none =>
    rw [hc] at HDN hq;have HCW:=Hd hq;clear hq;go_wp2_with (first
     | (go_at_call 51;refine HCW.out.mono ?_;rintro e w3 ⟨he,hb⟩;obtain rfl:e = .returned (.tuple #[CV nones,.bool false]):=he;have HV3:=Hd (HV.out.below hb);clear hb HV HCW)
     | (refine st6 7 21 nones (heap_alloc_new _ _) ?_;rw [box_laid6];have HV4:=Hd (HV3.out.box nones).1;clear HV3;generalize World.alloc _ _ = W4 at HV4 ⊢))
    go_roundg m;(case measure=>omega);case rel=>exact ⟨by have:=HQ.out;omega,_,rfl,rfl,HDN,HV4⟩
   | some a =>
    rw [hc] at HDN hq;have HCW:=Hd hq;clear hq;go_wp2_with (first
     | (go_at_call 51;refine HCW.out.mono ?_;rintro e w3 ⟨he,hb⟩;obtain rfl:e = .returned (.tuple #[CV a,.bool true]):=he;have HV3:=Hd (HV.out.below hb);clear hb HV HCW)
     | (refine st6 7 21 a (heap_alloc_new _ _) ?_;rw [box_laid6];have HV4:=Hd (HV3.out.box a).1;have HB:=Hd (HV3.out.box a).2;clear HV3;generalize World.alloc _ _ = W4 at HV4 HB ⊢)
     | (refine ld6 7 HB.out ?_)
     | (refine st6 4 24 a HV4.out.rs ?_;obtain ⟨r1,r2⟩:=HV4.out.ret a;have HR:=Hd (An r1 r2);clear r1 r2 HV4;generalize World.setRow _ _ _ = W9 at HR ⊢))
    refine bodyPost_ret (res_caps6 rfl rfl HR.out.1 rfl) rfl ?_;refine ⟨?_,HR.out.2⟩;rw [HDN.out];rfl
theorem rtables_refs (ao:Option Addr) (c:Nat) (l:List Nd) (T:List UInt8) (hn:0 < l.length) (hw:∀ n ∈ l,Wf n.s) (hr:refsL l = true) (w:World) (h:Ns w (.slice ao l.length c) l) :
  Calls Tryz.prog 72 #[.slice ao l.length c,S T] w fun e w'=>(∃ b,e = .returned (.slice (some ⟨b,0,none⟩) 0 0)) /\ Below w.heap.size w w':=by
 have hrf:=(fun (W:World) (hb:Below w.heap.size w W)=>rrefs_any ao c l W (h.below hb) hw);rw [hr] at hrf;have HRF:=Hd hrf;(have hn0:(0:Int) < (l.length:Int):=by omega);have HB0:=Hd ((Below.refl w.heap.size w).alloc (Nat.le_refl _) (.cells #[] 164));clear h hw hr hrf hn;generalize l.length = n at *;go_enter Tryz.func72,Tryz.ntmps72;go_wp2;go_loopw [5,6] (fun v av wr=>v = .slice (some ⟨w.heap.size,0,none⟩) 0 0 /\ av = .int .i64 0 /\ Hid (Below w.heap.size w wr)) (fun _ _ _=>0);(case atStart=>exact ⟨rfl,rfl,HB0⟩);case round =>
  clear HB0;obtain ⟨rfl,rfl,HB⟩:=hrel;go_wp2_with (go_at_call 96;refine (HRF.out _ HB.out).mono ?_;rintro e w2 ⟨rfl,hb⟩;have HB2:=Hd (HB.out.trans (hb.mono HB.out.size));clear hb HB);go_ret;exact ⟨⟨_,rfl⟩,HB2.out⟩
theorem rtables_yes (t:Tr) (hg:Rx.Good t) (hs:SetsOk t) (hTo:ToldOk) (T:List UInt8) (hT:T.length <= 100) (hr:refsT t = 0) (ao:Option Addr) (c:Nat) (w:World) (h:Ns w (.slice ao (t.nodes 0).length c) (t.nodes 0)) :
  Calls Tryz.prog 72 #[.slice ao (t.nodes 0).length c,S T] w fun e w'=>(∃ gb gc,e = .returned (.slice (some ⟨gb,0,none⟩) t.size gc) /\ R3 w' (.slice (some ⟨gb,0,none⟩) t.size gc) t.size t.size (T.length + 1) (FT T t)) /\ Below w.heap.size w w':=by
 have hl:=nodes_len t 0;have hw:=nodes_sets t 0 hs;(have hz:(t.nodes 0).length <= 1000:=by have:=hg.2.1;omega);(have hrf:refsL (t.nodes 0) = false:=by unfold refsL;rw [patOf_good hg];show decide (0 < refsT t) = false;rw [decide_eq_false];omega);refine (tables_any ao c (t.nodes 0) T hT hz (FT T t) w h (fun W hN=>?_) (fun k i j hji=>FT_off T t k i j hji) (fun k hk=>node_ok hT hTo hs hr k hk)).mono ?_
 · have:=rrefs_any ao c (t.nodes 0) W hN hw;rw [hrf] at this;exact this
 · rintro e w' ⟨v,rfl,hG⟩;rw [hl] at hG;have h3:=hG.r3 (size_pos t);obtain ⟨gb,gc,rfl,_⟩:=id h3;exact ⟨⟨gb,gc,rfl,h3⟩,hG.bel⟩
theorem rtables_dm (t:Tr) (hg:Rx.Good t) (hs:SetsOk t) (hTo:ToldOk) (T:List UInt8) (hT:T.length <= 100) (ao:Option Addr) (c:Nat) (w:World) (h:Ns w (.slice ao (t.nodes 0).length c) (t.nodes 0)) :
  Calls Tryz.prog 72 #[.slice ao (t.nodes 0).length c,S T] w fun e w'=>∃ gb gn gc,e = .returned (.slice (some ⟨gb,0,none⟩) gn gc) /\ DM t T (.slice ao (t.nodes 0).length c) (.slice (some ⟨gb,0,none⟩) gn gc) w' /\ Below w.heap.size w w':=by
 by_cases hr:refsT t = 0
 · refine (rtables_yes t hg hs hTo T hT hr ao c w h).mono ?_;rintro e w' ⟨⟨gb,gc,rfl,h3⟩,hb⟩;exact ⟨gb,_,gc,rfl,⟨h.below hb,Or.inr ⟨hr,h3⟩⟩,hb⟩
 · (have hrf:refsL (t.nodes 0) = true:=by unfold refsL;rw [patOf_good hg];show decide (0 < refsT t) = true;rw [decide_eq_true];omega);refine (rtables_refs ao c (t.nodes 0) T (by rw [nodes_len];exact size_pos t) (nodes_sets t 0 hs) hrf w h).mono ?_;rintro e w' ⟨⟨b,rfl⟩,hb⟩;exact ⟨b,0,0,rfl,⟨h.below hb,Or.inl ⟨by omega,_,_,rfl⟩⟩,hb⟩
abbrev ZT:Array Value:=#[.slice none 0 0,.string ⟨#[]⟩,.slice none 0 0]
theorem zt_not {w:World} {g b o:Nat} {t:TypeId} {fr:Nat × Nat} {v:Value} (hz:w.heap[g]? = some (.cells ZT t fr)) (hc:w.cell? ⟨b,o,none⟩ = some v) (h1:v ≠ .slice none 0 0) (h2:v ≠ .string ⟨#[]⟩):b ≠ g:=by
 rintro rfl;rw [Lib.cell_of_heap hz] at hc
 match o with
 | 0=>exact h1 (Option.some.inj hc).symm
 | 1=>exact h2 (Option.some.inj hc).symm
 | 2=>exact h1 (Option.some.inj hc).symm
 | o + 3=>simp at hc
theorem cell_row {w:World} {g b o:Nat} {v:Value} (row:Array Value) (hc:w.cell? ⟨b,o,none⟩ = some v) (hb:b ≠ g):(w.setRow g row).cell? ⟨b,o,none⟩ = some v:=by
 rw [<- hc];simp only [World.cell?];rw [setRow_other _ _ _ _ hb]
theorem dm_row {t:Tr} {T:List UInt8} {lv gv:Value} {w:World} {g:Nat} (h:DM t T lv gv w) (hz:w.heap[g]? = some (.cells ZT 83 (0,0))) (row:Array Value):DM t T lv gv (w.setRow g row):=by
 (have one:∀ (b o:Nat) (v:Value),v ≠ .slice none 0 0 -> v ≠ .string ⟨#[]⟩ -> w.cell? ⟨b,o,none⟩ = some v -> (w.setRow g row).cell? ⟨b,o,none⟩ = some v:=fun b o v h1 h2 hc=>cell_row row hc (zt_not hz hc h1 h2));refine ⟨?_,h.g.imp id fun q=>⟨q.1,?_⟩⟩
 · obtain ⟨ao,c,e,hc⟩:=h.ns;refine ⟨ao,c,e,fun i hi=>?_⟩;obtain ⟨b,o,ha,h0,h1,h2,h3,h4,h5,h6,h7,h8,h9⟩:=hc i hi;have hne:b ≠ g:=zt_not hz h0 (by intro q;cases q) (by intro q;cases q);exact ⟨b,o,ha,cell_row row h0 hne,cell_row row h1 hne,cell_row row h2 hne,cell_row row h3 hne,cell_row row h4 hne,cell_row row h5 hne,cell_row row h6 hne,cell_row row h7 hne,cell_row row h8 hne,cell_row row h9 hne⟩
 · obtain ⟨b,cap,e,h1,h2,h3⟩:=q.2;refine ⟨b,cap,e,h1,by simpa using h2,fun x hx=>?_⟩;obtain ⟨rv,h4,r,cap2,rfl,h5,h6,h7⟩:=h3 x hx;refine ⟨_,one b x _ (by intro q;cases q) (by intro q;cases q) h4,r,cap2,rfl,h5,by simpa using h6,fun i hi=>?_⟩;obtain ⟨q,h8,h9⟩:=h7 i hi;refine ⟨q,one r i _ (by intro q;cases q) (by intro q;cases q) h8,h9.keep (setRow_other _ _ _ _ ?_)⟩;rintro rfl;rw [h9] at hz;simp only [Option.some.injEq,Obj.cells.injEq] at hz;exact absurd hz.2.1 (by decide)
theorem rmake_no (l:List Nd) (ao:Option Addr) (c:Nat) (T:List UInt8) (w:World) (h:Ns w (.slice ao l.length c) l) (hw:∀ n ∈ l,Wf n.s) (hm:mayL l = false) :
  Calls Tryz.prog 42 #[.slice ao l.length c,S T] w fun e w'=>e = .returned (.agg ZT) /\ Below w.heap.size w w':=by
 have hmay:=(fun (W:World) (hb:Below w.heap.size w W)=>rmay_any ao c l W (h.below hb) hw);rw [hm] at hmay;have HMAY:=Hd hmay;have HB0:=Hd (An (heap_alloc_new w (.cells ZT 83)) ((Below.refl w.heap.size w).alloc (Nat.le_refl _) (.cells ZT 83)));clear h hw hm hmay;generalize l.length = n at *;go_enter Tryz.func42,Tryz.ntmps42;rw [show Code.region 1 = Fz 1 from rfl];go_wp2;refine at_world (p:=fun V=>V.heap[w.heap.size]? = some (.cells ZT 83 (0,0)) /\ Below w.heap.size w V) HB0.out (fun V hV=>?_);have HV:=Hd hV;clear hV HB0;rw [show Fz 1 = Code.region 1 from rfl];go_wp2_with (first
  | (go_at_call 71;refine (HMAY.out _ HV.out.2).mono ?_;rintro e w1 ⟨rfl,hb⟩;have HV1:=Hd (An ((hb.block _ (lt_heap' HV.out.1)).trans HV.out.1) (HV.out.2.trans (hb.mono HV.out.2.size)));clear hb HV)
  | (refine wpList_store_row rfl 83 (.tmp 4) (.tmp 8) rfl w.heap.size ZT rfl rfl _ ZT HV1.out.1 (by kernel_rfl) rfl (by simp [Value.oneCell']) ?_;simp only [Act.put,List.setIfInBounds_toArray,List.set_cons_zero,List.set_cons_succ];have HR:=Hd (An (setRow_heap _ _ _ ZT _ _ HV1.out.1) (below_setRow (B:=w.heap.size) HV1.out.2 (g:=w.heap.size) (Nat.le_refl _) ZT));generalize World.setRow _ _ _ = W9 at HR ⊢))
 refine bodyPost_ret (v:=.agg ZT) ?_ rfl ⟨rfl,HR.out.2⟩;exact results_cell_row rfl _ W9 w.heap.size 83 ZT (0,0) _ rfl HR.out.1 Tryz.underlying83 rfl (by kernel_rfl)
theorem rmake_yes (t:Tr) (hg:Rx.Good t) (hs:SetsOk t) (hTo:ToldOk) (T:List UInt8) (hT:T.length <= 100) (ao:Option Addr) (c:Nat) (w:World) (h:Ns w (.slice ao (t.nodes 0).length c) (t.nodes 0)) :
  Calls Tryz.prog 42 #[.slice ao (t.nodes 0).length c,S T] w fun e w'=>∃ gb gn gc,e = .returned (.agg #[.slice ao (t.nodes 0).length c,S T,.slice (some ⟨gb,0,none⟩) gn gc]) /\ DM t T (.slice ao (t.nodes 0).length c) (.slice (some ⟨gb,0,none⟩) gn gc) w' /\ Below w.heap.size w w':=by
 have hmay:=(fun (W:World) (hb:Below w.heap.size w W)=>rmay_any ao c (t.nodes 0) W (h.below hb) (nodes_sets t 0 hs));rw [show mayL (t.nodes 0) = true from by unfold mayL;rw [patOf_good hg];rfl] at hmay;have HMAY:=Hd hmay;have HTA:=Hd (fun (W:World) (hb:Below w.heap.size w W)=>rtables_dm t hg hs hTo T hT ao c W (h.below hb));have HB0:=Hd (An (heap_alloc_new w (.cells ZT 83)) ((Below.refl w.heap.size w).alloc (Nat.le_refl _) (.cells ZT 83)));clear h hg hs hTo hT hmay;generalize (t.nodes 0).length = n at *;go_enter Tryz.func42,Tryz.ntmps42;rw [show Code.region 1 = Fz 1 from rfl];go_wp2;refine at_world (p:=fun V=>V.heap[w.heap.size]? = some (.cells ZT 83 (0,0)) /\ Below w.heap.size w V) HB0.out (fun V hV=>?_);have HV:=Hd hV;clear hV HB0;rw [show Fz 1 = Code.region 1 from rfl];go_wp2_with (first
  | (go_at_call 71;refine (HMAY.out _ HV.out.2).mono ?_;rintro e w1 ⟨rfl,hb⟩;have HV1:=Hd (An ((hb.block _ (lt_heap' HV.out.1)).trans HV.out.1) (HV.out.2.trans (hb.mono HV.out.2.size)));clear hb HV)
  | (go_at_call 72;refine (HTA.out _ HV1.out.2).mono ?_;rintro e w2 ⟨gb,gn,gc,rfl,hdm,hb⟩;have HDM:=Hd hdm;have HV2:=Hd (An ((hb.block _ (lt_heap' HV1.out.1)).trans HV1.out.1) (HV1.out.2.trans (hb.mono HV1.out.2.size)));clear hb hdm HV1)
  | (refine wpList_store_row rfl 83 (.tmp 4) (.tmp 14) rfl w.heap.size #[.slice ao n c,S T,.slice (some ⟨gb,0,none⟩) gn gc] rfl rfl _ ZT HV2.out.1 (by kernel_rfl) rfl (by simp [Value.oneCell']) ?_;simp only [Act.put,List.setIfInBounds_toArray,List.set_cons_zero,List.set_cons_succ];have HDR:=Hd (dm_row HDM.out HV2.out.1 #[.slice ao n c,S T,.slice (some ⟨gb,0,none⟩) gn gc]);have HR:=Hd (An (setRow_heap _ _ _ #[.slice ao n c,S T,.slice (some ⟨gb,0,none⟩) gn gc] _ _ HV2.out.1) (below_setRow (B:=w.heap.size) HV2.out.2 (g:=w.heap.size) (Nat.le_refl _) #[.slice ao n c,S T,.slice (some ⟨gb,0,none⟩) gn gc]));generalize World.setRow _ _ _ = W9 at HR HDR ⊢))
 refine bodyPost_ret (v:=.agg #[.slice ao n c,S T,.slice (some ⟨gb,0,none⟩) gn gc]) ?_ rfl ⟨gb,gn,gc,rfl,HDR.out,HR.out.2⟩;exact results_cell_row rfl _ W9 w.heap.size 83 #[.slice ao n c,S T,.slice (some ⟨gb,0,none⟩) gn gc] (0,0) _ rfl HR.out.1 Tryz.underlying83 rfl (by kernel_rfl)
def wholeL (l:List Nd) (T:List UInt8) (i j:Int):Option Caps:=match patOf l with
 | none=>none
 | some t=>wholeZ T t i j
def WholeT (w:World) (tv:Value) (F:Int -> Int -> Option Caps):Prop:=∀ (W:World) (i j:Int),Below w.heap.size w W ->
 Calls Tryz.prog 51 #[tv,E i,E j] W fun e w'=>e = .returned (ansC (F i j)) /\ Below W.heap.size W w'
theorem WholeT.below {w w1:World} {tv:Value} {F:Int -> Int -> Option Caps} (h:WholeT w tv F) (hb:Below w.heap.size w w1):WholeT w1 tv F:=fun W i j hW=>h W i j (hb.trans (hW.mono hb.size))
theorem rmakeW_any (l:List Nd) (hw:∀ n ∈ l,Wf n.s) (hTo:ToldOk) (T:List UInt8) (hT:T.length <= 100) (ao:Option Addr) (c:Nat) (w:World) (h:Ns w (.slice ao l.length c) l) :
  Calls Tryz.prog 42 #[.slice ao l.length c,S T] w fun e w'=>∃ a2 n2 c2 y go gn gc,e = .returned (.agg #[.slice a2 n2 c2,S y,.slice go gn gc]) /\ (y = T \/ (y = [] /\ patOf l = none)) /\ WholeT w' (.agg #[.slice a2 n2 c2,S y,.slice go gn gc]) (wholeL l T) /\ Below w.heap.size w w':=by
 cases hp:patOf l with
 | none =>
  refine (rmake_no l ao c T w h hw (by unfold mayL;rw [hp];rfl)).mono ?_;rintro e w' ⟨rfl,hb⟩;refine ⟨none,0,0,[],none,0,0,rfl,Or.inr ⟨rfl,rfl⟩,fun W i j hW=>?_,hb⟩;rw [show wholeL l T i j = none from by unfold wholeL;rw [hp]];exact rwhole_no 0 none 0 none 0 0 [] W i j (Or.inl rfl)
 | some t =>
  obtain ⟨rfl,hg⟩:=patOf_some hp;have hs:=sets_nodes t 0 hw;refine (rmake_yes t hg hs hTo T hT ao c w h).mono ?_;rintro e w' ⟨gb,gn,gc,rfl,hM,hb⟩;refine ⟨ao,_,c,T,_,gn,gc,rfl,Or.inl rfl,fun W i j hW=>?_,hb⟩;rw [show wholeL (t.nodes 0) T i j = wholeZ T t i j from by unfold wholeL;rw [hp]];by_cases hr:0 <= i /\ i <= j /\ j <= (T.length:Int)
  · obtain ⟨i',rfl⟩:∃ i':Nat,i = (i':Int):=⟨i.toNat,by omega⟩;obtain ⟨j',rfl⟩:∃ j':Nat,j = (j':Int):=⟨j.toNat,by omega⟩;rw [wholeZ_nat T t (by omega) (by omega)];exact rwhole_yes t hg hs hTo T hT ao c _ gn gc W (hM.below hW) i' j' (by omega) (by omega) _ rfl
  · rw [wholeZ_off T t (by omega)];exact rwhole_no _ ao c _ gn gc T W i j (Or.inr (by omega))
theorem dn_none_all {α:Type} {f:Nat -> Option α} {i:Nat}:∀ {m:Nat},(∀ q,i <= q -> q < i + m -> f q = none) -> dn f i m = none
 | 0,_=>rfl
 | m + 1,h=>by
  rw [dn_succ,h (i + m) (by omega) (by omega)];exact dn_none_all fun q h1 h2=>h q h1 (by omega)
theorem dn_from0 {α:Type} {f:Nat -> Option α} {i:Nat} (h:∀ q,q < i -> f q = none):∀ m,dn f 0 (i + m) = dn f i m
 | 0=>dn_none_all fun q _ h2=>h q (by omega)
 | m + 1=>by rw [<- Nat.add_assoc,dn_succ,dn_succ,dn_from0 h m,Nat.zero_add]
theorem dn_same {α:Type} {f g:Nat -> Option α} {i:Nat}:∀ {m:Nat},(∀ q,i <= q -> q < i + m -> f q = g q) -> dn f i m = dn g i m
 | 0,_=>rfl
 | m + 1,h=>by rw [dn_succ,dn_succ,h (i + m) (by omega) (by omega),dn_same fun q h1 h2=>h q h1 (by omega)]
theorem long_dn (T:List UInt8) (t:Tr) {i:Nat} (hi:i <= T.length):longP T t i = dn (fun q=>wholeZ T t (i:Nat) (q:Nat)) 0 (T.length + 1):=by
 rw [show T.length + 1 = i + (T.length + 1 - i) by omega,dn_from0 (fun q hq=>wholeZ_off T t (by omega))];unfold longP;exact dn_same fun q h1 h2=>(wholeZ_nat T t h1 (by omega)).symm
def longL (l:List Nd) (T:List UInt8) (i:Int):Option Caps:=dn (fun q=>wholeL l T i (q:Nat)) 0 (T.length + 1)
theorem longL_none {l:List Nd} (hp:patOf l = none) (T:List UInt8) (i:Int):longL l T i = none:=dn_none_all fun q _ _=>by unfold wholeL;rw [hp]
theorem longL_some {t:Tr} (hg:Rx.Good t) (T:List UInt8) {i:Nat} (hi:i <= T.length):longL (t.nodes 0) T (i:Nat) = longP T t i:=by
 rw [long_dn T t hi];(refine dn_same fun q _ _=>?_);unfold wholeL;rw [patOf_good hg]
theorem rlongT (l:List Nd) (T:List UInt8) (hT:T.length <= 100) (a2:Option Addr) (n2 c2:Nat) (y:List UInt8) (go:Option Addr) (gn gc:Nat) (hy:y = T \/ (y = [] /\ patOf l = none)) (w:World) (hW:WholeT w (.agg #[.slice a2 n2 c2,S y,.slice go gn gc]) (wholeL l T)) (i:Int) :
  Calls Tryz.prog 50 #[.agg #[.slice a2 n2 c2,S y,.slice go gn gc],E i] w fun e w'=>e = .returned (ansC (longL l T i)) /\ Below w.heap.size w w':=by
 refine rlongest_any n2 a2 c2 go gn gc y (by rcases hy with rfl | ⟨rfl,_⟩;(· omega);(· simp)) w i (fun q=>wholeL l T i (q:Nat)) (fun W hb q hq=>hW W i (q:Nat) hb) _ ?_;rcases hy with rfl | ⟨rfl,hp⟩
 · rfl
 · rw [longL_none hp];exact (dn_none_all fun q _ _=>by unfold wholeL;rw [hp]).symm
theorem infoRq:(Tryz.prog.info? 87).map (fun i=>(i.zero,i.size,i.bytes)) = some (some (NV ⟨0,z4,0,0,0,0,0⟩),10,80):=by kernel_rfl
theorem news_atQ (w:World) (n:Nd) (B:Nat) (hB:B = w.heap.size):∀ j u,(NC n).toList[j]? = some u -> (w.alloc (.cells (NC n) 87)).cell? ((⟨B,0,none⟩:Addr).add j) = some u:=by
 intro j u hj;subst hB;rw [Addr.add_lit,Lib.cell_of_heap (heap_alloc_new _ _),Nat.zero_add];simpa using hj
theorem its9_any (ao:Option Addr) (c:Nat) (l:List Nd) (w:World) (h:Ns w (.slice ao l.length c) l) (hl:l.length <= 100000) :
  Calls Tryz.prog 30 #[.slice ao l.length c] w fun e w'=>∃ v,e = .returned v /\ w'.ownsRow w.heap.size 87 10 v l.length (flat l) /\ Below w.heap.size w w':=by
 obtain ⟨i0,hi,hz0,hz1,hz2⟩:=info_parts infoRq;have HNS:=Hd h;clear h;have HO0:Hid (∀ W:World,W.heap.size = w.heap.size -> (W.alloc (.cells #[] 87)).ownsRow w.heap.size 87 10 (.slice (some ⟨w.heap.size,0,none⟩) 0 0) 0 []):=Hd (fun W hW=>by
  have:=World.ownsRow_made (base:=w.heap.size) (e:=87) (size:=10) W #[] 0 (by omega) (by decide) rfl;rw [hW] at this;exact this)
 go_enter Tryz.func30,Tryz.ntmps30;go_wp2;go_loopw [3,4] (fun v i wr=>∃ (k:Nat),k <= l.length /\ i = .int .i64 (k:Nat) /\ Hid (wr.ownsRow w.heap.size 87 10 v k (flat (l.take k))) /\ Hid (Below w.heap.size w wr)) (fun _ i _=>l.length - (intOf i).toNat);(case atStart=>exact ⟨0,Nat.zero_le _,rfl,Hd (HO0.out _ rfl),Hd ((Below.refl _ _).alloc (Nat.le_refl _) _)⟩);case round =>
  clear HO0;obtain ⟨k,hk,rfl,HO,HB⟩:=hrel;by_cases hlt:k < l.length
  ·
   obtain ⟨B0,o0,rfl,q0,q1,q2,q3,q4,q5,q6,q7,q8,q9⟩:=(HNS.out.below HB.out).at hlt;(have hlt':((k:Nat):Int) < ((l.length:Nat):Int):=by omega);have HTK:=Hd (show flat (l.take (k + 1)) = flat (l.take k) ++ (NC l[k]).toList from by rw [List.take_succ_eq_append_getElem hlt,flat_append,flat_one]);have hone:∀ u ∈ (NC l[k]).toList,u.oneCell' = true:=by
    intro u hu;refine flat_cells [l[k]] u ?_;rw [flat_one];exact hu
   generalize l[k] = n at *;have HOA:=Hd ((HO.out.alloc (.cells (NC n) 72)).alloc (.cells (NC n) 87));have hsz:=HB.out.size;go_wp2_with (at_builtin;go_loud (refine wpList_append_own _ rfl _ _ 29 rfl w.heap.size 87 i0 _ 10 80 Tryz.underlying29 hi hz0 hz1 hz2 rfl (by decide) _ _ _ rfl HOA.out ⟨_,0,none⟩ 1 1 (NC n).toList rfl rfl (news_atQ (wr.alloc (.cells (NC n) 72)) n _ (by simp)) hone (by unfold maxLen;omega) (by omega) (by simp;omega) ?_));rintro v' w4 hown hgrow -;have HB4:=Hd (((HB.out.alloc hsz (.cells (NC n) 72)).alloc (by simp;omega) (.cells (NC n) 87)).grown hgrow (by simp;omega) (own_ge HOA.out));have HO4:=Hd (show w4.ownsRow w.heap.size 87 10 v' (k + 1) (flat (l.take (k + 1))) from by rw [HTK.out];exact hown);clear hown hgrow;go_wp2;go_roundw;(case rel=>exact ⟨k + 1,by omega,by go_num,HO4,HB4⟩);case measure=>simp [intOf];omega
  · (obtain rfl:k = l.length:=by omega);have HO2:=HO.out;rw [List.take_length] at HO2;have HO3:=Hd HO2;clear HO HO2;go_wp2;go_ret;exact ⟨_,rfl,HO3.out,HB.out⟩
end Go.Proofs.YtinallojhkaogaaGreatDoor.Mt
