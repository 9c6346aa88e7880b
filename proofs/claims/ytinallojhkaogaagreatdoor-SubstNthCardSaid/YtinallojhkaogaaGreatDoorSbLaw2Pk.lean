/- SubstNth: of any nodes and any text. -/
import Derived.Test.YtinallojhkaogaaGreatDoorHk30
import Derived.Test.YtinallojhkaogaaGreatDoorHk31
import Derived.Test.YtinallojhkaogaaGreatDoorHk33
import Derived.Test.YtinallojhkaogaaGreatDoorSbLaw1Pk
set_option maxHeartbeats 6400000
set_option maxRecDepth 100000
namespace Go.Proofs.YtinallojhkaogaaGreatDoor.Mt
open Go.RowKit Go.Shelf
open Go.Proofs.YtinallojhkaogaaGreatDoor.Rx
open Go.Proofs.YtinallojhkaogaaGreatDoor.Rx.Tr
open Go.Proofs.YtinallojhkaogaaGreatDoor.Fn
open Go.Proofs.YtinallojhkaogaaGreatDoor.St (Wf word mem SV SV_eq ofL wf_ofL bytesL)
set_option linter.unusedVariables false
set_option linter.unusedSimpArgs false
theorem SubstNth_skip (W:World) (hL:Lay W) (ao:Option Addr) (c n:Nat) (T:List UInt8) (x:Nat)
  (hbd:∀ W':World,Calls Tryz.prog 28 #[.slice ao n c,S T] W fun e w'=>e = .returned (.bool false) ∧ W = w') :
  Calls Tryz.prog 6 #[.slice ao n c,S T,.int .u8 (x:Nat)] W fun e W'=>e = .returned (.bool true) ∧ Below W.heap.size W W':=by
 have HB0:=Lib.hid (Below.refl W.heap.size W);have HBD:=Lib.hid hbd;have HSH:=Lib.hid (fun (W':World) (hb:Below W.heap.size W W')=>sshown_any W' (hL.below hb));clear hbd hL;go_enter Tryz.func6,Tryz.ntmps6;go_wp2_with (first
  | (go_at_call 28;refine (HBD.out W).mono ?_;rintro e w1 ⟨rfl,rfl⟩)
  | (go_at_call 29;refine (HSH.out _ HB0.out).mono ?_;rintro e w2 ⟨rfl,hb⟩;have HB1:=Lib.hid (HB0.out.trans (hb.mono HB0.out.size));clear hb))
 go_ret;exact ⟨rfl,HB1.out⟩
theorem nth_core (W:World) (hL:Lay W) (hTo:ToldOk) (ao:Option Addr) (c:Nat) (l:List Nd) (hl:l.length ≤ 1000) (B:Ns W (.slice ao l.length c) l) (F:∀ n ∈ l,Wf n.s) (T:List UInt8) (hT:T.length ≤ 100) (x:Nat) (hx:x < 256)
  (hbd:∀ W':World,Calls Tryz.prog 28 #[.slice ao l.length c,S T] W fun e w'=>e = .returned (.bool true) ∧ W = w') :
  Calls Tryz.prog 6 #[.slice ao l.length c,S T,.int .u8 (x:Nat)] W fun e W'=>e = .returned (.bool true) ∧ Below W.heap.size W W':=by
 obtain ⟨k,hk⟩:∃ k,x % 6 = k:=⟨_,rfl⟩;obtain ⟨nn,hnn⟩:∃ nn,nn = 1 + k:=⟨_,rfl⟩;(have hmd:((x:Nat):Int).tmod 6 = (k:Int):=by rw [Int.tmod_eq_emod_of_nonneg (by omega),← hk];omega);(have hk6:k < 6:=by omega);(have hwn:IntKind.i64.wrap (1 + (k:Int)) = (nn:Int):=by rw [IntKind.wrap_i64];omega);(have hx0:(0:Int) ≤ (x:Int):=by omega);(have hwx:wrap64 (x:Int) = (x:Int):=by unfold wrap64;omega);obtain ⟨L,hLL⟩:∃ L,L = allF (FL l T) T.length:=⟨_,rfl⟩;(have hrow:Row T.length L:=by rw [hLL];exact row_all (fl_ok l T));(have hlen:L.length ≤ 1000:=by have:=hrow.len;omega);obtain ⟨R1,hR1⟩:∃ R,R = subP T (fun c=>fillP T c [⟨[120],-1⟩]) (nn:Int) false L:=⟨_,rfl⟩;obtain ⟨R2,hR2⟩:∃ R,R = subP T (fun c=>fillP T c []) (nn:Int) true L:=⟨_,rfl⟩;have HN1:=Lib.hid (show R1.2 = (if L.length < nn then 0 else 1) from by rw [hR1];exact (sub_nth _ nn (by omega)).1);have HN2:=Lib.hid (show R2.2 = L.length - (nn - 1) from by rw [hR2];exact (sub_nth _ nn (by omega)).2.1);have HN3:=Lib.hid (show L.length < nn → R2.1 = T from by rw [hR2];exact (sub_nth _ nn (by omega)).2.2);have HN4:=Lib.hid (show R2.1.length ≤ T.length from by rw [hR2];exact sub_short hrow _ _);have HB0:=Lib.hid (Below.refl W.heap.size W);have HBD:=Lib.hid hbd;have HSH:=Lib.hid (fun (W':World) (hb:Below W.heap.size W W')=>sshown_any W' (hL.below hb));have HAL:=fun (W':World) (hb:Below W.heap.size W W')=>(show ∀ W2:World,Below W'.heap.size W' W2 → Calls Tryz.prog 10 #[.slice ao l.length c,S T] W2 fun e w'=>AllAns W2 L e w' from fun W2 hb2=>by
  rw [hLL];exact all_any none_ok ao l.length c T (by omega) (FL l T) (fl_ok l T) W2 ((fl_long B F (by omega)).below (hb.trans (hb2.mono hb.size))))
 have HSU:=Lib.hid (fun (W':World) (hb:Below W.heap.size W W') (g:Nat) (hp:PIn W' (some ⟨g,0,none⟩) [⟨[120],-1⟩]) =>
  sub_any (.slice ao l.length c) (some ⟨g,0,none⟩) 1 [⟨[120],-1⟩] T (by omega) (nn:Int) false (by simp) (by simp) L hrow W' hp (HAL W' hb) R1 hR1)
 have HSV:=Lib.hid (fun (W':World) (hb:Below W.heap.size W W') =>
  sub_any (.slice ao l.length c) none 0 [] T (by omega) (nn:Int) true (by simp) (by simp) L hrow W' (pin_nil _ _) (HAL W' hb) R2 hR2)
 have HIT:=Lib.hid (fun (W':World) (hb:Below W.heap.size W W')=>(its9_any ao c l W' (B.below hb) (by omega)).mono (R':=fun e w'=>∃ a2 c2,e = .returned (.slice a2 l.length c2) ∧ Ns w' (.slice a2 l.length c2) l ∧ Below W'.heap.size W' w') (by
  rintro e w' ⟨v,rfl,ho,hb'⟩;have hn:=own_nsR ho;obtain ⟨a2,c2,rfl,_⟩:=id hn;exact ⟨a2,c2,rfl,hn,hb'⟩))
 have HRA:=Lib.hid (fun (a2:Option Addr) (c2:Nat) (W':World) (hN:Ns W' (.slice a2 l.length c2) l)=>(rAll_any l F hTo T hT a2 c2 W' hN L hLL).mono (R':=fun e w'=>∃ be cap,e = .returned (.slice be L.length cap) ∧ Below W'.heap.size W' w') (by
  rintro e w' ⟨v,B2,rfl,ho,hb'⟩;rcases own_forms ho with ⟨rfl,h0⟩ | ⟨g,cap,rfl,_⟩
  · exact ⟨none,0,by rw [h0],hb'⟩
  · exact ⟨_,cap,rfl,hb'⟩))
 have HTL:=Lib.hid hT;have HKK:=Lib.hid (And.intro hk6 hnn);have HLEN:=Lib.hid hlen;clear hbd hL hTo hl B F hT hrow hx hk hR1 hR2 HAL hLL hlen hnn hk6;generalize l.length = n at *;obtain ⟨s1,n1⟩:=R1;obtain ⟨s2,n2⟩:=R2;dsimp only at HN1 HN2 HN3 HN4 HSU HSV;by_cases hf:L.length < nn
 ·
  (have hfi:(L.length:Int) < (nn:Int):=by omega);have h1:=HN1.out;rw [if_pos hf] at h1;(have h2:n2 = 0:=by have:=HN2.out;omega);have h3:=HN3.out hf;subst h1;subst h2;subst h3;clear hf HN1 HN2 HN3 HN4;go_enter Tryz.func6,Tryz.ntmps6;go_wp2_with (first
   | (go_at_call 28;refine (HBD.out W).mono ?_;rintro e w1 ⟨rfl,rfl⟩;clear HBD)
   | (go_at_call 29;refine (HSH.out _ HB0.out).mono ?_;rintro e w2 ⟨rfl,hb⟩;have HB1:=Lib.hid (HB0.out.trans (hb.mono HB0.out.size));clear hb HB0)
   | (go_at_call 30;refine (HIT.out _ HB1.out).mono ?_;rintro e w5 ⟨a2,c2,rfl,hn,hb⟩;have HN:=Lib.hid hn;have HB5:=Lib.hid (HB1.out.trans (hb.mono HB1.out.size));clear hb hn HB1)
   | (go_at_call 11;refine (HRA.out a2 c2 _ HN.out).mono ?_;rintro e w6 ⟨be,cb,rfl,hb⟩;have HB6:=Lib.hid (HB5.out.trans (hb.mono HB5.out.size));have HP:=Lib.hid (pin_one w6 [120] (-1));have HB7:=Lib.hid (HB6.out.alloc HB6.out.size (.cells #[S [120],E (-1)] 55));clear hb HB5 HN HB6)
   | (go_at_call 31;refine (HSU.out _ HB7.out _ HP.out).mono ?_;rintro e w8 ⟨he,hb⟩;subst he;have HB8:=Lib.hid (HB7.out.trans (hb.mono HB7.out.size));clear hb HB7 HP)
   | (go_at_call 31;refine (HSV.out _ HB8.out).mono ?_;rintro e w9 ⟨he,hb⟩;subst he;have HB9:=Lib.hid (HB8.out.trans (hb.mono HB8.out.size));clear hb HB8))
  go_ret;exact ⟨rfl,HB9.out⟩
 ·
  (have hfi:¬ (L.length:Int) < (nn:Int):=by omega);have h1:=HN1.out;rw [if_neg hf] at h1;subst h1;(have hw1:IntKind.i64.wrap ((L.length:Int) - (nn:Int)) = (L.length:Int) - (nn:Int):=by rw [IntKind.wrap_i64];have:=HLEN.out;omega);(have hw2:IntKind.i64.wrap ((L.length:Int) - (nn:Int) + 1) = (n2:Int):=by rw [IntKind.wrap_i64];have:=HLEN.out;have:=HN2.out;have:=HKK.out;omega);(have hle:((s2.length:Nat):Int) ≤ ((T.length:Nat):Int):=by have:=HN4.out;omega);(have hs1:(ByteArray.mk s2.toArray).size = s2.length:=by simp [ByteArray.size]);(have hs2:(ByteArray.mk T.toArray).size = T.length:=by simp [ByteArray.size]);clear hf HN1 HN2 HN3 HN4;go_enter Tryz.func6,Tryz.ntmps6;go_wp2_with (first
   | (go_at_call 28;refine (HBD.out W).mono ?_;rintro e w1 ⟨rfl,rfl⟩;clear HBD)
   | (go_at_call 29;refine (HSH.out _ HB0.out).mono ?_;rintro e w2 ⟨rfl,hb⟩;have HB1:=Lib.hid (HB0.out.trans (hb.mono HB0.out.size));clear hb HB0)
   | (go_at_call 30;refine (HIT.out _ HB1.out).mono ?_;rintro e w5 ⟨a2,c2,rfl,hn,hb⟩;have HN:=Lib.hid hn;have HB5:=Lib.hid (HB1.out.trans (hb.mono HB1.out.size));clear hb hn HB1)
   | (go_at_call 11;refine (HRA.out a2 c2 _ HN.out).mono ?_;rintro e w6 ⟨be,cb,rfl,hb⟩;have HB6:=Lib.hid (HB5.out.trans (hb.mono HB5.out.size));have HP:=Lib.hid (pin_one w6 [120] (-1));have HB7:=Lib.hid (HB6.out.alloc HB6.out.size (.cells #[S [120],E (-1)] 55));clear hb HB5 HN HB6)
   | (go_at_call 31;refine (HSU.out _ HB7.out _ HP.out).mono ?_;rintro e w8 ⟨he,hb⟩;subst he;have HB8:=Lib.hid (HB7.out.trans (hb.mono HB7.out.size));clear hb HB7 HP)
   | (go_at_call 31;refine (HSV.out _ HB8.out).mono ?_;rintro e w9 ⟨he,hb⟩;subst he;have HB9:=Lib.hid (HB8.out.trans (hb.mono HB8.out.size));clear hb HB8))
  go_ret;exact ⟨rfl,HB9.out⟩
theorem substNth_walk (W:World) (hL:Lay W) (ao:Option Addr) (c:Nat) (l:List Nd) (m:l.length ≤ maxLen) (B:Ns W (.slice ao l.length c) l) (F:∀ n ∈ l,Wf n.s) (a1:ByteArray) (w1:a1.size ≤ maxLen) (a2:Int) (w2:(Lit.int .u8 a2).wf = true) :
  Calls Tryz.prog 6 #[.slice ao l.length c,.string a1,.int .u8 a2] W fun e W'=>e = .returned (.bool true) ∧ Below W.heap.size W W':=by
 obtain ⟨x,rfl,hx⟩:=u8_nat w2;obtain ⟨T,rfl⟩:∃ T:List UInt8,a1 = ⟨T.toArray⟩:=⟨a1.data.toList,(Lib.mk_data a1).symm⟩;cases hb:boundedL 16 8 5 l T.length with
 | false=>exact SubstNth_skip W hL ao c l.length T x fun W'=>sbounded_any ao c l W B m T false hb.symm
 | true =>
  obtain ⟨hl,hT⟩:=bounded_len9 hb;exact nth_core W hL told_ok ao c l (by omega) B F T (by omega) x hx (fun W'=>sbounded_any ao c l W B m T true hb.symm)
end Go.Proofs.YtinallojhkaogaaGreatDoor.Mt