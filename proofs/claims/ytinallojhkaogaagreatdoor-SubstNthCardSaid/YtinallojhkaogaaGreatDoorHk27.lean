/- The texts RrW0 RrW1. -/
import Derived.Test.YtinallojhkaogaaGreatDoorHk15
import Derived.Test.YtinallojhkaogaaGreatDoorHk26
set_option linter.unusedVariables false
set_option linter.unusedSimpArgs false
set_option maxHeartbeats 1600000
set_option maxRecDepth 100000
namespace Go.Proofs.YtinallojhkaogaaGreatDoor.Rx
open Go.RowKit Go.Shelf
open St (Wf word zeroW wf_zero)
theorem fields_0 (s:List Nat) (a b mn mx m:Int) (w:World) (hw:Wf s):Calls Tryz.prog 123 #[NV ⟨0,s,a,b,mn,mx,m⟩] w fun e w'=>e = .returned (.bool (decide (OneN ⟨0,s,a,b,mn,mx,m⟩))) /\ Below w.heap.size w w':=by
 (have HQ:=fun W=>run_eqR (plainN ⟨0,s,a,b,mn,mx,m⟩) ⟨0,s,a,b,mn,mx,m⟩ (wf_plain hw) hw W);(have HG:∀ x y W,(eqGuard .eql 87 x y (.agg #[E 0,.int .u64 0,.int .u64 0,.int .u64 0,.int .u64 0,E 0,E 0,E 0,E 0,E 0]) (NV ⟨0,s,a,b,mn,mx,m⟩)).run Tryz.prog W = .ok () W:=fun x y W=>run_eqGuard_agg W _ _ _ _ _ _ (by kernel_rfl));have HBL:=Hd ((((Below.refl w.heap.size w).alloc (Nat.le_refl _) (Obj.cells (NC ⟨0,s,a,b,mn,mx,m⟩) 87)).alloc (by simp) (Obj.cells #[E 0,.int .u64 0,.int .u64 0,.int .u64 0,.int .u64 0,E 0,E 0,E 0,E 0,E 0] 87)).alloc (by simp;omega) (Obj.cells #[.int .u64 0,.int .u64 0,.int .u64 0,.int .u64 0] 69));by_cases hp:plainN ⟨0,s,a,b,mn,mx,m⟩ = ⟨0,s,a,b,mn,mx,m⟩
 ·
  have HB:∀ W,(binOp .eql 87 (.agg #[E 0,.int .u64 0,.int .u64 0,.int .u64 0,.int .u64 0,E 0,E 0,E 0,E 0,E 0]) (NV ⟨0,s,a,b,mn,mx,m⟩)).run Tryz.prog W = .ok (.bool true) W:=fun W=>by
   have:=HQ W;rw [decide_eq_true hp] at this;rw [run_eql_struct];exact (congrArg (fun q=>Result.andThen q fun b w'=>Result.ok (Value.bool b) w') this)
  have HO:=Hd (show decide (OneN ⟨0,s,a,b,mn,mx,m⟩) = true from by rw [decide_eq_true_iff,<- hp];unfold OneN plainN;simp);clear HQ hp;go_enter Tryz.func123,Tryz.ntmps123;go_wp2;go_ret;exact ⟨by rw [HO.out];rfl,HBL.out⟩
 ·
  have HB:∀ W,(binOp .eql 87 (.agg #[E 0,.int .u64 0,.int .u64 0,.int .u64 0,.int .u64 0,E 0,E 0,E 0,E 0,E 0]) (NV ⟨0,s,a,b,mn,mx,m⟩)).run Tryz.prog W = .ok (.bool false) W:=fun W=>by
   have:=HQ W;rw [decide_eq_false hp] at this;rw [run_eql_struct];exact (congrArg (fun q=>Result.andThen q fun b w'=>Result.ok (Value.bool b) w') this)
  have HO:=Hd (show decide (OneN ⟨0,s,a,b,mn,mx,m⟩) = false from by rw [decide_eq_false_iff_not];exact fun q=>hp (one_plain q));clear HQ hp;go_enter Tryz.func123,Tryz.ntmps123;go_wp2;go_ret;exact ⟨by rw [HO.out];rfl,HBL.out⟩
theorem fields_1 (s:List Nat) (a b mn mx m:Int) (w:World) (hw:Wf s):Calls Tryz.prog 123 #[NV ⟨1,s,a,b,mn,mx,m⟩] w fun e w'=>e = .returned (.bool (decide (OneN ⟨1,s,a,b,mn,mx,m⟩))) /\ Below w.heap.size w w':=by
 (have HQ:=fun W=>run_eqR (plainN ⟨1,s,a,b,mn,mx,m⟩) ⟨1,s,a,b,mn,mx,m⟩ (wf_plain hw) hw W);(have HG:∀ x y W,(eqGuard .eql 87 x y (.agg #[E 1,U (word s 0),U (word s 1),U (word s 2),U (word s 3),E 0,E 0,E 0,E 0,E 0]) (NV ⟨1,s,a,b,mn,mx,m⟩)).run Tryz.prog W = .ok () W:=fun x y W=>run_eqGuard_agg W _ _ _ _ _ _ (by kernel_rfl));have HBL:=Hd ((((Below.refl w.heap.size w).alloc (Nat.le_refl _) (Obj.cells (NC ⟨1,s,a,b,mn,mx,m⟩) 87)).alloc (by simp) (Obj.cells #[E 1,U (word s 0),U (word s 1),U (word s 2),U (word s 3),E 0,E 0,E 0,E 0,E 0] 87)).alloc (by simp;omega) (Obj.cells #[.int .u64 0,.int .u64 0,.int .u64 0,.int .u64 0] 69));(have HS0:=fun W=>run_eq4r (word s 0) (word s 1) (word s 2) (word s 3) 0 0 0 0 9998 W);(have hzz:(word s 0 = 0 /\ word s 1 = 0 /\ word s 2 = 0 /\ word s 3 = 0) ↔ s = z4:=by rw [show z4 = zeroW from rfl,word_eq hw wf_zero];exact Iff.rfl);(have HGS:∀ x y W,(eqGuard .eql 69 x y (.agg #[U (word s 0),U (word s 1),U (word s 2),U (word s 3)]) (.agg #[.int .u64 0,.int .u64 0,.int .u64 0,.int .u64 0])).run Tryz.prog W = .ok () W:=fun x y W=>run_eqGuard_agg W _ _ _ _ _ _ (by kernel_rfl));by_cases hz:s = z4
 ·
  have HS:∀ W,(binOp .eql 69 (.agg #[U (word s 0),U (word s 1),U (word s 2),U (word s 3)]) (.agg #[.int .u64 0,.int .u64 0,.int .u64 0,.int .u64 0])).run Tryz.prog W = .ok (.bool true) W:=fun W=>by
   have:=HS0 W;rw [decide_eq_true (hzz.2 hz)] at this;rw [run_eql_struct];exact (congrArg (fun q=>Result.andThen q fun b w'=>Result.ok (Value.bool b) w') this)
  have HO:=Hd (show decide (OneN ⟨1,s,a,b,mn,mx,m⟩) = false from by rw [decide_eq_false_iff_not];unfold OneN;simp [hz]);clear HQ HS0 hzz hz;go_enter Tryz.func123,Tryz.ntmps123;go_wp2;go_ret;exact ⟨by rw [HO.out];rfl,HBL.out⟩
 ·
  have HS:∀ W,(binOp .eql 69 (.agg #[U (word s 0),U (word s 1),U (word s 2),U (word s 3)]) (.agg #[.int .u64 0,.int .u64 0,.int .u64 0,.int .u64 0])).run Tryz.prog W = .ok (.bool false) W:=fun W=>by
   have:=HS0 W;rw [decide_eq_false (fun q=>hz (hzz.1 q))] at this;rw [run_eql_struct];exact (congrArg (fun q=>Result.andThen q fun b w'=>Result.ok (Value.bool b) w') this)
  clear HS0 hzz;by_cases hp:plainN ⟨1,s,a,b,mn,mx,m⟩ = ⟨1,s,a,b,mn,mx,m⟩
  ·
   have HB:∀ W,(binOp .eql 87 (.agg #[E 1,U (word s 0),U (word s 1),U (word s 2),U (word s 3),E 0,E 0,E 0,E 0,E 0]) (NV ⟨1,s,a,b,mn,mx,m⟩)).run Tryz.prog W = .ok (.bool true) W:=fun W=>by
    have:=HQ W;rw [decide_eq_true hp] at this;rw [run_eql_struct];exact (congrArg (fun q=>Result.andThen q fun b w'=>Result.ok (Value.bool b) w') this)
   have HO:=Hd (show decide (OneN ⟨1,s,a,b,mn,mx,m⟩) = true from by rw [decide_eq_true_iff,<- hp];unfold OneN plainN;simpa using hz);clear HQ hp;go_enter Tryz.func123,Tryz.ntmps123;go_wp2;go_ret;exact ⟨by rw [HO.out];rfl,HBL.out⟩
  ·
   have HB:∀ W,(binOp .eql 87 (.agg #[E 1,U (word s 0),U (word s 1),U (word s 2),U (word s 3),E 0,E 0,E 0,E 0,E 0]) (NV ⟨1,s,a,b,mn,mx,m⟩)).run Tryz.prog W = .ok (.bool false) W:=fun W=>by
    have:=HQ W;rw [decide_eq_false hp] at this;rw [run_eql_struct];exact (congrArg (fun q=>Result.andThen q fun b w'=>Result.ok (Value.bool b) w') this)
   have HO:=Hd (show decide (OneN ⟨1,s,a,b,mn,mx,m⟩) = false from by rw [decide_eq_false_iff_not];exact fun q=>hp (one_plain q));clear HQ hp;go_enter Tryz.func123,Tryz.ntmps123;go_wp2;go_ret;exact ⟨by rw [HO.out];rfl,HBL.out⟩
theorem fields_2 (s:List Nat) (a b mn mx m:Int) (w:World) (hw:Wf s):Calls Tryz.prog 123 #[NV ⟨2,s,a,b,mn,mx,m⟩] w fun e w'=>e = .returned (.bool (decide (OneN ⟨2,s,a,b,mn,mx,m⟩))) /\ Below w.heap.size w w':=by
 (have HQ:=fun W=>run_eqR (plainN ⟨2,s,a,b,mn,mx,m⟩) ⟨2,s,a,b,mn,mx,m⟩ (wf_plain hw) hw W);(have HG:∀ x y W,(eqGuard .eql 87 x y (.agg #[E 2,.int .u64 0,.int .u64 0,.int .u64 0,.int .u64 0,E 0,E 0,E 0,E 0,E 0]) (NV ⟨2,s,a,b,mn,mx,m⟩)).run Tryz.prog W = .ok () W:=fun x y W=>run_eqGuard_agg W _ _ _ _ _ _ (by kernel_rfl));have HBL:=Hd ((((Below.refl w.heap.size w).alloc (Nat.le_refl _) (Obj.cells (NC ⟨2,s,a,b,mn,mx,m⟩) 87)).alloc (by simp) (Obj.cells #[E 2,.int .u64 0,.int .u64 0,.int .u64 0,.int .u64 0,E 0,E 0,E 0,E 0,E 0] 87)).alloc (by simp;omega) (Obj.cells #[.int .u64 0,.int .u64 0,.int .u64 0,.int .u64 0] 69));by_cases hp:plainN ⟨2,s,a,b,mn,mx,m⟩ = ⟨2,s,a,b,mn,mx,m⟩
 ·
  have HB:∀ W,(binOp .eql 87 (.agg #[E 2,.int .u64 0,.int .u64 0,.int .u64 0,.int .u64 0,E 0,E 0,E 0,E 0,E 0]) (NV ⟨2,s,a,b,mn,mx,m⟩)).run Tryz.prog W = .ok (.bool true) W:=fun W=>by
   have:=HQ W;rw [decide_eq_true hp] at this;rw [run_eql_struct];exact (congrArg (fun q=>Result.andThen q fun b w'=>Result.ok (Value.bool b) w') this)
  have HO:=Hd (show decide (OneN ⟨2,s,a,b,mn,mx,m⟩) = true from by rw [decide_eq_true_iff,<- hp];unfold OneN plainN;simp);clear HQ hp;go_enter Tryz.func123,Tryz.ntmps123;go_wp2;go_ret;exact ⟨by rw [HO.out];rfl,HBL.out⟩
 ·
  have HB:∀ W,(binOp .eql 87 (.agg #[E 2,.int .u64 0,.int .u64 0,.int .u64 0,.int .u64 0,E 0,E 0,E 0,E 0,E 0]) (NV ⟨2,s,a,b,mn,mx,m⟩)).run Tryz.prog W = .ok (.bool false) W:=fun W=>by
   have:=HQ W;rw [decide_eq_false hp] at this;rw [run_eql_struct];exact (congrArg (fun q=>Result.andThen q fun b w'=>Result.ok (Value.bool b) w') this)
  have HO:=Hd (show decide (OneN ⟨2,s,a,b,mn,mx,m⟩) = false from by rw [decide_eq_false_iff_not];exact fun q=>hp (one_plain q));clear HQ hp;go_enter Tryz.func123,Tryz.ntmps123;go_wp2;go_ret;exact ⟨by rw [HO.out];rfl,HBL.out⟩
theorem fields_3 (s:List Nat) (a b mn mx m:Int) (w:World) (hw:Wf s):Calls Tryz.prog 123 #[NV ⟨3,s,a,b,mn,mx,m⟩] w fun e w'=>e = .returned (.bool (decide (OneN ⟨3,s,a,b,mn,mx,m⟩))) /\ Below w.heap.size w w':=by
 (have HQ:=fun W=>run_eqR (plainN ⟨3,s,a,b,mn,mx,m⟩) ⟨3,s,a,b,mn,mx,m⟩ (wf_plain hw) hw W);(have HG:∀ x y W,(eqGuard .eql 87 x y (.agg #[E 3,.int .u64 0,.int .u64 0,.int .u64 0,.int .u64 0,E 0,E 0,E 0,E 0,E 0]) (NV ⟨3,s,a,b,mn,mx,m⟩)).run Tryz.prog W = .ok () W:=fun x y W=>run_eqGuard_agg W _ _ _ _ _ _ (by kernel_rfl));have HBL:=Hd ((((Below.refl w.heap.size w).alloc (Nat.le_refl _) (Obj.cells (NC ⟨3,s,a,b,mn,mx,m⟩) 87)).alloc (by simp) (Obj.cells #[E 3,.int .u64 0,.int .u64 0,.int .u64 0,.int .u64 0,E 0,E 0,E 0,E 0,E 0] 87)).alloc (by simp;omega) (Obj.cells #[.int .u64 0,.int .u64 0,.int .u64 0,.int .u64 0] 69));by_cases hp:plainN ⟨3,s,a,b,mn,mx,m⟩ = ⟨3,s,a,b,mn,mx,m⟩
 ·
  have HB:∀ W,(binOp .eql 87 (.agg #[E 3,.int .u64 0,.int .u64 0,.int .u64 0,.int .u64 0,E 0,E 0,E 0,E 0,E 0]) (NV ⟨3,s,a,b,mn,mx,m⟩)).run Tryz.prog W = .ok (.bool true) W:=fun W=>by
   have:=HQ W;rw [decide_eq_true hp] at this;rw [run_eql_struct];exact (congrArg (fun q=>Result.andThen q fun b w'=>Result.ok (Value.bool b) w') this)
  have HO:=Hd (show decide (OneN ⟨3,s,a,b,mn,mx,m⟩) = true from by rw [decide_eq_true_iff,<- hp];unfold OneN plainN;simp);clear HQ hp;go_enter Tryz.func123,Tryz.ntmps123;go_wp2;go_ret;exact ⟨by rw [HO.out];rfl,HBL.out⟩
 ·
  have HB:∀ W,(binOp .eql 87 (.agg #[E 3,.int .u64 0,.int .u64 0,.int .u64 0,.int .u64 0,E 0,E 0,E 0,E 0,E 0]) (NV ⟨3,s,a,b,mn,mx,m⟩)).run Tryz.prog W = .ok (.bool false) W:=fun W=>by
   have:=HQ W;rw [decide_eq_false hp] at this;rw [run_eql_struct];exact (congrArg (fun q=>Result.andThen q fun b w'=>Result.ok (Value.bool b) w') this)
  have HO:=Hd (show decide (OneN ⟨3,s,a,b,mn,mx,m⟩) = false from by rw [decide_eq_false_iff_not];exact fun q=>hp (one_plain q));clear HQ hp;go_enter Tryz.func123,Tryz.ntmps123;go_wp2;go_ret;exact ⟨by rw [HO.out];rfl,HBL.out⟩
theorem fields_4 (s:List Nat) (a b mn mx m:Int) (w:World) (hw:Wf s):Calls Tryz.prog 123 #[NV ⟨4,s,a,b,mn,mx,m⟩] w fun e w'=>e = .returned (.bool (decide (OneN ⟨4,s,a,b,mn,mx,m⟩))) /\ Below w.heap.size w w':=by
 (have HQ:=fun W=>run_eqR (plainN ⟨4,s,a,b,mn,mx,m⟩) ⟨4,s,a,b,mn,mx,m⟩ (wf_plain hw) hw W);(have HG:∀ x y W,(eqGuard .eql 87 x y (.agg #[E 4,.int .u64 0,.int .u64 0,.int .u64 0,.int .u64 0,E a,E b,E 0,E 0,E 0]) (NV ⟨4,s,a,b,mn,mx,m⟩)).run Tryz.prog W = .ok () W:=fun x y W=>run_eqGuard_agg W _ _ _ _ _ _ (by kernel_rfl));have HBL:=Hd ((((Below.refl w.heap.size w).alloc (Nat.le_refl _) (Obj.cells (NC ⟨4,s,a,b,mn,mx,m⟩) 87)).alloc (by simp) (Obj.cells #[E 4,.int .u64 0,.int .u64 0,.int .u64 0,.int .u64 0,E a,E b,E 0,E 0,E 0] 87)).alloc (by simp;omega) (Obj.cells #[.int .u64 0,.int .u64 0,.int .u64 0,.int .u64 0] 69));by_cases hp:plainN ⟨4,s,a,b,mn,mx,m⟩ = ⟨4,s,a,b,mn,mx,m⟩
 ·
  have HB:∀ W,(binOp .eql 87 (.agg #[E 4,.int .u64 0,.int .u64 0,.int .u64 0,.int .u64 0,E a,E b,E 0,E 0,E 0]) (NV ⟨4,s,a,b,mn,mx,m⟩)).run Tryz.prog W = .ok (.bool true) W:=fun W=>by
   have:=HQ W;rw [decide_eq_true hp] at this;rw [run_eql_struct];exact (congrArg (fun q=>Result.andThen q fun b w'=>Result.ok (Value.bool b) w') this)
  have HO:=Hd (show decide (OneN ⟨4,s,a,b,mn,mx,m⟩) = true from by rw [decide_eq_true_iff,<- hp];unfold OneN plainN;simp);clear HQ hp;go_enter Tryz.func123,Tryz.ntmps123;go_wp2;go_ret;exact ⟨by rw [HO.out];rfl,HBL.out⟩
 ·
  have HB:∀ W,(binOp .eql 87 (.agg #[E 4,.int .u64 0,.int .u64 0,.int .u64 0,.int .u64 0,E a,E b,E 0,E 0,E 0]) (NV ⟨4,s,a,b,mn,mx,m⟩)).run Tryz.prog W = .ok (.bool false) W:=fun W=>by
   have:=HQ W;rw [decide_eq_false hp] at this;rw [run_eql_struct];exact (congrArg (fun q=>Result.andThen q fun b w'=>Result.ok (Value.bool b) w') this)
  have HO:=Hd (show decide (OneN ⟨4,s,a,b,mn,mx,m⟩) = false from by rw [decide_eq_false_iff_not];exact fun q=>hp (one_plain q));clear HQ hp;go_enter Tryz.func123,Tryz.ntmps123;go_wp2;go_ret;exact ⟨by rw [HO.out];rfl,HBL.out⟩
theorem fields_5 (s:List Nat) (a b mn mx m:Int) (w:World) (hw:Wf s):Calls Tryz.prog 123 #[NV ⟨5,s,a,b,mn,mx,m⟩] w fun e w'=>e = .returned (.bool (decide (OneN ⟨5,s,a,b,mn,mx,m⟩))) /\ Below w.heap.size w w':=by
 (have HQ:=fun W=>run_eqR (plainN ⟨5,s,a,b,mn,mx,m⟩) ⟨5,s,a,b,mn,mx,m⟩ (wf_plain hw) hw W);(have HG:∀ x y W,(eqGuard .eql 87 x y (.agg #[E 5,.int .u64 0,.int .u64 0,.int .u64 0,.int .u64 0,E a,E b,E 0,E 0,E 0]) (NV ⟨5,s,a,b,mn,mx,m⟩)).run Tryz.prog W = .ok () W:=fun x y W=>run_eqGuard_agg W _ _ _ _ _ _ (by kernel_rfl));have HBL:=Hd ((((Below.refl w.heap.size w).alloc (Nat.le_refl _) (Obj.cells (NC ⟨5,s,a,b,mn,mx,m⟩) 87)).alloc (by simp) (Obj.cells #[E 5,.int .u64 0,.int .u64 0,.int .u64 0,.int .u64 0,E a,E b,E 0,E 0,E 0] 87)).alloc (by simp;omega) (Obj.cells #[.int .u64 0,.int .u64 0,.int .u64 0,.int .u64 0] 69));by_cases hp:plainN ⟨5,s,a,b,mn,mx,m⟩ = ⟨5,s,a,b,mn,mx,m⟩
 ·
  have HB:∀ W,(binOp .eql 87 (.agg #[E 5,.int .u64 0,.int .u64 0,.int .u64 0,.int .u64 0,E a,E b,E 0,E 0,E 0]) (NV ⟨5,s,a,b,mn,mx,m⟩)).run Tryz.prog W = .ok (.bool true) W:=fun W=>by
   have:=HQ W;rw [decide_eq_true hp] at this;rw [run_eql_struct];exact (congrArg (fun q=>Result.andThen q fun b w'=>Result.ok (Value.bool b) w') this)
  have HO:=Hd (show decide (OneN ⟨5,s,a,b,mn,mx,m⟩) = true from by rw [decide_eq_true_iff,<- hp];unfold OneN plainN;simp);clear HQ hp;go_enter Tryz.func123,Tryz.ntmps123;go_wp2;go_ret;exact ⟨by rw [HO.out];rfl,HBL.out⟩
 ·
  have HB:∀ W,(binOp .eql 87 (.agg #[E 5,.int .u64 0,.int .u64 0,.int .u64 0,.int .u64 0,E a,E b,E 0,E 0,E 0]) (NV ⟨5,s,a,b,mn,mx,m⟩)).run Tryz.prog W = .ok (.bool false) W:=fun W=>by
   have:=HQ W;rw [decide_eq_false hp] at this;rw [run_eql_struct];exact (congrArg (fun q=>Result.andThen q fun b w'=>Result.ok (Value.bool b) w') this)
  have HO:=Hd (show decide (OneN ⟨5,s,a,b,mn,mx,m⟩) = false from by rw [decide_eq_false_iff_not];exact fun q=>hp (one_plain q));clear HQ hp;go_enter Tryz.func123,Tryz.ntmps123;go_wp2;go_ret;exact ⟨by rw [HO.out];rfl,HBL.out⟩
theorem fields_6 (s:List Nat) (a b mn mx m:Int) (w:World) (hw:Wf s) (hm1:mx ≠ -1):Calls Tryz.prog 123 #[NV ⟨6,s,a,b,mn,mx,m⟩] w fun e w'=>e = .returned (.bool (decide (OneN ⟨6,s,a,b,mn,mx,m⟩))) /\ Below w.heap.size w w':=by
 (have HQ:=fun W=>run_eqR (plainN ⟨6,s,a,b,mn,mx,m⟩) ⟨6,s,a,b,mn,mx,m⟩ (wf_plain hw) hw W);(have HG:∀ x y W,(eqGuard .eql 87 x y (.agg #[E 6,.int .u64 0,.int .u64 0,.int .u64 0,.int .u64 0,E a,E 0,E mn,E mx,E 0]) (NV ⟨6,s,a,b,mn,mx,m⟩)).run Tryz.prog W = .ok () W:=fun x y W=>run_eqGuard_agg W _ _ _ _ _ _ (by kernel_rfl));have HBL:=Hd ((((Below.refl w.heap.size w).alloc (Nat.le_refl _) (Obj.cells (NC ⟨6,s,a,b,mn,mx,m⟩) 87)).alloc (by simp) (Obj.cells #[E 6,.int .u64 0,.int .u64 0,.int .u64 0,.int .u64 0,E a,E 0,E mn,E mx,E 0] 87)).alloc (by simp;omega) (Obj.cells #[.int .u64 0,.int .u64 0,.int .u64 0,.int .u64 0] 69));(have hm1B:(mx != -1) = true:=by simpa using hm1);by_cases h0:0 <= mn
 ·
  (have h0':¬ mn < 0:=by omega);by_cases h255:mn <= 255
  ·
   (have h255':¬ 255 < mn:=by omega);by_cases c1:mn <= mx
   ·
    (have c1':¬ mx < mn:=by omega);by_cases c2:1 <= mx
    ·
     (have c2':¬ mx < 1:=by omega);by_cases c3:mx <= 255
     ·
      (have c3':¬ 255 < mx:=by omega);by_cases hp:plainN ⟨6,s,a,b,mn,mx,m⟩ = ⟨6,s,a,b,mn,mx,m⟩
      ·
       have HB:∀ W,(binOp .eql 87 (.agg #[E 6,.int .u64 0,.int .u64 0,.int .u64 0,.int .u64 0,E a,E 0,E mn,E mx,E 0]) (NV ⟨6,s,a,b,mn,mx,m⟩)).run Tryz.prog W = .ok (.bool true) W:=fun W=>by
        have:=HQ W;rw [decide_eq_true hp] at this;rw [run_eql_struct];exact (congrArg (fun q=>Result.andThen q fun b w'=>Result.ok (Value.bool b) w') this)
       have HO:=Hd (show decide (OneN ⟨6,s,a,b,mn,mx,m⟩) = true from by rw [decide_eq_true_iff,<- hp];unfold OneN plainN;simp;omega);clear HQ hp;go_enter Tryz.func123,Tryz.ntmps123;go_wp2;go_ret;exact ⟨by rw [HO.out];rfl,HBL.out⟩
      ·
       have HB:∀ W,(binOp .eql 87 (.agg #[E 6,.int .u64 0,.int .u64 0,.int .u64 0,.int .u64 0,E a,E 0,E mn,E mx,E 0]) (NV ⟨6,s,a,b,mn,mx,m⟩)).run Tryz.prog W = .ok (.bool false) W:=fun W=>by
        have:=HQ W;rw [decide_eq_false hp] at this;rw [run_eql_struct];exact (congrArg (fun q=>Result.andThen q fun b w'=>Result.ok (Value.bool b) w') this)
       have HO:=Hd (show decide (OneN ⟨6,s,a,b,mn,mx,m⟩) = false from by rw [decide_eq_false_iff_not];exact fun q=>hp (one_plain q));clear HQ hp;go_enter Tryz.func123,Tryz.ntmps123;go_wp2;go_ret;exact ⟨by rw [HO.out];rfl,HBL.out⟩
     · have HO:=Hd (show decide (OneN ⟨6,s,a,b,mn,mx,m⟩) = false from by rw [decide_eq_false_iff_not];unfold OneN;simp;omega);(have hbad:255 < mx:=by omega);clear HQ;go_enter Tryz.func123,Tryz.ntmps123;go_wp2;go_ret;exact ⟨by rw [HO.out];rfl,HBL.out⟩
    · have HO:=Hd (show decide (OneN ⟨6,s,a,b,mn,mx,m⟩) = false from by rw [decide_eq_false_iff_not];unfold OneN;simp;omega);(have hbad:mx < 1:=by omega);clear HQ;go_enter Tryz.func123,Tryz.ntmps123;go_wp2;go_ret;exact ⟨by rw [HO.out];rfl,HBL.out⟩
   · have HO:=Hd (show decide (OneN ⟨6,s,a,b,mn,mx,m⟩) = false from by rw [decide_eq_false_iff_not];unfold OneN;simp;omega);(have hbad:mx < mn:=by omega);clear HQ;go_enter Tryz.func123,Tryz.ntmps123;go_wp2;go_ret;exact ⟨by rw [HO.out];rfl,HBL.out⟩
  · have HO:=Hd (show decide (OneN ⟨6,s,a,b,mn,mx,m⟩) = false from by rw [decide_eq_false_iff_not];unfold OneN;simp;omega);(have hbad:255 < mn:=by omega);clear HQ;go_enter Tryz.func123,Tryz.ntmps123;go_wp2;go_ret;exact ⟨by rw [HO.out];rfl,HBL.out⟩
 · have HO:=Hd (show decide (OneN ⟨6,s,a,b,mn,mx,m⟩) = false from by rw [decide_eq_false_iff_not];unfold OneN;simp;omega);(have hbad:mn < 0:=by omega);clear HQ;go_enter Tryz.func123,Tryz.ntmps123;go_wp2;go_ret;exact ⟨by rw [HO.out];rfl,HBL.out⟩
theorem fields_6m (s:List Nat) (a b mn m:Int) (w:World) (hw:Wf s):Calls Tryz.prog 123 #[NV ⟨6,s,a,b,mn,(-1),m⟩] w fun e w'=>e = .returned (.bool (decide (OneN ⟨6,s,a,b,mn,(-1),m⟩))) /\ Below w.heap.size w w':=by
 (have HQ:=fun W=>run_eqR (plainN ⟨6,s,a,b,mn,(-1),m⟩) ⟨6,s,a,b,mn,(-1),m⟩ (wf_plain hw) hw W);(have HG:∀ x y W,(eqGuard .eql 87 x y (.agg #[E 6,.int .u64 0,.int .u64 0,.int .u64 0,.int .u64 0,E a,E 0,E mn,E (-1),E 0]) (NV ⟨6,s,a,b,mn,(-1),m⟩)).run Tryz.prog W = .ok () W:=fun x y W=>run_eqGuard_agg W _ _ _ _ _ _ (by kernel_rfl));have HBL:=Hd ((((Below.refl w.heap.size w).alloc (Nat.le_refl _) (Obj.cells (NC ⟨6,s,a,b,mn,(-1),m⟩) 87)).alloc (by simp) (Obj.cells #[E 6,.int .u64 0,.int .u64 0,.int .u64 0,.int .u64 0,E a,E 0,E mn,E (-1),E 0] 87)).alloc (by simp;omega) (Obj.cells #[.int .u64 0,.int .u64 0,.int .u64 0,.int .u64 0] 69));by_cases h0:0 <= mn
 ·
  (have h0':¬ mn < 0:=by omega);by_cases h255:mn <= 255
  ·
   (have h255':¬ 255 < mn:=by omega);by_cases hp:plainN ⟨6,s,a,b,mn,(-1),m⟩ = ⟨6,s,a,b,mn,(-1),m⟩
   ·
    have HB:∀ W,(binOp .eql 87 (.agg #[E 6,.int .u64 0,.int .u64 0,.int .u64 0,.int .u64 0,E a,E 0,E mn,E (-1),E 0]) (NV ⟨6,s,a,b,mn,(-1),m⟩)).run Tryz.prog W = .ok (.bool true) W:=fun W=>by
     have:=HQ W;rw [decide_eq_true hp] at this;rw [run_eql_struct];exact (congrArg (fun q=>Result.andThen q fun b w'=>Result.ok (Value.bool b) w') this)
    have HO:=Hd (show decide (OneN ⟨6,s,a,b,mn,(-1),m⟩) = true from by rw [decide_eq_true_iff,<- hp];unfold OneN plainN;simp;omega);clear HQ hp;go_enter Tryz.func123,Tryz.ntmps123;go_wp2;go_ret;exact ⟨by rw [HO.out];rfl,HBL.out⟩
   ·
    have HB:∀ W,(binOp .eql 87 (.agg #[E 6,.int .u64 0,.int .u64 0,.int .u64 0,.int .u64 0,E a,E 0,E mn,E (-1),E 0]) (NV ⟨6,s,a,b,mn,(-1),m⟩)).run Tryz.prog W = .ok (.bool false) W:=fun W=>by
     have:=HQ W;rw [decide_eq_false hp] at this;rw [run_eql_struct];exact (congrArg (fun q=>Result.andThen q fun b w'=>Result.ok (Value.bool b) w') this)
    have HO:=Hd (show decide (OneN ⟨6,s,a,b,mn,(-1),m⟩) = false from by rw [decide_eq_false_iff_not];exact fun q=>hp (one_plain q));clear HQ hp;go_enter Tryz.func123,Tryz.ntmps123;go_wp2;go_ret;exact ⟨by rw [HO.out];rfl,HBL.out⟩
  · have HO:=Hd (show decide (OneN ⟨6,s,a,b,mn,(-1),m⟩) = false from by rw [decide_eq_false_iff_not];unfold OneN;simp;omega);(have hbad:255 < mn:=by omega);clear HQ;go_enter Tryz.func123,Tryz.ntmps123;go_wp2;go_ret;exact ⟨by rw [HO.out];rfl,HBL.out⟩
 · have HO:=Hd (show decide (OneN ⟨6,s,a,b,mn,(-1),m⟩) = false from by rw [decide_eq_false_iff_not];unfold OneN;simp;omega);(have hbad:mn < 0:=by omega);clear HQ;go_enter Tryz.func123,Tryz.ntmps123;go_wp2;go_ret;exact ⟨by rw [HO.out];rfl,HBL.out⟩
theorem fields_7 (s:List Nat) (a b mn mx m:Int) (w:World) (hw:Wf s):Calls Tryz.prog 123 #[NV ⟨7,s,a,b,mn,mx,m⟩] w fun e w'=>e = .returned (.bool (decide (OneN ⟨7,s,a,b,mn,mx,m⟩))) /\ Below w.heap.size w w':=by
 (have HQ:=fun W=>run_eqR (plainN ⟨7,s,a,b,mn,mx,m⟩) ⟨7,s,a,b,mn,mx,m⟩ (wf_plain hw) hw W);(have HG:∀ x y W,(eqGuard .eql 87 x y (.agg #[E 7,.int .u64 0,.int .u64 0,.int .u64 0,.int .u64 0,E a,E 0,E 0,E 0,E m]) (NV ⟨7,s,a,b,mn,mx,m⟩)).run Tryz.prog W = .ok () W:=fun x y W=>run_eqGuard_agg W _ _ _ _ _ _ (by kernel_rfl));have HBL:=Hd ((((Below.refl w.heap.size w).alloc (Nat.le_refl _) (Obj.cells (NC ⟨7,s,a,b,mn,mx,m⟩) 87)).alloc (by simp) (Obj.cells #[E 7,.int .u64 0,.int .u64 0,.int .u64 0,.int .u64 0,E a,E 0,E 0,E 0,E m] 87)).alloc (by simp;omega) (Obj.cells #[.int .u64 0,.int .u64 0,.int .u64 0,.int .u64 0] 69));by_cases hp:plainN ⟨7,s,a,b,mn,mx,m⟩ = ⟨7,s,a,b,mn,mx,m⟩
 ·
  have HB:∀ W,(binOp .eql 87 (.agg #[E 7,.int .u64 0,.int .u64 0,.int .u64 0,.int .u64 0,E a,E 0,E 0,E 0,E m]) (NV ⟨7,s,a,b,mn,mx,m⟩)).run Tryz.prog W = .ok (.bool true) W:=fun W=>by
   have:=HQ W;rw [decide_eq_true hp] at this;rw [run_eql_struct];exact (congrArg (fun q=>Result.andThen q fun b w'=>Result.ok (Value.bool b) w') this)
  by_cases h1:1 <= m
  ·
   by_cases h9:m <= 9
   · have HO:=Hd (show decide (OneN ⟨7,s,a,b,mn,mx,m⟩) = true from by rw [decide_eq_true_iff,<- hp];unfold OneN plainN;simp;omega);clear HQ hp;go_enter Tryz.func123,Tryz.ntmps123;go_wp2;go_ret;exact ⟨by rw [HO.out];rfl,HBL.out⟩
   · have HO:=Hd (show decide (OneN ⟨7,s,a,b,mn,mx,m⟩) = false from by rw [decide_eq_false_iff_not,<- hp];unfold OneN plainN;simp;omega);clear HQ hp;go_enter Tryz.func123,Tryz.ntmps123;go_wp2;go_ret;exact ⟨by rw [HO.out];rfl,HBL.out⟩
  · have HO:=Hd (show decide (OneN ⟨7,s,a,b,mn,mx,m⟩) = false from by rw [decide_eq_false_iff_not,<- hp];unfold OneN plainN;simp;omega);clear HQ hp;go_enter Tryz.func123,Tryz.ntmps123;go_wp2;go_ret;exact ⟨by rw [HO.out];rfl,HBL.out⟩
 ·
  have HB:∀ W,(binOp .eql 87 (.agg #[E 7,.int .u64 0,.int .u64 0,.int .u64 0,.int .u64 0,E a,E 0,E 0,E 0,E m]) (NV ⟨7,s,a,b,mn,mx,m⟩)).run Tryz.prog W = .ok (.bool false) W:=fun W=>by
   have:=HQ W;rw [decide_eq_false hp] at this;rw [run_eql_struct];exact (congrArg (fun q=>Result.andThen q fun b w'=>Result.ok (Value.bool b) w') this)
  have HO:=Hd (show decide (OneN ⟨7,s,a,b,mn,mx,m⟩) = false from by rw [decide_eq_false_iff_not];exact fun q=>hp (one_plain q));clear HQ hp;go_enter Tryz.func123,Tryz.ntmps123;go_wp2;go_ret;exact ⟨by rw [HO.out];rfl,HBL.out⟩
theorem fields_8 (s:List Nat) (a b mn mx m:Int) (w:World) (hw:Wf s):Calls Tryz.prog 123 #[NV ⟨8,s,a,b,mn,mx,m⟩] w fun e w'=>e = .returned (.bool (decide (OneN ⟨8,s,a,b,mn,mx,m⟩))) /\ Below w.heap.size w w':=by
 (have HQ:=fun W=>run_eqR (plainN ⟨8,s,a,b,mn,mx,m⟩) ⟨8,s,a,b,mn,mx,m⟩ (wf_plain hw) hw W);(have HG:∀ x y W,(eqGuard .eql 87 x y (.agg #[E 8,.int .u64 0,.int .u64 0,.int .u64 0,.int .u64 0,E 0,E 0,E 0,E 0,E m]) (NV ⟨8,s,a,b,mn,mx,m⟩)).run Tryz.prog W = .ok () W:=fun x y W=>run_eqGuard_agg W _ _ _ _ _ _ (by kernel_rfl));have HBL:=Hd ((((Below.refl w.heap.size w).alloc (Nat.le_refl _) (Obj.cells (NC ⟨8,s,a,b,mn,mx,m⟩) 87)).alloc (by simp) (Obj.cells #[E 8,.int .u64 0,.int .u64 0,.int .u64 0,.int .u64 0,E 0,E 0,E 0,E 0,E m] 87)).alloc (by simp;omega) (Obj.cells #[.int .u64 0,.int .u64 0,.int .u64 0,.int .u64 0] 69));by_cases hp:plainN ⟨8,s,a,b,mn,mx,m⟩ = ⟨8,s,a,b,mn,mx,m⟩
 ·
  have HB:∀ W,(binOp .eql 87 (.agg #[E 8,.int .u64 0,.int .u64 0,.int .u64 0,.int .u64 0,E 0,E 0,E 0,E 0,E m]) (NV ⟨8,s,a,b,mn,mx,m⟩)).run Tryz.prog W = .ok (.bool true) W:=fun W=>by
   have:=HQ W;rw [decide_eq_true hp] at this;rw [run_eql_struct];exact (congrArg (fun q=>Result.andThen q fun b w'=>Result.ok (Value.bool b) w') this)
  by_cases h1:1 <= m
  ·
   by_cases h9:m <= 9
   · have HO:=Hd (show decide (OneN ⟨8,s,a,b,mn,mx,m⟩) = true from by rw [decide_eq_true_iff,<- hp];unfold OneN plainN;simp;omega);clear HQ hp;go_enter Tryz.func123,Tryz.ntmps123;go_wp2;go_ret;exact ⟨by rw [HO.out];rfl,HBL.out⟩
   · have HO:=Hd (show decide (OneN ⟨8,s,a,b,mn,mx,m⟩) = false from by rw [decide_eq_false_iff_not,<- hp];unfold OneN plainN;simp;omega);clear HQ hp;go_enter Tryz.func123,Tryz.ntmps123;go_wp2;go_ret;exact ⟨by rw [HO.out];rfl,HBL.out⟩
  · have HO:=Hd (show decide (OneN ⟨8,s,a,b,mn,mx,m⟩) = false from by rw [decide_eq_false_iff_not,<- hp];unfold OneN plainN;simp;omega);clear HQ hp;go_enter Tryz.func123,Tryz.ntmps123;go_wp2;go_ret;exact ⟨by rw [HO.out];rfl,HBL.out⟩
 ·
  have HB:∀ W,(binOp .eql 87 (.agg #[E 8,.int .u64 0,.int .u64 0,.int .u64 0,.int .u64 0,E 0,E 0,E 0,E 0,E m]) (NV ⟨8,s,a,b,mn,mx,m⟩)).run Tryz.prog W = .ok (.bool false) W:=fun W=>by
   have:=HQ W;rw [decide_eq_false hp] at this;rw [run_eql_struct];exact (congrArg (fun q=>Result.andThen q fun b w'=>Result.ok (Value.bool b) w') this)
  have HO:=Hd (show decide (OneN ⟨8,s,a,b,mn,mx,m⟩) = false from by rw [decide_eq_false_iff_not];exact fun q=>hp (one_plain q));clear HQ hp;go_enter Tryz.func123,Tryz.ntmps123;go_wp2;go_ret;exact ⟨by rw [HO.out];rfl,HBL.out⟩
theorem fields_out (s:List Nat) (k a b mn mx m:Int) (w:World) (hk:k < 0 \/ 8 < k):Calls Tryz.prog 123 #[NV ⟨k,s,a,b,mn,mx,m⟩] w fun e w'=>e = .returned (.bool (decide (OneN ⟨k,s,a,b,mn,mx,m⟩))) /\ Below w.heap.size w w':=by
 have HBL:=Hd ((((Below.refl w.heap.size w).alloc (Nat.le_refl _) (Obj.cells (NC ⟨k,s,a,b,mn,mx,m⟩) 87)).alloc (by simp) (Obj.cells #[E k,.int .u64 0,.int .u64 0,.int .u64 0,.int .u64 0,E 0,E 0,E 0,E 0,E 0] 87)).alloc (by simp;omega) (Obj.cells #[.int .u64 0,.int .u64 0,.int .u64 0,.int .u64 0] 69));have HO:=Hd (show decide (OneN ⟨k,s,a,b,mn,mx,m⟩) = false from by rw [decide_eq_false_iff_not];intro q;have:=one_kind q;dsimp only at this;omega);(have k0:(k == 0) = false:=by rw [beq_eq_false_iff_ne];omega);(have k1:(k == 1) = false:=by rw [beq_eq_false_iff_ne];omega);(have k2:(k == 2) = false:=by rw [beq_eq_false_iff_ne];omega);(have k3:(k == 3) = false:=by rw [beq_eq_false_iff_ne];omega);(have k4:(k == 4) = false:=by rw [beq_eq_false_iff_ne];omega);(have k5:(k == 5) = false:=by rw [beq_eq_false_iff_ne];omega);(have k6:(k == 6) = false:=by rw [beq_eq_false_iff_ne];omega);(have k7:(k == 7) = false:=by rw [beq_eq_false_iff_ne];omega);(have k8:(k == 8) = false:=by rw [beq_eq_false_iff_ne];omega);clear hk;go_enter Tryz.func123,Tryz.ntmps123;go_wp2;go_ret;exact ⟨by rw [HO.out];rfl,HBL.out⟩
theorem fields_any (n:Nd) (w:World) (hw:Wf n.s):Calls Tryz.prog 123 #[NV n] w fun e w'=>e = .returned (.bool (decide (OneN n))) /\ Below w.heap.size w w':=by
 obtain ⟨k,s,a,b,mn,mx,m⟩:=n;by_cases hk:k < 0 \/ 8 < k
 · exact fields_out s k a b mn mx m w hk
 (have h:k = 0 \/ k = 1 \/ k = 2 \/ k = 3 \/ k = 4 \/ k = 5 \/ k = 6 \/ k = 7 \/ k = 8:=by omega);rcases h with rfl | rfl | rfl | rfl | rfl | rfl | rfl | rfl | rfl
 · exact fields_0 s a b mn mx m w hw
 · exact fields_1 s a b mn mx m w hw
 · exact fields_2 s a b mn mx m w hw
 · exact fields_3 s a b mn mx m w hw
 · exact fields_4 s a b mn mx m w hw
 · exact fields_5 s a b mn mx m w hw
 ·
  by_cases hm:mx = -1
  · subst hm;exact fields_6m s a b mn m w hw
  · exact fields_6 s a b mn mx m w hw hm
 · exact fields_7 s a b mn mx m w hw
 · exact fields_8 s a b mn mx m w hw
theorem first_any (b0 o0 c:Nat) (l:List Nd) (hl:l.length <= 100000):∀ (f:Nat) (i:Int) (w:World),Ns w (.slice (some ⟨b0,o0,none⟩) l.length c) l -> i < f -> i < l.length -> -1 <= i ->
  Calls Tryz.prog 124 #[.slice (some ⟨b0,o0,none⟩) l.length c,E i] w fun e w'=>e = .returned (E (firstF l f i)) /\ Below w.heap.size w w'
 | f,i,w,hN,hf,hi,h1=>by
  by_cases h0:i < 0
  ·
   have HO:=Hd (show firstF l f i = -1 from by
    cases f with
    | zero=>rfl
    | succ f=>unfold firstF;rw [if_pos h0])
   clear hN hf hi h1 hl;go_enter Tryz.func124,Tryz.ntmps124;go_wp2;go_ret;exact ⟨by rw [HO.out];rfl,Below.refl _ _⟩
  obtain ⟨g,rfl⟩:∃ g,f = g + 1:=⟨f - 1,by omega⟩;obtain ⟨j,rfl⟩:∃ j:Nat,i = (j:Int):=⟨i.toNat,by omega⟩;(have hj:j < l.length:=by omega);(have hj':((j:Nat):Int) < ((l.length:Nat):Int):=by omega);(have hj0:(0:Int) <= ((j:Nat):Int):=by omega);(have IH:=fun (i':Int) (w':World) (h:Below w.heap.size w w')=>first_any b0 o0 c l hl g i' w' (hN.below h));obtain ⟨B,o,hq,q0,q1,q2,q3,q4,q5,q6,q7,q8,q9⟩:=hN.at hj;simp only [Option.some.injEq,Addr.mk.injEq,and_true] at hq;obtain ⟨rfl,rfl⟩:=hq;(have hget:l[(((j:Nat):Int)).toNat]? = some l[j]:=by rw [Int.toNat_natCast];exact List.getElem?_eq_getElem hj);generalize l[j] = n at *;(have hs1:IntKind.i64.wrap (((j:Nat):Int) - 1) = ((j:Nat):Int) - 1:=by rw [IntKind.wrap_i64];omega);have hle:=first_le l g (((j:Nat):Int) - 1);by_cases h45:n.k = 4 \/ n.k = 5
  ·
   have HO:=first_two (f:=g) hj0 hget h45;by_cases hb:n.b = ((j:Nat):Int) - 1
   ·
    rw [if_neg (by omega)] at HO;have H1:=Hd (IH (((j:Nat):Int) - 1) w (Below.refl _ _) (by omega) (by omega) (by omega));by_cases hlt:firstF l g (((j:Nat):Int) - 1) < 1
    ·
     rw [if_pos (Or.inl hlt)] at HO;have HO:=Hd HO;generalize firstF l g (((j:Nat):Int) - 1) = b1 at *;(have hbB:(n.b == ((j:Nat):Int) - 1) = true:=by rw [beq_iff_eq];exact hb);clear hle hget IH hN hf hi h1 hl h0 hb;rcases h45 with h45 | h45
     · (have kk:(n.k == 4) = true:=by rw [beq_iff_eq];exact h45);clear h45;go_enter Tryz.func124,Tryz.ntmps124;go_wp2_with (go_at_call 124;have hq:=H1.out;clear H1;refine hq.mono ?_;clear hq;rintro e w1 ⟨rfl,hb⟩;have c5:=(hb.cell (lt_cell q5)).trans q5;have HB1:=Hd hb;clear hb);go_ret;exact ⟨by rw [HO.out];rfl,HB1.out⟩
     · (have kk:(n.k == 5) = true:=by rw [beq_iff_eq];exact h45);(have kn:(n.k == 4) = false:=by rw [beq_eq_false_iff_ne];omega);clear h45;go_enter Tryz.func124,Tryz.ntmps124;go_wp2_with (go_at_call 124;have hq:=H1.out;clear H1;refine hq.mono ?_;clear hq;rintro e w1 ⟨rfl,hb⟩;have c5:=(hb.cell (lt_cell q5)).trans q5;have HB1:=Hd hb;clear hb);go_ret;exact ⟨by rw [HO.out];rfl,HB1.out⟩
    ·
     by_cases ha:n.a = firstF l g (((j:Nat):Int) - 1) - 1
     ·
      rw [if_neg (by omega)] at HO;have H2:=Hd (fun W h=>IH (firstF l g (((j:Nat):Int) - 1) - 1) W h (by omega) (by omega) (by omega));(have hs2:IntKind.i64.wrap (firstF l g (((j:Nat):Int) - 1) - 1) = firstF l g (((j:Nat):Int) - 1) - 1:=by rw [IntKind.wrap_i64];omega);generalize firstF l g (((j:Nat):Int) - 1) = b1 at *;generalize firstF l g (b1 - 1) = b2 at *;have HO:=Hd HO;clear hle hget IH hN hf hi h1 hl h0;(have haB:(n.a == b1 - 1) = true:=by rw [beq_iff_eq];exact ha);(have haN:(n.a != b1 - 1) = false:=by simpa using ha);have hl1:¬ b1 < 1:=hlt;(have hbB:(n.b == ((j:Nat):Int) - 1) = true:=by rw [beq_iff_eq];exact hb);clear ha hb;rcases h45 with h45 | h45
      · (have kk:(n.k == 4) = true:=by rw [beq_iff_eq];exact h45);clear h45;go_enter Tryz.func124,Tryz.ntmps124;go_wp2_with (first | (go_at_call 124;have hq:=H1.out;clear H1;refine hq.mono ?_;clear hq;rintro e w1 ⟨rfl,hb⟩;have c5:=(hb.cell (lt_cell q5)).trans q5;have HB1:=Hd hb;clear hb) | (go_at_call 124;refine (H2.out _ HB1.out).mono ?_;rintro e w2 ⟨rfl,hb⟩;have HB2:=Hd (HB1.out.trans (hb.mono HB1.out.size));clear hb));go_ret;exact ⟨by rw [HO.out];rfl,HB2.out⟩
      · (have kk:(n.k == 5) = true:=by rw [beq_iff_eq];exact h45);(have kn:(n.k == 4) = false:=by rw [beq_eq_false_iff_ne];omega);clear h45;go_enter Tryz.func124,Tryz.ntmps124;go_wp2_with (first | (go_at_call 124;have hq:=H1.out;clear H1;refine hq.mono ?_;clear hq;rintro e w1 ⟨rfl,hb⟩;have c5:=(hb.cell (lt_cell q5)).trans q5;have HB1:=Hd hb;clear hb) | (go_at_call 124;refine (H2.out _ HB1.out).mono ?_;rintro e w2 ⟨rfl,hb⟩;have HB2:=Hd (HB1.out.trans (hb.mono HB1.out.size));clear hb));go_ret;exact ⟨by rw [HO.out];rfl,HB2.out⟩
     ·
      rw [if_pos (Or.inr ha)] at HO;(have hs2:IntKind.i64.wrap (firstF l g (((j:Nat):Int) - 1) - 1) = firstF l g (((j:Nat):Int) - 1) - 1:=by rw [IntKind.wrap_i64];omega);generalize firstF l g (((j:Nat):Int) - 1) = b1 at *;have HO:=Hd HO;(have haB:(n.a == b1 - 1) = false:=by rw [beq_eq_false_iff_ne];exact ha);(have haN:(n.a != b1 - 1) = true:=by simpa using ha);have hl1:¬ b1 < 1:=hlt;(have hbB:(n.b == ((j:Nat):Int) - 1) = true:=by rw [beq_iff_eq];exact hb);clear hle hget IH hN hf hi h1 hl h0 ha hb;have hq1:b1 <= 100000 \/ True:=Or.inr trivial;rcases h45 with h45 | h45
      · (have kk:(n.k == 4) = true:=by rw [beq_iff_eq];exact h45);clear h45;go_enter Tryz.func124,Tryz.ntmps124;go_wp2_with (go_at_call 124;have hq:=H1.out;clear H1;refine hq.mono ?_;clear hq;rintro e w1 ⟨rfl,hb⟩;have c5:=(hb.cell (lt_cell q5)).trans q5;have HB1:=Hd hb;clear hb);go_ret;exact ⟨by rw [HO.out];rfl,HB1.out⟩
      · (have kk:(n.k == 5) = true:=by rw [beq_iff_eq];exact h45);(have kn:(n.k == 4) = false:=by rw [beq_eq_false_iff_ne];omega);clear h45;go_enter Tryz.func124,Tryz.ntmps124;go_wp2_with (go_at_call 124;have hq:=H1.out;clear H1;refine hq.mono ?_;clear hq;rintro e w1 ⟨rfl,hb⟩;have c5:=(hb.cell (lt_cell q5)).trans q5;have HB1:=Hd hb;clear hb);go_ret;exact ⟨by rw [HO.out];rfl,HB1.out⟩
   ·
    rw [if_pos hb] at HO;have HO:=Hd HO;(have hbB:(n.b == ((j:Nat):Int) - 1) = false:=by rw [beq_eq_false_iff_ne];exact hb);clear hle hget IH hN hf hi h1 hl h0 hb;rcases h45 with h45 | h45
    · (have kk:(n.k == 4) = true:=by rw [beq_iff_eq];exact h45);clear h45;go_enter Tryz.func124,Tryz.ntmps124;go_wp2;go_ret;exact ⟨by rw [HO.out];rfl,Below.refl _ _⟩
    · (have kk:(n.k == 5) = true:=by rw [beq_iff_eq];exact h45);(have kn:(n.k == 4) = false:=by rw [beq_eq_false_iff_ne];omega);clear h45;go_enter Tryz.func124,Tryz.ntmps124;go_wp2;go_ret;exact ⟨by rw [HO.out];rfl,Below.refl _ _⟩
  ·
   (have k4:(n.k == 4) = false:=by rw [beq_eq_false_iff_ne];exact fun q=>h45 (Or.inl q));(have k5:(n.k == 5) = false:=by rw [beq_eq_false_iff_ne];exact fun q=>h45 (Or.inr q));by_cases h67:n.k = 6 \/ n.k = 7
   ·
    have HO:=first_one (f:=g) hj0 hget h45 h67;by_cases ha:n.a = ((j:Nat):Int) - 1
    ·
     rw [if_neg (by omega)] at HO;have H1:=Hd (IH (((j:Nat):Int) - 1) w (Below.refl _ _) (by omega) (by omega) (by omega));generalize firstF l g (((j:Nat):Int) - 1) = b1 at *;have HO:=Hd HO;(have haB:(n.a == ((j:Nat):Int) - 1) = true:=by rw [beq_iff_eq];exact ha);clear hle hget IH hN hf hi h1 hl h0 h45 ha;rcases h67 with h67 | h67
     · (have kk:(n.k == 6) = true:=by rw [beq_iff_eq];exact h67);clear h67;go_enter Tryz.func124,Tryz.ntmps124;go_wp2_with (go_at_call 124;have hq:=H1.out;clear H1;refine hq.mono ?_;clear hq;rintro e w1 ⟨rfl,hb⟩;have c5:=(hb.cell (lt_cell q5)).trans q5;have HB1:=Hd hb;clear hb);go_ret;exact ⟨by rw [HO.out];rfl,HB1.out⟩
     · (have kk:(n.k == 7) = true:=by rw [beq_iff_eq];exact h67);(have kn:(n.k == 6) = false:=by rw [beq_eq_false_iff_ne];omega);clear h67;go_enter Tryz.func124,Tryz.ntmps124;go_wp2_with (go_at_call 124;have hq:=H1.out;clear H1;refine hq.mono ?_;clear hq;rintro e w1 ⟨rfl,hb⟩;have c5:=(hb.cell (lt_cell q5)).trans q5;have HB1:=Hd hb;clear hb);go_ret;exact ⟨by rw [HO.out];rfl,HB1.out⟩
    ·
     rw [if_pos ha] at HO;have HO:=Hd HO;(have haB:(n.a == ((j:Nat):Int) - 1) = false:=by rw [beq_eq_false_iff_ne];exact ha);clear hle hget IH hN hf hi h1 hl h0 h45 ha;rcases h67 with h67 | h67
     · (have kk:(n.k == 6) = true:=by rw [beq_iff_eq];exact h67);clear h67;go_enter Tryz.func124,Tryz.ntmps124;go_wp2;go_ret;exact ⟨by rw [HO.out];rfl,Below.refl _ _⟩
     · (have kk:(n.k == 7) = true:=by rw [beq_iff_eq];exact h67);(have kn:(n.k == 6) = false:=by rw [beq_eq_false_iff_ne];omega);clear h67;go_enter Tryz.func124,Tryz.ntmps124;go_wp2;go_ret;exact ⟨by rw [HO.out];rfl,Below.refl _ _⟩
   · have HO:=Hd (first_leaf (f:=g) hj0 hget h45 h67);(have k6:(n.k == 6) = false:=by rw [beq_eq_false_iff_ne];exact fun q=>h67 (Or.inl q));(have k7:(n.k == 7) = false:=by rw [beq_eq_false_iff_ne];exact fun q=>h67 (Or.inr q));clear hle hget IH hN hf hi h1 hl h0 h45 h67;go_enter Tryz.func124,Tryz.ntmps124;go_wp2;go_ret;exact ⟨by rw [HO.out];rfl,Below.refl _ _⟩
end Go.Proofs.YtinallojhkaogaaGreatDoor.Rx
