/- AddrBack: the walk. -/
import Derived.Test.YtcijhfdccbgcpaaDoorAdS
import Derived.Test.YtcijhfdccbgcpaaDoorAdArg
namespace Go.Proofs.YtcijhfdccbgcpaaDoor.Ad
open Go.RowKit Go.Shelf
set_option linter.unusedVariables false
set_option linter.unusedSimpArgs false
set_option maxRecDepth 100000 in
set_option maxHeartbeats 1600000 in
theorem back_yes (a b : A3) (nt : Bool) (w : World) (hL : Lay w) (u : List UInt8) (hm : May a b) (hu : u.length ≤ 1000) (hp : printR a b nt = (u, 0)) :
    Calls Tryd.prog 6 #[RV a b nt] w fun e w' => e = .returned (.bool true) ∧ Below w.heap.size w w' := by
  have hq : parseP u = ((a, b, nt), 0) := (parse_print (by rw [hp]) (by rw [hp])).1
  have hd := decide_eq_true hm
  have HL := Lib.hid hL
  have HG0 : Hid (RCt 25 (w.alloc (Obj.cells #[E a.k, E a.n, E a.m, E b.k, E b.n, E b.m, .bool nt] 25)) w.heap.size a b nt) := Lib.hid (heap_alloc_new _ _)
  have HB0 := Lib.hid ((Below.refl w.heap.size w).alloc (Nat.le_refl _) (Obj.cells #[E a.k, E a.n, E a.m, E b.k, E b.n, E b.m, .bool nt] 25))
  have HP := Lib.hid (fun w' (h : Lay w') => print_any a b nt w' h)
  rw [hp] at HP
  have HQ := Lib.hid (fun w' (h : Lay w') => parse_any u w' h hu)
  rw [hq] at HQ
  unfold PV at HQ
  have HM := Lib.hid (fun w' => may_any a b nt w')
  rw [hd] at HM
  have HSH := Lib.hid (fun w1 (h : Lay w1) => shown_any w1 h)
  clear hp hq hd hu
  go_enter Tryd.func6, Tryd.ntmps6
  go_wp2_with (first
    | (go_at_call 13; refine (HP.out _ (HL.out.below HB0.out)).mono ?_; rintro e w1 ⟨rfl, hb⟩; have HG1 := Lib.hid (HG0.out.below hb); have HB1 := Lib.hid (HB0.out.trans (hb.mono HB0.out.size)); clear hb HP)
    | (go_at_call 16; refine (HQ.out _ (HL.out.below HB1.out)).mono ?_; rintro e w2 ⟨rfl, hb⟩; have HN2 := Lib.hid (heap_alloc_new w2 (.cells #[E a.k, E a.n, E a.m, E b.k, E b.n, E b.m, .bool nt] 25)); have HX2 := Lib.hid ((Below.refl w2.heap.size w2).alloc (Nat.le_refl _) (.cells #[E a.k, E a.n, E a.m, E b.k, E b.n, E b.m, .bool nt] 25)); have HG2 := Lib.hid ((HG1.out.below hb).below HX2.out); have HB2 := Lib.hid ((HB1.out.trans (hb.mono HB1.out.size)).trans (HX2.out.mono (HB1.out.trans (hb.mono HB1.out.size)).size)); clear hb HQ; obtain ⟨q0, q1, q2, q3, q4, q5, q6⟩ := RCt.cells HG2.out)
    | (go_at_call 12; refine (HSH.out _ (HL.out.below HB2.out)).mono ?_; rintro e w4 ⟨rfl, hb⟩; have HB4 := Lib.hid (HB2.out.trans (hb.mono HB2.out.size)); clear hb))
  go_ret
  exact ⟨rfl, HB4.out⟩
set_option maxRecDepth 100000 in
set_option maxHeartbeats 1600000 in
theorem back_no (a b : A3) (nt : Bool) (w : World) (hL : Lay w) (u : List UInt8) (hm : ¬ May a b) (hu0 : u = []) (hu : u.length ≤ 1000) (hp : printR a b nt = (u, 1)) :
    Calls Tryd.prog 6 #[RV a b nt] w fun e w' => e = .returned (.bool true) ∧ Below w.heap.size w w' := by
  have hq : parseP u = ((⟨0, 0, 0⟩, ⟨0, 0, 0⟩, false), 0) := by
    subst hu0
    exact (parse_print (by unfold printR; rw [if_pos (by decide)]) (by unfold printR; rw [if_pos (by decide)]; rfl)).1
  have hd := decide_eq_false hm
  subst hu0
  have HL := Lib.hid hL
  have HG0 : Hid (RCt 25 (w.alloc (Obj.cells #[E a.k, E a.n, E a.m, E b.k, E b.n, E b.m, .bool nt] 25)) w.heap.size a b nt) := Lib.hid (heap_alloc_new _ _)
  have HB0 := Lib.hid ((Below.refl w.heap.size w).alloc (Nat.le_refl _) (Obj.cells #[E a.k, E a.n, E a.m, E b.k, E b.n, E b.m, .bool nt] 25))
  have HP := Lib.hid (fun w' (h : Lay w') => print_any a b nt w' h)
  rw [hp] at HP
  have HQ := Lib.hid (fun w' (h : Lay w') => parse_any [] w' h hu)
  rw [hq] at HQ
  unfold PV at HQ
  have HM := Lib.hid (fun w' => may_any a b nt w')
  rw [hd] at HM
  have HSH := Lib.hid (fun w1 (h : Lay w1) => shown_any w1 h)
  clear hp hq hd hu
  go_enter Tryd.func6, Tryd.ntmps6
  go_wp2_with (first
    | (go_at_call 13; refine (HP.out _ (HL.out.below HB0.out)).mono ?_; rintro e w1 ⟨rfl, hb⟩; have HG1 := Lib.hid (HG0.out.below hb); have HB1 := Lib.hid (HB0.out.trans (hb.mono HB0.out.size)); clear hb HP)
    | (go_at_call 16; refine (HQ.out _ (HL.out.below HB1.out)).mono ?_; rintro e w2 ⟨rfl, hb⟩; have HN2 := Lib.hid (heap_alloc_new w2 (.cells #[E 0, E 0, E 0, E 0, E 0, E 0, .bool false] 25)); have HX2 := Lib.hid ((Below.refl w2.heap.size w2).alloc (Nat.le_refl _) (.cells #[E 0, E 0, E 0, E 0, E 0, E 0, .bool false] 25)); have HG2 := Lib.hid ((HG1.out.below hb).below HX2.out); have HB2 := Lib.hid ((HB1.out.trans (hb.mono HB1.out.size)).trans (HX2.out.mono (HB1.out.trans (hb.mono HB1.out.size)).size)); clear hb HQ; obtain ⟨q0, q1, q2, q3, q4, q5, q6⟩ := RCt.cells HG2.out)
    | (go_at_call 18; refine (HM.out _).mono ?_; rintro e w3 ⟨rfl, hb⟩; have HB3 := Lib.hid (HB2.out.trans (hb.mono HB2.out.size)); have HN3 := Lib.hid (RCt.below (a := ⟨0, 0, 0⟩) (b := ⟨0, 0, 0⟩) (n := false) HN2.out hb); clear hb; obtain ⟨r0, r1, r2, r3, r4, r5, r6⟩ := RCt.cells HN3.out)
    | (go_at_call 12; refine (HSH.out _ (HL.out.below HB3.out)).mono ?_; rintro e w4 ⟨rfl, hb⟩; have HB4 := Lib.hid (HB3.out.trans (hb.mono HB3.out.size)); clear hb))
  go_ret
  exact ⟨rfl, HB4.out⟩
theorem back_walk (a b : A3) (nt : Bool) (w : World) (hL : Lay w) :
    Calls Tryd.prog 6 #[RV a b nt] w fun e w' => e = .returned (.bool true) ∧ Below w.heap.size w w' := by
  by_cases hm : May a b
  · refine back_yes a b nt w hL _ hm ?_ (show printR a b nt = (textA a ++ tailB b ++ tailN nt, 0) from by unfold printR; rw [if_pos hm])
    have ha := textA_len hm.1
    have hb := textA_len hm.2.1
    have h1 : (tailB b).length ≤ 20 := by unfold tailB; split <;> simp; omega
    have h2 : (tailN nt).length ≤ 1 := by unfold tailN; split <;> simp
    simp only [List.length_append]
    omega
  · exact back_no a b nt w hL [] hm rfl (by simp) (by unfold printR; rw [if_neg hm])
theorem addrBack_walk (W : World) (hL : Lay W) (a b : A3) (nt : Bool) :
    Calls Tryd.prog 6 #[RV a b nt] W fun e w' => e = .returned (.bool true) ∧ Below W.heap.size W w' := back_walk a b nt W hL
end Go.Proofs.YtcijhfdccbgcpaaDoor.Ad
