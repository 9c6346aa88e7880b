/- SubstBack: the walk. -/
import Derived.Test.YtinallojhkaogaaGreatDoorSbVPk
import Derived.Test.YtinallojhkaogaaGreatDoorSbRPk
import Derived.Test.YtinallojhkaogaaGreatDoorGk35
namespace Go.Proofs.YtinallojhkaogaaGreatDoor.Mt
open Go.RowKit Go.Shelf
open Go.Proofs.YtinallojhkaogaaGreatDoor.Rx
set_option linter.unusedVariables false
set_option linter.unusedSimpArgs false
set_option maxRecDepth 100000 in
set_option maxHeartbeats 6400000 in
theorem back_long (W : World) (hsh : ∀ W' : World, Below W.heap.size W W' → Calls Tryz.prog 29 #[] W' fun e w' => e = .returned (.bool true) ∧ Below W'.heap.size W' w') (s : List UInt8) (ao : Option Addr) (c : Nat) (l : List Pt) (hs : 300 < s.length) : Calls Tryz.prog 7 #[S s, .slice ao l.length c] W fun e W' => e = .returned (.bool true) ∧ Below W.heap.size W W' := by
  have HB0 := Lib.hid (Below.refl W.heap.size W)
  have HSH := Lib.hid hsh
  have hgt : (300 : Int) < (s.length : Int) := by omega
  clear hsh hs
  go_enter Tryz.func7, Tryz.ntmps7
  go_wp2_with (go_at_call 29; refine (HSH.out _ HB0.out).mono ?_; rintro e w2 ⟨rfl, hb⟩; have HB1 := Lib.hid (HB0.out.trans (hb.mono HB0.out.size)); clear hb)
  go_ret
  exact ⟨rfl, HB1.out⟩
set_option maxRecDepth 100000 in
set_option maxHeartbeats 6400000 in
theorem back_wide (W : World) (hsh : ∀ W' : World, Below W.heap.size W W' → Calls Tryz.prog 29 #[] W' fun e w' => e = .returned (.bool true) ∧ Below W'.heap.size W' w') (s : List UInt8) (ao : Option Addr) (c : Nat) (l : List Pt) (hs : s.length ≤ 300) (hbd : ∀ W' : World, Calls Tryz.prog 32 #[.slice ao l.length c] W fun e w' => e = .returned (.bool false) ∧ W = w') : Calls Tryz.prog 7 #[S s, .slice ao l.length c] W fun e W' => e = .returned (.bool true) ∧ Below W.heap.size W W' := by
  have HB0 := Lib.hid (Below.refl W.heap.size W)
  have HSH := Lib.hid hsh
  have HBD := Lib.hid hbd
  have hgt : ¬ (300 : Int) < (s.length : Int) := by omega
  clear hsh hs hbd
  go_enter Tryz.func7, Tryz.ntmps7
  go_wp2_with (first
    | (go_at_call 32; refine (HBD.out W).mono ?_; rintro e w1 ⟨rfl, rfl⟩)
    | (go_at_call 29; refine (HSH.out _ HB0.out).mono ?_; rintro e w2 ⟨rfl, hb⟩; have HB1 := Lib.hid (HB0.out.trans (hb.mono HB0.out.size)); clear hb))
  go_ret
  exact ⟨rfl, HB1.out⟩
set_option maxRecDepth 100000 in
set_option maxHeartbeats 6400000 in
theorem back_yy (W : World) (hsh : ∀ W' : World, Below W.heap.size W W' → Calls Tryz.prog 29 #[] W' fun e w' => e = .returned (.bool true) ∧ Below W'.heap.size W' w') (s : List UInt8) (ao : Option Addr) (c : Nat) (l : List Pt) (hs : s.length ≤ 300) (hbd : ∀ W' : World, Calls Tryz.prog 32 #[.slice ao l.length c] W fun e w' => e = .returned (.bool true) ∧ W = w') (hL : Lay W) (h : PI2 W ao l) (hl1 : l.length ≤ 40) (hl2 : ∀ p ∈ l, p.t.length ≤ 100) (r : List Pt) (j : Nat) (hp1 : parS s 0 [] [] = (some r, j)) (z : List UInt8) (hz : printP 0 l = some z) : Calls Tryz.prog 7 #[S s, .slice ao l.length c] W fun e W' => e = .returned (.bool true) ∧ Below W.heap.size W W' := by
  have HB0 := Lib.hid (Below.refl W.heap.size W)
  have HSH := Lib.hid hsh
  have HBD := Lib.hid hbd
  have HLY := Lib.hid hL
  have hgt : ¬ (300 : Int) < (s.length : Int) := by omega
  have HPI := Lib.hid h
  have HPA := Lib.hid (fun W' : World => show Calls Tryz.prog 33 #[S s] W' (fun e w' => ∃ v, e = .returned (.tuple #[v, E 0, E 0]) ∧ w'.ownsRow W'.heap.size 55 2 v r.length (flP r) ∧ Below W'.heap.size W' w') from sparse_any s (by omega) W' _ hp1)
  obtain ⟨y, hy1, hy2, hy3⟩ := par_back hp1
  obtain ⟨hg1, hg2⟩ := print_ge r 0 y hy1
  have HPR := Lib.hid (fun (a3 : Option Addr) (c3 : Nat) (W' : World) (hW : Lay W') (hp : PIn W' a3 r) => print_any a3 c3 r W' hW hp.two (by omega) (fun p hp => by have := hg2 p hp; omega) (some y) hy1.symm)
  have HPB := Lib.hid (fun W' : World => show Calls Tryz.prog 33 #[S y] W' (fun e w' => ∃ v, e = .returned (.tuple #[v, E 0, E 0]) ∧ w'.ownsRow W'.heap.size 55 2 v r.length (flP r) ∧ Below W'.heap.size W' w') from sparse_any y (by omega) W' _ hy3)
  have HPT1 := Lib.hid (fun (a3 : Option Addr) (c3 : Nat) (W' : World) (hp : PIn W' a3 r) => parts_any a3 c3 r W' hp.two (by omega))
  have HPT2 := HPT1
  have HRL := Lib.hid (show r.length ≤ 100000 from by omega)
  clear hp1 hy1 hy2 hy3 hg1 hg2
  have HPL := Lib.hid (fun (W' : World) (hb : Below W.heap.size W W') => print_any ao c l W' (hL.below hb) (h.below hb) (by omega) (fun p hp => by have := hl2 p hp; omega) (some z) hz.symm)
  have hz2 : parS z 0 [] [] = (some l, 0) := by have := par_print l 0 z [] 0 [] hz (fun _ => rfl); simpa [flushP] using this
  have hz3 := print_le l 0 z hz hl2
  have HPC := Lib.hid (fun W' : World => show Calls Tryz.prog 33 #[S z] W' (fun e w' => ∃ v, e = .returned (.tuple #[v, E 0, E 0]) ∧ w'.ownsRow W'.heap.size 55 2 v l.length (flP l) ∧ Below W'.heap.size W' w') from sparse_any z (by omega) W' _ hz2)
  have HPS1 := Lib.hid (fun (a3 : Option Addr) (c3 : Nat) (W' : World) (hp : PI2 W' a3 l) => parts_any a3 c3 l W' hp (by omega))
  have HPS2 := HPS1
  have HLL := Lib.hid (show l.length ≤ 100000 from by omega)
  clear hz hz2 hz3
  clear hsh hbd hL h hs hl1 hl2
  go_enter Tryz.func7, Tryz.ntmps7
  go_wp2_with (first
    | (go_at_call 32; refine (HBD.out W).mono ?_; rintro e w1 ⟨rfl, rfl⟩)
    | (go_at_call 29; refine (HSH.out _ HB0.out).mono ?_; rintro e w2 ⟨rfl, hb⟩; have HB1 := Lib.hid (HB0.out.trans (hb.mono HB0.out.size)); clear hb HB0)
    | (go_at_call 33; refine (HPA.out _).mono ?_; rintro e w3 hq; obtain ⟨v, rfl, ho, hb⟩ := hq; obtain ⟨a3, c3, rfl, hp⟩ := pin_own9 ho; clear ho; have HB3 := Lib.hid (HB1.out.trans (hb.mono HB1.out.size)); have FA := Lib.hid hp; clear hb HB1 hp HPA)
    | (go_at_call 34; refine (HPR.out a3 c3 _ (HLY.out.below HB3.out) FA.out).mono ?_; rintro e w4 ⟨he, hb⟩; obtain rfl : e = .returned (.tuple #[S y, E 0]) := he; have FAq := Lib.hid (FA.out.below hb); have HB4 := Lib.hid (HB3.out.trans (hb.mono HB3.out.size)); clear hb HB3 FA HPR)
    | (go_at_call 33; refine (HPB.out _).mono ?_; rintro e w5 hq; obtain ⟨v, rfl, ho, hb⟩ := hq; obtain ⟨a5, c5, rfl, hp⟩ := pin_own9 ho; clear ho; have FAqq := Lib.hid (FAq.out.below hb); have HB5 := Lib.hid (HB4.out.trans (hb.mono HB4.out.size)); have FB := Lib.hid hp; clear hb HB4 FAq hp HPB)
    | (go_at_call 36; refine (HPT1.out a3 c3 _ FAqq.out).mono ?_; rintro e w6 ⟨v, rfl, ho, hb⟩; obtain ⟨a6, c6, rfl, hp⟩ := pin_own9 ho; clear ho; have FAqqq := Lib.hid (FAqq.out.below hb); have FBq := Lib.hid (FB.out.below hb); have HB6 := Lib.hid (HB5.out.trans (hb.mono HB5.out.size)); have FC := Lib.hid hp; clear hb HB5 FAqq FB hp HPT1)
    | (go_at_call 36; refine (HPT2.out a5 c5 _ FBq.out).mono ?_; rintro e w7 ⟨v, rfl, ho, hb⟩; obtain ⟨a7, c7, rfl, hp⟩ := pin_own9 ho; clear ho; have FAqqqq := Lib.hid (FAqqq.out.below hb); have FBqq := Lib.hid (FBq.out.below hb); have FCq := Lib.hid (FC.out.below hb); have HB7 := Lib.hid (HB6.out.trans (hb.mono HB6.out.size)); have FD := Lib.hid hp; clear hb HB6 FAqqq FBq FC hp HPT2)
    | (go_at_call 35; refine (same9_yes a6 a7 c6 c7 r HRL.out _ FCq.out FD.out).mono ?_; rintro e w8 ⟨rfl, hb⟩; have FAqqqqq := Lib.hid (FAqqqq.out.below hb); have FBqqq := Lib.hid (FBqq.out.below hb); have FCqq := Lib.hid (FCq.out.below hb); have FDq := Lib.hid (FD.out.below hb); have HB8 := Lib.hid (HB7.out.trans (hb.mono HB7.out.size)); clear hb HB7 FAqqqq FBqq FCq FD)
    | (go_at_call 34; refine (HPL.out _ HB8.out).mono ?_; rintro e w9 ⟨he, hb⟩; obtain rfl : e = .returned (.tuple #[S z, E 0]) := he; have HB9 := Lib.hid (HB8.out.trans (hb.mono HB8.out.size)); clear hb HB8 HPL)
    | (go_at_call 33; refine (HPC.out _).mono ?_; rintro e w10 hq; obtain ⟨v, rfl, ho, hb⟩ := hq; obtain ⟨b3, d3, rfl, hp⟩ := pin_own9 ho; clear ho; have HB10 := Lib.hid (HB9.out.trans (hb.mono HB9.out.size)); have GA := Lib.hid hp; clear hb HB9 hp HPC)
    | (go_at_call 36; refine (HPS1.out b3 d3 _ GA.out.two).mono ?_; rintro e w11 ⟨v, rfl, ho, hb⟩; obtain ⟨b6, d6, rfl, hp⟩ := pin_own9 ho; clear ho; have GAq := Lib.hid (GA.out.below hb); have HB11 := Lib.hid (HB10.out.trans (hb.mono HB10.out.size)); have GC := Lib.hid hp; clear hb HB10 GA hp HPS1)
    | (go_at_call 36; refine (HPS2.out ao c _ (HPI.out.below HB11.out)).mono ?_; rintro e w12 ⟨v, rfl, ho, hb⟩; obtain ⟨b7, d7, rfl, hp⟩ := pin_own9 ho; clear ho; have GAqq := Lib.hid (GAq.out.below hb); have GCq := Lib.hid (GC.out.below hb); have HB12 := Lib.hid (HB11.out.trans (hb.mono HB11.out.size)); have GD := Lib.hid hp; clear hb HB11 GAq GC hp HPS2)
    | (go_at_call 35; refine (same9_yes b6 b7 d6 d7 l HLL.out _ GCq.out GD.out).mono ?_; rintro e w13 ⟨rfl, hb⟩; have GAqqq := Lib.hid (GAqq.out.below hb); have GCqq := Lib.hid (GCq.out.below hb); have GDq := Lib.hid (GD.out.below hb); have HB13 := Lib.hid (HB12.out.trans (hb.mono HB12.out.size)); clear hb HB12 GAqq GCq GD))
  go_ret
  exact ⟨rfl, HB13.out⟩
set_option maxRecDepth 100000 in
set_option maxHeartbeats 6400000 in
theorem back_yn (W : World) (hsh : ∀ W' : World, Below W.heap.size W W' → Calls Tryz.prog 29 #[] W' fun e w' => e = .returned (.bool true) ∧ Below W'.heap.size W' w') (s : List UInt8) (ao : Option Addr) (c : Nat) (l : List Pt) (hs : s.length ≤ 300) (hbd : ∀ W' : World, Calls Tryz.prog 32 #[.slice ao l.length c] W fun e w' => e = .returned (.bool true) ∧ W = w') (hL : Lay W) (h : PI2 W ao l) (hl1 : l.length ≤ 40) (hl2 : ∀ p ∈ l, p.t.length ≤ 100) (r : List Pt) (j : Nat) (hp1 : parS s 0 [] [] = (some r, j)) (hz : printP 0 l = none) : Calls Tryz.prog 7 #[S s, .slice ao l.length c] W fun e W' => e = .returned (.bool true) ∧ Below W.heap.size W W' := by
  have HB0 := Lib.hid (Below.refl W.heap.size W)
  have HSH := Lib.hid hsh
  have HBD := Lib.hid hbd
  have HLY := Lib.hid hL
  have hgt : ¬ (300 : Int) < (s.length : Int) := by omega
  have HPI := Lib.hid h
  have HPA := Lib.hid (fun W' : World => show Calls Tryz.prog 33 #[S s] W' (fun e w' => ∃ v, e = .returned (.tuple #[v, E 0, E 0]) ∧ w'.ownsRow W'.heap.size 55 2 v r.length (flP r) ∧ Below W'.heap.size W' w') from sparse_any s (by omega) W' _ hp1)
  obtain ⟨y, hy1, hy2, hy3⟩ := par_back hp1
  obtain ⟨hg1, hg2⟩ := print_ge r 0 y hy1
  have HPR := Lib.hid (fun (a3 : Option Addr) (c3 : Nat) (W' : World) (hW : Lay W') (hp : PIn W' a3 r) => print_any a3 c3 r W' hW hp.two (by omega) (fun p hp => by have := hg2 p hp; omega) (some y) hy1.symm)
  have HPB := Lib.hid (fun W' : World => show Calls Tryz.prog 33 #[S y] W' (fun e w' => ∃ v, e = .returned (.tuple #[v, E 0, E 0]) ∧ w'.ownsRow W'.heap.size 55 2 v r.length (flP r) ∧ Below W'.heap.size W' w') from sparse_any y (by omega) W' _ hy3)
  have HPT1 := Lib.hid (fun (a3 : Option Addr) (c3 : Nat) (W' : World) (hp : PIn W' a3 r) => parts_any a3 c3 r W' hp.two (by omega))
  have HPT2 := HPT1
  have HRL := Lib.hid (show r.length ≤ 100000 from by omega)
  clear hp1 hy1 hy2 hy3 hg1 hg2
  have HPL := Lib.hid (fun (W' : World) (hb : Below W.heap.size W W') => print_any ao c l W' (hL.below hb) (h.below hb) (by omega) (fun p hp => by have := hl2 p hp; omega) none hz.symm)
  clear hz
  clear hsh hbd hL h hs hl1 hl2
  go_enter Tryz.func7, Tryz.ntmps7
  go_wp2_with (first
    | (go_at_call 32; refine (HBD.out W).mono ?_; rintro e w1 ⟨rfl, rfl⟩)
    | (go_at_call 29; refine (HSH.out _ HB0.out).mono ?_; rintro e w2 ⟨rfl, hb⟩; have HB1 := Lib.hid (HB0.out.trans (hb.mono HB0.out.size)); clear hb HB0)
    | (go_at_call 33; refine (HPA.out _).mono ?_; rintro e w3 hq; obtain ⟨v, rfl, ho, hb⟩ := hq; obtain ⟨a3, c3, rfl, hp⟩ := pin_own9 ho; clear ho; have HB3 := Lib.hid (HB1.out.trans (hb.mono HB1.out.size)); have FA := Lib.hid hp; clear hb HB1 hp HPA)
    | (go_at_call 34; refine (HPR.out a3 c3 _ (HLY.out.below HB3.out) FA.out).mono ?_; rintro e w4 ⟨he, hb⟩; obtain rfl : e = .returned (.tuple #[S y, E 0]) := he; have FAq := Lib.hid (FA.out.below hb); have HB4 := Lib.hid (HB3.out.trans (hb.mono HB3.out.size)); clear hb HB3 FA HPR)
    | (go_at_call 33; refine (HPB.out _).mono ?_; rintro e w5 hq; obtain ⟨v, rfl, ho, hb⟩ := hq; obtain ⟨a5, c5, rfl, hp⟩ := pin_own9 ho; clear ho; have FAqq := Lib.hid (FAq.out.below hb); have HB5 := Lib.hid (HB4.out.trans (hb.mono HB4.out.size)); have FB := Lib.hid hp; clear hb HB4 FAq hp HPB)
    | (go_at_call 36; refine (HPT1.out a3 c3 _ FAqq.out).mono ?_; rintro e w6 ⟨v, rfl, ho, hb⟩; obtain ⟨a6, c6, rfl, hp⟩ := pin_own9 ho; clear ho; have FAqqq := Lib.hid (FAqq.out.below hb); have FBq := Lib.hid (FB.out.below hb); have HB6 := Lib.hid (HB5.out.trans (hb.mono HB5.out.size)); have FC := Lib.hid hp; clear hb HB5 FAqq FB hp HPT1)
    | (go_at_call 36; refine (HPT2.out a5 c5 _ FBq.out).mono ?_; rintro e w7 ⟨v, rfl, ho, hb⟩; obtain ⟨a7, c7, rfl, hp⟩ := pin_own9 ho; clear ho; have FAqqqq := Lib.hid (FAqqq.out.below hb); have FBqq := Lib.hid (FBq.out.below hb); have FCq := Lib.hid (FC.out.below hb); have HB7 := Lib.hid (HB6.out.trans (hb.mono HB6.out.size)); have FD := Lib.hid hp; clear hb HB6 FAqqq FBq FC hp HPT2)
    | (go_at_call 35; refine (same9_yes a6 a7 c6 c7 r HRL.out _ FCq.out FD.out).mono ?_; rintro e w8 ⟨rfl, hb⟩; have FAqqqqq := Lib.hid (FAqqqq.out.below hb); have FBqqq := Lib.hid (FBqq.out.below hb); have FCqq := Lib.hid (FCq.out.below hb); have FDq := Lib.hid (FD.out.below hb); have HB8 := Lib.hid (HB7.out.trans (hb.mono HB7.out.size)); clear hb HB7 FAqqqq FBqq FCq FD)
    | (go_at_call 34; refine (HPL.out _ HB8.out).mono ?_; rintro e w9 ⟨he, hb⟩; obtain rfl : e = .returned (.tuple #[S [], E 1]) := he; have HB9 := Lib.hid (HB8.out.trans (hb.mono HB8.out.size)); clear hb HB8 HPL))
  go_ret
  exact ⟨rfl, HB9.out⟩
set_option maxRecDepth 100000 in
set_option maxHeartbeats 6400000 in
theorem back_ny (W : World) (hsh : ∀ W' : World, Below W.heap.size W W' → Calls Tryz.prog 29 #[] W' fun e w' => e = .returned (.bool true) ∧ Below W'.heap.size W' w') (s : List UInt8) (ao : Option Addr) (c : Nat) (l : List Pt) (hs : s.length ≤ 300) (hbd : ∀ W' : World, Calls Tryz.prog 32 #[.slice ao l.length c] W fun e w' => e = .returned (.bool true) ∧ W = w') (hL : Lay W) (h : PI2 W ao l) (hl1 : l.length ≤ 40) (hl2 : ∀ p ∈ l, p.t.length ≤ 100) (j : Nat) (hp1 : parS s 0 [] [] = (none, j)) (z : List UInt8) (hz : printP 0 l = some z) : Calls Tryz.prog 7 #[S s, .slice ao l.length c] W fun e W' => e = .returned (.bool true) ∧ Below W.heap.size W W' := by
  have HB0 := Lib.hid (Below.refl W.heap.size W)
  have HSH := Lib.hid hsh
  have HBD := Lib.hid hbd
  have HLY := Lib.hid hL
  have hgt : ¬ (300 : Int) < (s.length : Int) := by omega
  have HPI := Lib.hid h
  have HPA := Lib.hid (fun W' : World => show Calls Tryz.prog 33 #[S s] W' (fun e w' => e = .returned (.tuple #[.slice none 0 0, E (j : Nat), E 90]) ∧ Below W'.heap.size W' w') from sparse_any s (by omega) W' _ hp1)
  clear hp1
  have HPL := Lib.hid (fun (W' : World) (hb : Below W.heap.size W W') => print_any ao c l W' (hL.below hb) (h.below hb) (by omega) (fun p hp => by have := hl2 p hp; omega) (some z) hz.symm)
  have hz2 : parS z 0 [] [] = (some l, 0) := by have := par_print l 0 z [] 0 [] hz (fun _ => rfl); simpa [flushP] using this
  have hz3 := print_le l 0 z hz hl2
  have HPC := Lib.hid (fun W' : World => show Calls Tryz.prog 33 #[S z] W' (fun e w' => ∃ v, e = .returned (.tuple #[v, E 0, E 0]) ∧ w'.ownsRow W'.heap.size 55 2 v l.length (flP l) ∧ Below W'.heap.size W' w') from sparse_any z (by omega) W' _ hz2)
  have HPS1 := Lib.hid (fun (a3 : Option Addr) (c3 : Nat) (W' : World) (hp : PI2 W' a3 l) => parts_any a3 c3 l W' hp (by omega))
  have HPS2 := HPS1
  have HLL := Lib.hid (show l.length ≤ 100000 from by omega)
  clear hz hz2 hz3
  clear hsh hbd hL h hs hl1 hl2
  go_enter Tryz.func7, Tryz.ntmps7
  go_wp2_with (first
    | (go_at_call 32; refine (HBD.out W).mono ?_; rintro e w1 ⟨rfl, rfl⟩)
    | (go_at_call 29; refine (HSH.out _ HB0.out).mono ?_; rintro e w2 ⟨rfl, hb⟩; have HB1 := Lib.hid (HB0.out.trans (hb.mono HB0.out.size)); clear hb HB0)
    | (go_at_call 33; refine (HPA.out _).mono ?_; rintro e w3 hq; obtain ⟨rfl, hb⟩ := hq; have HB3 := Lib.hid (HB1.out.trans (hb.mono HB1.out.size)); clear hb HB1 HPA)
    | (go_at_call 34; refine (HPL.out _ HB3.out).mono ?_; rintro e w4 ⟨he, hb⟩; obtain rfl : e = .returned (.tuple #[S z, E 0]) := he; have HB4 := Lib.hid (HB3.out.trans (hb.mono HB3.out.size)); clear hb HB3 HPL)
    | (go_at_call 33; refine (HPC.out _).mono ?_; rintro e w5 hq; obtain ⟨v, rfl, ho, hb⟩ := hq; obtain ⟨b3, d3, rfl, hp⟩ := pin_own9 ho; clear ho; have HB5 := Lib.hid (HB4.out.trans (hb.mono HB4.out.size)); have GA := Lib.hid hp; clear hb HB4 hp HPC)
    | (go_at_call 36; refine (HPS1.out b3 d3 _ GA.out.two).mono ?_; rintro e w6 ⟨v, rfl, ho, hb⟩; obtain ⟨b6, d6, rfl, hp⟩ := pin_own9 ho; clear ho; have GAq := Lib.hid (GA.out.below hb); have HB6 := Lib.hid (HB5.out.trans (hb.mono HB5.out.size)); have GC := Lib.hid hp; clear hb HB5 GA hp HPS1)
    | (go_at_call 36; refine (HPS2.out ao c _ (HPI.out.below HB6.out)).mono ?_; rintro e w7 ⟨v, rfl, ho, hb⟩; obtain ⟨b7, d7, rfl, hp⟩ := pin_own9 ho; clear ho; have GAqq := Lib.hid (GAq.out.below hb); have GCq := Lib.hid (GC.out.below hb); have HB7 := Lib.hid (HB6.out.trans (hb.mono HB6.out.size)); have GD := Lib.hid hp; clear hb HB6 GAq GC hp HPS2)
    | (go_at_call 35; refine (same9_yes b6 b7 d6 d7 l HLL.out _ GCq.out GD.out).mono ?_; rintro e w8 ⟨rfl, hb⟩; have GAqqq := Lib.hid (GAqq.out.below hb); have GCqq := Lib.hid (GCq.out.below hb); have GDq := Lib.hid (GD.out.below hb); have HB8 := Lib.hid (HB7.out.trans (hb.mono HB7.out.size)); clear hb HB7 GAqq GCq GD))
  go_ret
  exact ⟨rfl, HB8.out⟩
set_option maxRecDepth 100000 in
set_option maxHeartbeats 6400000 in
theorem back_nn (W : World) (hsh : ∀ W' : World, Below W.heap.size W W' → Calls Tryz.prog 29 #[] W' fun e w' => e = .returned (.bool true) ∧ Below W'.heap.size W' w') (s : List UInt8) (ao : Option Addr) (c : Nat) (l : List Pt) (hs : s.length ≤ 300) (hbd : ∀ W' : World, Calls Tryz.prog 32 #[.slice ao l.length c] W fun e w' => e = .returned (.bool true) ∧ W = w') (hL : Lay W) (h : PI2 W ao l) (hl1 : l.length ≤ 40) (hl2 : ∀ p ∈ l, p.t.length ≤ 100) (j : Nat) (hp1 : parS s 0 [] [] = (none, j)) (hz : printP 0 l = none) : Calls Tryz.prog 7 #[S s, .slice ao l.length c] W fun e W' => e = .returned (.bool true) ∧ Below W.heap.size W W' := by
  have HB0 := Lib.hid (Below.refl W.heap.size W)
  have HSH := Lib.hid hsh
  have HBD := Lib.hid hbd
  have HLY := Lib.hid hL
  have hgt : ¬ (300 : Int) < (s.length : Int) := by omega
  have HPI := Lib.hid h
  have HPA := Lib.hid (fun W' : World => show Calls Tryz.prog 33 #[S s] W' (fun e w' => e = .returned (.tuple #[.slice none 0 0, E (j : Nat), E 90]) ∧ Below W'.heap.size W' w') from sparse_any s (by omega) W' _ hp1)
  clear hp1
  have HPL := Lib.hid (fun (W' : World) (hb : Below W.heap.size W W') => print_any ao c l W' (hL.below hb) (h.below hb) (by omega) (fun p hp => by have := hl2 p hp; omega) none hz.symm)
  clear hz
  clear hsh hbd hL h hs hl1 hl2
  go_enter Tryz.func7, Tryz.ntmps7
  go_wp2_with (first
    | (go_at_call 32; refine (HBD.out W).mono ?_; rintro e w1 ⟨rfl, rfl⟩)
    | (go_at_call 29; refine (HSH.out _ HB0.out).mono ?_; rintro e w2 ⟨rfl, hb⟩; have HB1 := Lib.hid (HB0.out.trans (hb.mono HB0.out.size)); clear hb HB0)
    | (go_at_call 33; refine (HPA.out _).mono ?_; rintro e w3 hq; obtain ⟨rfl, hb⟩ := hq; have HB3 := Lib.hid (HB1.out.trans (hb.mono HB1.out.size)); clear hb HB1 HPA)
    | (go_at_call 34; refine (HPL.out _ HB3.out).mono ?_; rintro e w4 ⟨he, hb⟩; obtain rfl : e = .returned (.tuple #[S [], E 1]) := he; have HB4 := Lib.hid (HB3.out.trans (hb.mono HB3.out.size)); clear hb HB3 HPL))
  go_ret
  exact ⟨rfl, HB4.out⟩
theorem back_walk (W : World) (hsh : ∀ W' : World, Below W.heap.size W W' → Calls Tryz.prog 29 #[] W' fun e w' => e = .returned (.bool true) ∧ Below W'.heap.size W' w') (s : List UInt8) (ao : Option Addr) (c : Nat) (l : List Pt) (hL : Lay W) (h : PI2 W ao l) (m : l.length ≤ maxLen) (ht : ∀ p ∈ l, p.t.length ≤ maxLen) : Calls Tryz.prog 7 #[S s, .slice ao l.length c] W fun e W' => e = .returned (.bool true) ∧ Below W.heap.size W W' := by
  by_cases hs : s.length ≤ 300
  · cases hb : pbL l with
    | false => exact back_wide W hsh s ao c l hs fun W' => pbounded_any ao c l W h m ht false hb.symm
    | true =>
      obtain ⟨hl1, hl2⟩ := pbL_ok hb
      have hbd := fun W' : World => pbounded_any ao c l W h m ht true hb.symm
      rcases hp : parS s 0 [] [] with ⟨_ | r, j⟩ <;> cases hz : printP 0 l with
      | none => first | exact back_nn W hsh s ao c l hs hbd hL h hl1 hl2 j hp hz | exact back_yn W hsh s ao c l hs hbd hL h hl1 hl2 r j hp hz
      | some z => first | exact back_ny W hsh s ao c l hs hbd hL h hl1 hl2 j hp z hz | exact back_yy W hsh s ao c l hs hbd hL h hl1 hl2 r j hp z hz
  · exact back_long W hsh s ao c l (by omega)
end Go.Proofs.YtinallojhkaogaaGreatDoor.Mt
