/- Addresses: read: the walk. -/
import Derived.Test.YtcijhfdccbgcpaaDoorAdC
namespace Go.Proofs.YtcijhfdccbgcpaaDoor.Ad
open Go.RowKit Go.Shelf
set_option linter.unusedVariables false
set_option linter.unusedSimpArgs false
theorem readP_cons (c : UInt8) (r : List UInt8) : readP (c :: r) = if c :: r = [36] then ⟨2, atoiV (cutB 126 (c :: r)).1, 0⟩
    else if c = 47 then ⟨4, atoiV (Lib.trimB (c :: r) 47), 0⟩
    else if c = 43 then ⟨5, atoiV r, 0⟩
    else if c = 126 then ⟨6, atoiV (cutB 126 (c :: r)).2.1, 0⟩
    else if (cutB 126 (c :: r)).2.2 then ⟨3, atoiV (cutB 126 (c :: r)).1, atoiV (cutB 126 (c :: r)).2.1⟩
    else ⟨1, atoiV (cutB 126 (c :: r)).1, 0⟩ := rfl
theorem cut_len {c : UInt8} {l x y : List UInt8} {t : Bool} (h : cutB c l = (x, y, t)) : x.length ≤ l.length ∧ y.length ≤ l.length := by
  rcases ibyte c l with ⟨_, h2⟩ | ⟨k, _, _, h2⟩
  · rw [h2] at h
    obtain ⟨rfl, rfl, rfl⟩ : l = x ∧ [] = y ∧ false = t := by simpa using h
    simp
  · rw [h2] at h
    obtain ⟨rfl, rfl, rfl⟩ : l.take k = x ∧ l.drop (k + 1) = y ∧ true = t := by simpa using h
    simp; omega
theorem trimB_len (l : List UInt8) : (Lib.trimB l 47).length ≤ l.length := by
  have h1 : ∀ l : List UInt8, (l.dropWhile (· == 47)).length ≤ l.length := fun l => (List.dropWhile_sublist _).length_le
  unfold Lib.trimB Lib.trimLeftB Lib.trimRightB
  refine Nat.le_trans (h1 _) ?_
  rw [List.length_reverse]
  refine Nat.le_trans (h1 _) ?_
  simp
theorem byte_ne' {a : UInt8} {k : UInt8} (h : a ≠ k) : ((((a.toNat : Nat) : Int)) == ((k.toNat : Nat) : Int)) = false := by
  rw [beq_eq_false_iff_ne]; intro q; exact h (UInt8.toNat_inj.1 (by omega))
def RA (w0 : World) (a : A3) (w : World) : Prop := w.heap[w0.heap.size]? = some (.cells #[E a.k, E a.n, E a.m] 23 (0, 0)) ∧ Below w0.heap.size w0 w
theorem RA.below {w0 : World} {a : A3} {w w' : World} (h : RA w0 a w) (hb : Below w.heap.size w w') : RA w0 a w' := ⟨(hb.block _ (lt_heap h.1)).trans h.1, h.2.trans (hb.mono h.2.size)⟩
theorem ra0 (w : World) : RA w ⟨0, 0, 0⟩ (w.alloc (.cells #[E 0, E 0, E 0] 23)) := ⟨heap_alloc_new _ _, (Below.refl w.heap.size w).alloc (Nat.le_refl _) _⟩
theorem RA.cells {w0 : World} {a : A3} {w : World} (h : RA w0 a w) : (w.cell? ⟨w0.heap.size, 0, none⟩ = some (E a.k) ∧ w.cell? ⟨w0.heap.size, 1, none⟩ = some (E a.n) ∧ w.cell? ⟨w0.heap.size, 2, none⟩ = some (E a.m)) ∧
    (w.frozen? ⟨w0.heap.size, 0, none⟩ = false ∧ w.frozen? ⟨w0.heap.size, 1, none⟩ = false ∧ w.frozen? ⟨w0.heap.size, 2, none⟩ = false) := by
  have h1 := h.1
  exact ⟨⟨(Lib.cell_of_heap h1 0).trans rfl, (Lib.cell_of_heap h1 1).trans rfl, (Lib.cell_of_heap h1 2).trans rfl⟩, by simp [World.frozen?, h1], by simp [World.frozen?, h1], by simp [World.frozen?, h1]⟩
theorem RA.set0 {w0 : World} {a : A3} {w : World} (h : RA w0 a w) (x : Int) : RA w0 ⟨x, a.n, a.m⟩ (w.setCell ⟨w0.heap.size, 0, none⟩ (E x)) := ⟨Go.Joins.block_setCell h.1 (i := 0) (E x), h.2.setCell (by simp) _⟩
theorem RA.set1 {w0 : World} {a : A3} {w : World} (h : RA w0 a w) (x : Int) : RA w0 ⟨a.k, x, a.m⟩ (w.setCell ⟨w0.heap.size, 1, none⟩ (E x)) := ⟨Go.Joins.block_setCell h.1 (i := 1) (E x), h.2.setCell (by simp) _⟩
theorem RA.set2 {w0 : World} {a : A3} {w : World} (h : RA w0 a w) (x : Int) : RA w0 ⟨a.k, a.n, x⟩ (w.setCell ⟨w0.heap.size, 2, none⟩ (E x)) := ⟨Go.Joins.block_setCell h.1 (i := 2) (E x), h.2.setCell (by simp) _⟩
theorem RA.all {w0 : World} {a : A3} {w : World} (h : RA w0 a w) : RA w0 a (((w.setCell ⟨w0.heap.size, 0, none⟩ (E a.k)).setCell ⟨w0.heap.size, 1, none⟩ (E a.n)).setCell ⟨w0.heap.size, 2, none⟩ (E a.m)) := ((h.set0 a.k).set1 a.n).set2 a.m
theorem infoA : (Tryd.prog.info? 23).map (·.size) = some 3 := by kernel_rfl
theorem RA.ans {w0 : World} {a : A3} {w : World} (h : RA w0 a w) {tmps : Array Value} (hp : tmps.getD 2 undef = .pointer (some ⟨w0.heap.size, 0, none⟩)) : (results Tryd.f30 tmps).run Tryd.prog w = .ok (AV a) w :=
  ansA Tryd.underlying23 3 infoA rfl hp h.1 rfl
set_option maxRecDepth 100000 in
set_option maxHeartbeats 1600000 in
theorem read_nil  (w : World) (hL : Lay w)  :
    Calls Tryd.prog 30 #[S ([])] w fun e w' => e = .returned (AV (readP ([]))) ∧ Below w.heap.size w w' := by
  have HL := Lib.hid hL
  have HR0 := Lib.hid (ra0 w)
  have HC := Lib.hid (fun w' => cut_any ([]) 126 w' (by first | assumption | decide))
  have HX := Lib.hid (show cutB 126 ([]) = ([], [], false) from by rfl)
  have HO := Lib.hid (show readP ([]) = ⟨0, 0, 0⟩ from by rfl)
  go_enter Tryd.func30, Tryd.ntmps30
  go_wp2_with (go_at_call 29; refine (HC.out _).mono ?_; rintro e w1 ⟨he, hb⟩; unfold CutR at he; rw [HX.out] at he; subst he; have HR1 := Lib.hid (HR0.out.below hb); clear hb; obtain ⟨⟨q0, q1, q2⟩, q3, q4, q5⟩ := HR1.out.cells)
  exact bodyPost_ret (v := AV ⟨0, 0, 0⟩) ((HR1.out.all).ans rfl) rfl ⟨by rw [HO.out], (HR1.out.all).2⟩
set_option maxRecDepth 100000 in
set_option maxHeartbeats 1600000 in
theorem read_dollar  (w : World) (hL : Lay w)  :
    Calls Tryd.prog 30 #[S ([36])] w fun e w' => e = .returned (AV (readP ([36]))) ∧ Below w.heap.size w w' := by
  have HL := Lib.hid hL
  have HR0 := Lib.hid (ra0 w)
  have HC := Lib.hid (fun w' => cut_any ([36]) 126 w' (by first | assumption | decide))
  have HX := Lib.hid (show cutB 126 ([36]) = ([36], [], false) from by rfl)
  have HO := Lib.hid (show readP ([36]) = ⟨2, atoiV [36], 0⟩ from by rfl)
  have HA := Lib.hid (fun w' (h : Lay w') => atoi_any [36] w' h (by decide))
  go_enter Tryd.func30, Tryd.ntmps30
  go_wp2_with (first
    | (go_at_call 29; refine (HC.out _).mono ?_; rintro e w1 ⟨he, hb⟩; unfold CutR at he; rw [HX.out] at he; subst he; have HR1 := Lib.hid (HR0.out.below hb); clear hb; obtain ⟨⟨q0, q1, q2⟩, q3, q4, q5⟩ := HR1.out.cells)
    | (go_at_call 46; refine (HA.out _ (HL.out.below (HR1.out.set0 2).2)).mono ?_; rintro e w2 ⟨ev2, rfl, hb⟩; have HR2 := Lib.hid (RA.below (HR1.out.set0 2) hb); clear hb; obtain ⟨⟨p20, p21, p22⟩, p23, p24, p25⟩ := HR2.out.cells))
  exact bodyPost_ret (v := AV ⟨2, atoiV [36], 0⟩) (((HR2.out.set1 (atoiV [36])).all).ans rfl) rfl ⟨by rw [HO.out], ((HR2.out.set1 (atoiV [36])).all).2⟩
set_option maxRecDepth 100000 in
set_option maxHeartbeats 1600000 in
theorem read_slash (c : UInt8) (r s x y : List UInt8) (two : Bool) (w : World) (hL : Lay w) (hs : s = c :: r) (h36 : s ≠ [36]) (hl : s.length ≤ 1000) (hcut : cutB 126 s = (x, y, two)) (hc : c = 47) :
    Calls Tryd.prog 30 #[S (s)] w fun e w' => e = .returned (AV (readP (s))) ∧ Below w.heap.size w w' := by
  have HL := Lib.hid hL
  have HR0 := Lib.hid (ra0 w)
  have HC := Lib.hid (fun w' => cut_any (s) 126 w' (by first | assumption | decide))
  have HX := Lib.hid (show cutB 126 (s) = (x, y, two) from by exact hcut)
  have HO := Lib.hid (show readP (s) = ⟨4, atoiV (Lib.trimB s 47), 0⟩ from by subst hc; subst hs; rw [readP_cons, if_neg h36, if_pos rfl])
  have hlx := cut_len hcut
  have hne : (s == []) = false := by rw [hs]; rfl
  have h36B : (s == [36]) = false := by rw [beq_eq_false_iff_ne]; exact h36
  have hlt : 0 < s.length := by rw [hs]; simp
  have hx : ((ByteArray.mk s.toArray)[0]'hlt) = c := by subst hs; rfl
  have hsz : (ByteArray.mk s.toArray).size = s.length := by simp [ByteArray.size]
  have hlt' : (0 : Int) < ((s.length : Nat) : Int) := by omega
  have HT := Lib.hid (fun w' => trim_any s w' hl)
  have HA := Lib.hid (fun w' (h : Lay w') => atoi_any (Lib.trimB s 47) w' h (by have := trimB_len s; omega))
  subst hc
  go_enter Tryd.func30, Tryd.ntmps30
  clear hs h36 hcut
  go_wp2_with (first
    | (go_at_call 29; refine (HC.out _).mono ?_; rintro e w1 ⟨he, hb⟩; unfold CutR at he; rw [HX.out] at he; subst he; have HR1 := Lib.hid (HR0.out.below hb); clear hb; obtain ⟨⟨q0, q1, q2⟩, q3, q4, q5⟩ := HR1.out.cells)
    | (go_at_call 45; refine (HT.out _).mono ?_; rintro e w3 ⟨rfl, hb⟩; have HR3 := Lib.hid ((HR1.out.set0 4).below hb); clear hb; obtain ⟨⟨r0, r1, r2⟩, r3, r4, r5⟩ := HR3.out.cells)
    | (go_at_call 46; refine (HA.out _ (HL.out.below HR3.out.2)).mono ?_; rintro e w4 ⟨ev4, rfl, hb⟩; have HR4 := Lib.hid (RA.below HR3.out hb); clear hb; obtain ⟨⟨p40, p41, p42⟩, p43, p44, p45⟩ := HR4.out.cells))
  exact bodyPost_ret (v := AV ⟨4, atoiV (Lib.trimB s 47), 0⟩) (((HR4.out.set1 (atoiV (Lib.trimB s 47))).all).ans rfl) rfl ⟨by rw [HO.out], ((HR4.out.set1 (atoiV (Lib.trimB s 47))).all).2⟩
set_option maxRecDepth 100000 in
set_option maxHeartbeats 1600000 in
theorem read_plus (c : UInt8) (r s x y : List UInt8) (two : Bool) (w : World) (hL : Lay w) (hs : s = c :: r) (h36 : s ≠ [36]) (hl : s.length ≤ 1000) (hcut : cutB 126 s = (x, y, two)) (hc : c = 43) :
    Calls Tryd.prog 30 #[S (s)] w fun e w' => e = .returned (AV (readP (s))) ∧ Below w.heap.size w w' := by
  have HL := Lib.hid hL
  have HR0 := Lib.hid (ra0 w)
  have HC := Lib.hid (fun w' => cut_any (s) 126 w' (by first | assumption | decide))
  have HX := Lib.hid (show cutB 126 (s) = (x, y, two) from by exact hcut)
  have HO := Lib.hid (show readP (s) = ⟨5, atoiV r, 0⟩ from by subst hc; subst hs; rw [readP_cons, if_neg h36, if_neg (by decide), if_pos rfl])
  have hlx := cut_len hcut
  have hne : (s == []) = false := by rw [hs]; rfl
  have h36B : (s == [36]) = false := by rw [beq_eq_false_iff_ne]; exact h36
  have hlt : 0 < s.length := by rw [hs]; simp
  have hx : ((ByteArray.mk s.toArray)[0]'hlt) = c := by subst hs; rfl
  have hsz : (ByteArray.mk s.toArray).size = s.length := by simp [ByteArray.size]
  have hlt' : (0 : Int) < ((s.length : Nat) : Int) := by omega
  have e2 := ex_drop (l := s) 1
  have hr : s.drop 1 = r := by rw [hs]; rfl
  rw [hr] at e2
  have hlr : r.length ≤ 1000 := by rw [← hr]; simp; omega
  have HA := Lib.hid (fun w' (h : Lay w') => atoi_any r w' h hlr)
  have h1' : (1 : Int) ≤ ((s.length : Nat) : Int) := by omega
  clear hr
  subst hc
  go_enter Tryd.func30, Tryd.ntmps30
  clear hs h36 hcut
  go_wp2_with (first
    | (go_at_call 29; refine (HC.out _).mono ?_; rintro e w1 ⟨he, hb⟩; unfold CutR at he; rw [HX.out] at he; subst he; have HR1 := Lib.hid (HR0.out.below hb); clear hb; obtain ⟨⟨q0, q1, q2⟩, q3, q4, q5⟩ := HR1.out.cells)
    | (go_at_call 46; refine (HA.out _ (HL.out.below (HR1.out.set0 5).2)).mono ?_; rintro e w4 ⟨ev4, rfl, hb⟩; have HR4 := Lib.hid (RA.below (HR1.out.set0 5) hb); clear hb; obtain ⟨⟨p40, p41, p42⟩, p43, p44, p45⟩ := HR4.out.cells))
  exact bodyPost_ret (v := AV ⟨5, atoiV r, 0⟩) (((HR4.out.set1 (atoiV r)).all).ans rfl) rfl ⟨by rw [HO.out], ((HR4.out.set1 (atoiV r)).all).2⟩
set_option maxRecDepth 100000 in
set_option maxHeartbeats 1600000 in
theorem read_round (c : UInt8) (r s x y : List UInt8) (two : Bool) (w : World) (hL : Lay w) (hs : s = c :: r) (h36 : s ≠ [36]) (hl : s.length ≤ 1000) (hcut : cutB 126 s = (x, y, two)) (hc : c = 126) :
    Calls Tryd.prog 30 #[S (s)] w fun e w' => e = .returned (AV (readP (s))) ∧ Below w.heap.size w w' := by
  have HL := Lib.hid hL
  have HR0 := Lib.hid (ra0 w)
  have HC := Lib.hid (fun w' => cut_any (s) 126 w' (by first | assumption | decide))
  have HX := Lib.hid (show cutB 126 (s) = (x, y, two) from by exact hcut)
  have HO := Lib.hid (show readP (s) = ⟨6, atoiV y, 0⟩ from by subst hc; subst hs; rw [readP_cons, if_neg h36, if_neg (by decide), if_neg (by decide), if_pos rfl, hcut])
  have hlx := cut_len hcut
  have hne : (s == []) = false := by rw [hs]; rfl
  have h36B : (s == [36]) = false := by rw [beq_eq_false_iff_ne]; exact h36
  have hlt : 0 < s.length := by rw [hs]; simp
  have hx : ((ByteArray.mk s.toArray)[0]'hlt) = c := by subst hs; rfl
  have hsz : (ByteArray.mk s.toArray).size = s.length := by simp [ByteArray.size]
  have hlt' : (0 : Int) < ((s.length : Nat) : Int) := by omega
  have HA := Lib.hid (fun w' (h : Lay w') => atoi_any y w' h (by omega))
  subst hc
  go_enter Tryd.func30, Tryd.ntmps30
  clear hs h36 hcut
  go_wp2_with (first
    | (go_at_call 29; refine (HC.out _).mono ?_; rintro e w1 ⟨he, hb⟩; unfold CutR at he; rw [HX.out] at he; subst he; have HR1 := Lib.hid (HR0.out.below hb); clear hb; obtain ⟨⟨q0, q1, q2⟩, q3, q4, q5⟩ := HR1.out.cells)
    | (go_at_call 46; refine (HA.out _ (HL.out.below (HR1.out.set0 6).2)).mono ?_; rintro e w4 ⟨ev4, rfl, hb⟩; have HR4 := Lib.hid (RA.below (HR1.out.set0 6) hb); clear hb; obtain ⟨⟨p40, p41, p42⟩, p43, p44, p45⟩ := HR4.out.cells))
  exact bodyPost_ret (v := AV ⟨6, atoiV y, 0⟩) (((HR4.out.set1 (atoiV y)).all).ans rfl) rfl ⟨by rw [HO.out], ((HR4.out.set1 (atoiV y)).all).2⟩
set_option maxRecDepth 100000 in
set_option maxHeartbeats 1600000 in
theorem read_step (c : UInt8) (r s x y : List UInt8) (two : Bool) (w : World) (hL : Lay w) (hs : s = c :: r) (h36 : s ≠ [36]) (hl : s.length ≤ 1000) (hcut : cutB 126 s = (x, y, two)) (h47 : c ≠ 47) (h43 : c ≠ 43) (h126 : c ≠ 126) (h2 : two = true) :
    Calls Tryd.prog 30 #[S (s)] w fun e w' => e = .returned (AV (readP (s))) ∧ Below w.heap.size w w' := by
  have HL := Lib.hid hL
  have HR0 := Lib.hid (ra0 w)
  have HC := Lib.hid (fun w' => cut_any (s) 126 w' (by first | assumption | decide))
  have HX := Lib.hid (show cutB 126 (s) = (x, y, two) from by exact hcut)
  have HO := Lib.hid (show readP (s) = ⟨3, atoiV x, atoiV y⟩ from by subst h2; subst hs; rw [readP_cons, if_neg h36, if_neg h47, if_neg h43, if_neg h126, hcut]; rfl)
  have hlx := cut_len hcut
  have hne : (s == []) = false := by rw [hs]; rfl
  have h36B : (s == [36]) = false := by rw [beq_eq_false_iff_ne]; exact h36
  have hlt : 0 < s.length := by rw [hs]; simp
  have hx : ((ByteArray.mk s.toArray)[0]'hlt) = c := by subst hs; rfl
  have hsz : (ByteArray.mk s.toArray).size = s.length := by simp [ByteArray.size]
  have hlt' : (0 : Int) < ((s.length : Nat) : Int) := by omega
  have HA := Lib.hid (fun w' (h : Lay w') => atoi_any y w' h (by omega))
  have HA2 := Lib.hid (fun w' (h : Lay w') => atoi_any x w' h (by omega))
  have n47 : ((((c.toNat : Nat) : Int)) == 47) = false := byte_ne' h47
  have n43 : ((((c.toNat : Nat) : Int)) == 43) = false := byte_ne' h43
  have n126 : ((((c.toNat : Nat) : Int)) == 126) = false := byte_ne' h126
  subst h2
  clear h47 h43 h126
  go_enter Tryd.func30, Tryd.ntmps30
  clear hs h36 hcut
  go_wp2_with (first
    | (go_at_call 29; refine (HC.out _).mono ?_; rintro e w1 ⟨he, hb⟩; unfold CutR at he; rw [HX.out] at he; subst he; have HR1 := Lib.hid (HR0.out.below hb); clear hb; obtain ⟨⟨q0, q1, q2⟩, q3, q4, q5⟩ := HR1.out.cells)
    | (go_at_call 46; refine (HA.out _ (HL.out.below (HR1.out.set0 3).2)).mono ?_; rintro e w4 ⟨ev4, rfl, hb⟩; have HR4 := Lib.hid (RA.below (HR1.out.set0 3) hb); clear hb; clear HA; obtain ⟨⟨p40, p41, p42⟩, p43, p44, p45⟩ := HR4.out.cells)
    | (go_at_call 46; refine (HA2.out _ (HL.out.below (HR4.out.set2 (atoiV y)).2)).mono ?_; rintro e w5 ⟨ev5, rfl, hb⟩; have HR5 := Lib.hid (RA.below (HR4.out.set2 (atoiV y)) hb); clear hb; obtain ⟨⟨p50, p51, p52⟩, p53, p54, p55⟩ := HR5.out.cells))
  exact bodyPost_ret (v := AV ⟨3, atoiV x, atoiV y⟩) (((HR5.out.set1 (atoiV x)).all).ans rfl) rfl ⟨by rw [HO.out], ((HR5.out.set1 (atoiV x)).all).2⟩
set_option maxRecDepth 100000 in
set_option maxHeartbeats 1600000 in
theorem read_num (c : UInt8) (r s x y : List UInt8) (two : Bool) (w : World) (hL : Lay w) (hs : s = c :: r) (h36 : s ≠ [36]) (hl : s.length ≤ 1000) (hcut : cutB 126 s = (x, y, two)) (h47 : c ≠ 47) (h43 : c ≠ 43) (h126 : c ≠ 126) (h2 : two = false) :
    Calls Tryd.prog 30 #[S (s)] w fun e w' => e = .returned (AV (readP (s))) ∧ Below w.heap.size w w' := by
  have HL := Lib.hid hL
  have HR0 := Lib.hid (ra0 w)
  have HC := Lib.hid (fun w' => cut_any (s) 126 w' (by first | assumption | decide))
  have HX := Lib.hid (show cutB 126 (s) = (x, y, two) from by exact hcut)
  have HO := Lib.hid (show readP (s) = ⟨1, atoiV x, 0⟩ from by subst h2; subst hs; rw [readP_cons, if_neg h36, if_neg h47, if_neg h43, if_neg h126, hcut]; rfl)
  have hlx := cut_len hcut
  have hne : (s == []) = false := by rw [hs]; rfl
  have h36B : (s == [36]) = false := by rw [beq_eq_false_iff_ne]; exact h36
  have hlt : 0 < s.length := by rw [hs]; simp
  have hx : ((ByteArray.mk s.toArray)[0]'hlt) = c := by subst hs; rfl
  have hsz : (ByteArray.mk s.toArray).size = s.length := by simp [ByteArray.size]
  have hlt' : (0 : Int) < ((s.length : Nat) : Int) := by omega
  have HA2 := Lib.hid (fun w' (h : Lay w') => atoi_any x w' h (by omega))
  have n47 : ((((c.toNat : Nat) : Int)) == 47) = false := byte_ne' h47
  have n43 : ((((c.toNat : Nat) : Int)) == 43) = false := byte_ne' h43
  have n126 : ((((c.toNat : Nat) : Int)) == 126) = false := byte_ne' h126
  subst h2
  clear h47 h43 h126
  go_enter Tryd.func30, Tryd.ntmps30
  clear hs h36 hcut
  go_wp2_with (first
    | (go_at_call 29; refine (HC.out _).mono ?_; rintro e w1 ⟨he, hb⟩; unfold CutR at he; rw [HX.out] at he; subst he; have HR1 := Lib.hid (HR0.out.below hb); clear hb; obtain ⟨⟨q0, q1, q2⟩, q3, q4, q5⟩ := HR1.out.cells)
    | (go_at_call 46; refine (HA2.out _ (HL.out.below (HR1.out.set0 1).2)).mono ?_; rintro e w5 ⟨ev5, rfl, hb⟩; have HR5 := Lib.hid (RA.below (HR1.out.set0 1) hb); clear hb; obtain ⟨⟨p50, p51, p52⟩, p53, p54, p55⟩ := HR5.out.cells))
  exact bodyPost_ret (v := AV ⟨1, atoiV x, 0⟩) (((HR5.out.set1 (atoiV x)).all).ans rfl) rfl ⟨by rw [HO.out], ((HR5.out.set1 (atoiV x)).all).2⟩
theorem read_any (s : List UInt8) (w : World) (hL : Lay w) (hl : s.length ≤ 1000) :
    Calls Tryd.prog 30 #[S s] w fun e w' => e = .returned (AV (readP s)) ∧ Below w.heap.size w w' := by
  by_cases h36 : s = [36]
  · subst h36; exact read_dollar w hL
  cases hs : s with
  | nil => exact read_nil w hL
  | cons c r =>
    rw [hs] at h36 hl
    by_cases h47 : c = 47
    · exact read_slash c r _ _ _ _ w hL rfl h36 hl rfl h47
    by_cases h43 : c = 43
    · exact read_plus c r _ _ _ _ w hL rfl h36 hl rfl h43
    by_cases h126 : c = 126
    · exact read_round c r _ _ _ _ w hL rfl h36 hl rfl h126
    by_cases h2 : (cutB 126 (c :: r)).2.2 = true
    · exact read_step c r _ _ _ _ w hL rfl h36 hl rfl h47 h43 h126 h2
    · exact read_num c r _ _ _ _ w hL rfl h36 hl rfl h47 h43 h126 (Bool.eq_false_iff.2 h2)
end Go.Proofs.YtcijhfdccbgcpaaDoor.Ad
