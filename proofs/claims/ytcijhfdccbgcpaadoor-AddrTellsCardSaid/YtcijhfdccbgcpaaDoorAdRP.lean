/- The reference's Parse: the walk. -/
import Derived.Test.YtcijhfdccbgcpaaDoorAdRR
namespace Go.Proofs.YtcijhfdccbgcpaaDoor.Ad
open Go.RowKit Go.Shelf
set_option linter.unusedVariables false
set_option linter.unusedSimpArgs false
/-- The answer and the range that is put together. -/
def RS (w0 : World) (a b : A3) (n : Bool) (w : World) : Prop := RCt 33 w w0.heap.size ⟨0, 0, 0⟩ ⟨0, 0, 0⟩ false ∧ RCt 33 w (w0.heap.size + 1) a b n ∧ Below w0.heap.size w0 w
theorem RS.below {w0 : World} {a b : A3} {n : Bool} {w w' : World} (h : RS w0 a b n w) (hb : Below w.heap.size w w') : RS w0 a b n w' := ⟨h.1.below hb, h.2.1.below hb, h.2.2.trans (hb.mono h.2.2.size)⟩
theorem rs0 (w : World) (n : Bool) : RS w ⟨0, 0, 0⟩ ⟨0, 0, 0⟩ n ((w.alloc (.cells #[E 0, E 0, E 0, E 0, E 0, E 0, .bool false] 33)).alloc (.cells #[E 0, E 0, E 0, E 0, E 0, E 0, .bool n] 33)) := by
  have e1 : (w.alloc (.cells #[E 0, E 0, E 0, E 0, E 0, E 0, .bool false] 33)).heap.size = w.heap.size + 1 := by simp
  have h1 := heap_alloc_new w (.cells #[E 0, E 0, E 0, E 0, E 0, E 0, .bool false] 33)
  have h2 := heap_alloc_new (w.alloc (.cells #[E 0, E 0, E 0, E 0, E 0, E 0, .bool false] 33)) (.cells #[E 0, E 0, E 0, E 0, E 0, E 0, .bool n] 33)
  rw [e1] at h2
  refine ⟨?_, h2, ((Below.refl w.heap.size w).alloc (Nat.le_refl _) _).alloc (by simp) _⟩
  show _ = _
  rw [heap_alloc_old _ _ (by rw [e1]; omega), h1]
theorem last_at {l s : List UInt8} {z : UInt8} (hs : s = l ++ [z]) (h : s.length - 1 < (ByteArray.mk s.toArray).size) : (ByteArray.mk s.toArray)[s.length - 1]'h = z := by
  subst hs
  have h2 : ((l ++ [z])[(l ++ [z]).length - 1]'(by simp)) = z := by simp
  exact h2
theorem RS.s0 {w0 : World} {a b : A3} {n : Bool} {w : World} (h : RS w0 a b n w) (x : Int) : RS w0 ⟨x, a.n, a.m⟩ b n (w.setCell ⟨w0.heap.size + 1, 0, none⟩ (E x)) := by
  refine ⟨?_, Go.Joins.block_setCell h.2.1 (i := 0) (E x), h.2.2.setCell (by simp) _⟩
  show _ = _
  rw [Below.heap_setCell _ _ _ _ (by simp)]
  exact h.1
theorem RS.s1 {w0 : World} {a b : A3} {n : Bool} {w : World} (h : RS w0 a b n w) (x : Int) : RS w0 ⟨a.k, x, a.m⟩ b n (w.setCell ⟨w0.heap.size + 1, 1, none⟩ (E x)) := by
  refine ⟨?_, Go.Joins.block_setCell h.2.1 (i := 1) (E x), h.2.2.setCell (by simp) _⟩
  show _ = _
  rw [Below.heap_setCell _ _ _ _ (by simp)]
  exact h.1
theorem RS.s2 {w0 : World} {a b : A3} {n : Bool} {w : World} (h : RS w0 a b n w) (x : Int) : RS w0 ⟨a.k, a.n, x⟩ b n (w.setCell ⟨w0.heap.size + 1, 2, none⟩ (E x)) := by
  refine ⟨?_, Go.Joins.block_setCell h.2.1 (i := 2) (E x), h.2.2.setCell (by simp) _⟩
  show _ = _
  rw [Below.heap_setCell _ _ _ _ (by simp)]
  exact h.1
theorem RS.s3 {w0 : World} {a b : A3} {n : Bool} {w : World} (h : RS w0 a b n w) (x : Int) : RS w0 a ⟨x, b.n, b.m⟩ n (w.setCell ⟨w0.heap.size + 1, 3, none⟩ (E x)) := by
  refine ⟨?_, Go.Joins.block_setCell h.2.1 (i := 3) (E x), h.2.2.setCell (by simp) _⟩
  show _ = _
  rw [Below.heap_setCell _ _ _ _ (by simp)]
  exact h.1
theorem RS.s4 {w0 : World} {a b : A3} {n : Bool} {w : World} (h : RS w0 a b n w) (x : Int) : RS w0 a ⟨b.k, x, b.m⟩ n (w.setCell ⟨w0.heap.size + 1, 4, none⟩ (E x)) := by
  refine ⟨?_, Go.Joins.block_setCell h.2.1 (i := 4) (E x), h.2.2.setCell (by simp) _⟩
  show _ = _
  rw [Below.heap_setCell _ _ _ _ (by simp)]
  exact h.1
theorem RS.s5 {w0 : World} {a b : A3} {n : Bool} {w : World} (h : RS w0 a b n w) (x : Int) : RS w0 a ⟨b.k, b.n, x⟩ n (w.setCell ⟨w0.heap.size + 1, 5, none⟩ (E x)) := by
  refine ⟨?_, Go.Joins.block_setCell h.2.1 (i := 5) (E x), h.2.2.setCell (by simp) _⟩
  show _ = _
  rw [Below.heap_setCell _ _ _ _ (by simp)]
  exact h.1
theorem RS.setA {w0 : World} {a' b : A3} {n : Bool} {w : World} (h : RS w0 a' b n w) (a : A3) : RS w0 a b n ((((w).setCell ⟨w0.heap.size + 1, 0, none⟩ (E a.k)).setCell ⟨w0.heap.size + 1, 1, none⟩ (E a.n)).setCell ⟨w0.heap.size + 1, 2, none⟩ (E a.m)) := ((h.s0 a.k).s1 a.n).s2 a.m
theorem RS.setB {w0 : World} {a b' : A3} {n : Bool} {w : World} (h : RS w0 a b' n w) (b : A3) : RS w0 a b n ((((w).setCell ⟨w0.heap.size + 1, 3, none⟩ (E b.k)).setCell ⟨w0.heap.size + 1, 4, none⟩ (E b.n)).setCell ⟨w0.heap.size + 1, 5, none⟩ (E b.m)) := ((h.s3 b.k).s4 b.n).s5 b.m
theorem rct_unfrozen {t : TypeId} {w : World} {g : Nat} {a b : A3} {n : Bool} (h : RCt t w g a b n) : w.frozen? ⟨g, 0, none⟩ = false ∧ w.frozen? ⟨g, 1, none⟩ = false ∧ w.frozen? ⟨g, 2, none⟩ = false ∧ w.frozen? ⟨g, 3, none⟩ = false ∧ w.frozen? ⟨g, 4, none⟩ = false ∧ w.frozen? ⟨g, 5, none⟩ = false ∧ w.frozen? ⟨g, 6, none⟩ = false := by
  have h1 : w.heap[g]? = _ := h
  exact ⟨by simp [World.frozen?, h1], by simp [World.frozen?, h1], by simp [World.frozen?, h1], by simp [World.frozen?, h1], by simp [World.frozen?, h1], by simp [World.frozen?, h1], by simp [World.frozen?, h1]⟩
/-- An address in a new block. -/
def NA (g : Nat) (a : A3) (w : World) : Prop := w.heap[g]? = some (.cells #[E a.k, E a.n, E a.m] 31 (0, 0))
theorem NA.below {g : Nat} {a : A3} {w w' : World} (h : NA g a w) (hb : Below w.heap.size w w') : NA g a w' := (hb.block _ (lt_heap h)).trans h
theorem NA.cells {g : Nat} {a : A3} {w : World} (h : NA g a w) : w.cell? ⟨g, 0, none⟩ = some (E a.k) ∧ w.cell? ⟨g, 1, none⟩ = some (E a.n) ∧ w.cell? ⟨g, 2, none⟩ = some (E a.m) :=
  ⟨(Lib.cell_of_heap h 0).trans rfl, (Lib.cell_of_heap h 1).trans rfl, (Lib.cell_of_heap h 2).trans rfl⟩
theorem NA.keep {g : Nat} {a : A3} {w : World} (h : NA g a w) {m : Nat} (hm : m ≠ g) (i j k : Nat) (x y z : Value) : NA g a (((w.setCell ⟨m, i, none⟩ x).setCell ⟨m, j, none⟩ y).setCell ⟨m, k, none⟩ z) := by
  show _ = _
  rw [Below.heap_setCell _ _ _ _ (by simp; omega), Below.heap_setCell _ _ _ _ (by simp; omega), Below.heap_setCell _ _ _ _ (by simp; omega)]
  exact h
/-- The answer's block. -/
def RZ (w0 : World) (a b : A3) (n : Bool) (w : World) : Prop := RCt 33 w w0.heap.size a b n ∧ Below w0.heap.size w0 w
theorem RZ.s0 {w0 : World} {a b : A3} {n : Bool} {w : World} (h : RZ w0 a b n w) (x : Int) : RZ w0 ⟨x, a.n, a.m⟩ b n (w.setCell ⟨w0.heap.size, 0, none⟩ (E x)) := ⟨Go.Joins.block_setCell h.1 (i := 0) (E x), h.2.setCell (by simp) _⟩
theorem RZ.s1 {w0 : World} {a b : A3} {n : Bool} {w : World} (h : RZ w0 a b n w) (x : Int) : RZ w0 ⟨a.k, x, a.m⟩ b n (w.setCell ⟨w0.heap.size, 1, none⟩ (E x)) := ⟨Go.Joins.block_setCell h.1 (i := 1) (E x), h.2.setCell (by simp) _⟩
theorem RZ.s2 {w0 : World} {a b : A3} {n : Bool} {w : World} (h : RZ w0 a b n w) (x : Int) : RZ w0 ⟨a.k, a.n, x⟩ b n (w.setCell ⟨w0.heap.size, 2, none⟩ (E x)) := ⟨Go.Joins.block_setCell h.1 (i := 2) (E x), h.2.setCell (by simp) _⟩
theorem RZ.s3 {w0 : World} {a b : A3} {n : Bool} {w : World} (h : RZ w0 a b n w) (x : Int) : RZ w0 a ⟨x, b.n, b.m⟩ n (w.setCell ⟨w0.heap.size, 3, none⟩ (E x)) := ⟨Go.Joins.block_setCell h.1 (i := 3) (E x), h.2.setCell (by simp) _⟩
theorem RZ.s4 {w0 : World} {a b : A3} {n : Bool} {w : World} (h : RZ w0 a b n w) (x : Int) : RZ w0 a ⟨b.k, x, b.m⟩ n (w.setCell ⟨w0.heap.size, 4, none⟩ (E x)) := ⟨Go.Joins.block_setCell h.1 (i := 4) (E x), h.2.setCell (by simp) _⟩
theorem RZ.s5 {w0 : World} {a b : A3} {n : Bool} {w : World} (h : RZ w0 a b n w) (x : Int) : RZ w0 a ⟨b.k, b.n, x⟩ n (w.setCell ⟨w0.heap.size, 5, none⟩ (E x)) := ⟨Go.Joins.block_setCell h.1 (i := 5) (E x), h.2.setCell (by simp) _⟩
theorem RZ.s6 {w0 : World} {a b : A3} {n : Bool} {w : World} (h : RZ w0 a b n w) (x : Bool) : RZ w0 a b x (w.setCell ⟨w0.heap.size, 6, none⟩ (.bool x)) := ⟨Go.Joins.block_setCell h.1 (i := 6) (.bool x), h.2.setCell (by simp) _⟩
theorem RZ.set {w0 : World} {a' b' : A3} {n' : Bool} {w : World} (h : RZ w0 a' b' n' w) (a b : A3) (n : Bool) : RZ w0 a b n ((((((((w).setCell ⟨w0.heap.size, 0, none⟩ (E a.k)).setCell ⟨w0.heap.size, 1, none⟩ (E a.n)).setCell ⟨w0.heap.size, 2, none⟩ (E a.m)).setCell ⟨w0.heap.size, 3, none⟩ (E b.k)).setCell ⟨w0.heap.size, 4, none⟩ (E b.n)).setCell ⟨w0.heap.size, 5, none⟩ (E b.m)).setCell ⟨w0.heap.size, 6, none⟩ (.bool n)) :=
  ((((((h.s0 a.k).s1 a.n).s2 a.m).s3 b.k).s4 b.n).s5 b.m).s6 n
theorem RZ.ans {w0 : World} {a b : A3} {n : Bool} {w : World} (h : RZ w0 a b n w) {x : Int} {tmps : Array Value} (hx : tmps.getD 3 undef = E x) (hp : tmps.getD 2 undef = .pointer (some ⟨w0.heap.size, 0, none⟩)) : (results Tryd.f17 tmps).run Tryd.prog w = .ok (.tuple #[RV a b n, E x]) w :=
  ansP Tryd.underlying33 7 infoRR rfl hx hp h.1 rfl
theorem suffix_last (l : List UInt8) (z : UInt8) : Lib.hasSuffix (l ++ [z]) [33] = (33 == z) := by
  unfold Lib.hasSuffix List.isSuffixOf
  simp [List.isPrefixOf]
theorem cut44_step {l : List UInt8} {k : Nat} (h : k < l.length) : cutB 44 (l.drop k) = if l[k] = 44 then ([], l.drop (k + 1), true) else (l[k] :: (cutB 44 (l.drop (k + 1))).1, (cutB 44 (l.drop (k + 1))).2.1, (cutB 44 (l.drop (k + 1))).2.2) := by
  rw [List.drop_eq_getElem_cons h]; rfl
set_option maxRecDepth 100000 in
set_option maxHeartbeats 3200000 in
theorem rparse_e_na  (x y u : List UInt8) (two : Bool) (yb : Bool) (e : Int) (a b : A3) (w : World)  (hl : ([] : List UInt8).length ≤ 1000) (hx : cutB 44 [] = (x, y, two)) (ha : readR x = (a, false)) (hb : readR y = (b, yb)) (hp : printR a b false = (u, e)) (hcc : True) :
    Calls Tryd.prog 17 #[S []] w fun e w' => e = .returned (PV (parseR [])) ∧ Below w.heap.size w w' := by
  have h1 : Lib.hasSuffix [] [33] = false := rfl
  have h2 : stripN [] = [] := rfl
  have hlt : ([] : List UInt8).length ≤ 1000 := by first | decide | (rw [← h2]; exact Nat.le_trans (strip_len _) hl)
  have hlx := cut_len hx
  have HO := Lib.hid (show parseR [] = ((⟨0, 0, 0⟩, ⟨0, 0, 0⟩, false), 121) from by
    unfold parseR
    simp only [h1, h2, hx, ha, hb, hp]
    rw [if_neg (fun q => by simp at q)])
  have HS0 := Lib.hid (rs0 w false)
  have HA := Lib.hid (fun w' => rread_any x w' (by omega))
  rw [ha] at HA
  have HB := Lib.hid (fun w' => rread_any y w' (by omega))
  rw [hb] at HB
  have HP := Lib.hid (fun w' => rprint_any a b false w')
  rw [hp] at HP
  have HC := Lib.hid hx
  clear h1 h2 hx ha hb hp hlx
  unfold PV
  go_enter Tryd.func17, Tryd.ntmps17
  obtain ⟨rfl, rfl, rfl⟩ : [] = x ∧ [] = y ∧ false = two := by have h := HC.out; unfold cutB at h; simpa using h
  go_wp2
  refine wp_loop_rounds 1 ?_
  rw [rounds_succ]
  go_wp2_with (first
    | (go_at_call 31; refine (HA.out _).mono ?_; rintro e w1 ⟨rfl, hb⟩; have HX1 := Lib.hid ((Below.refl w1.heap.size w1).alloc (Nat.le_refl _) (.cells #[E a.k, E a.n, E a.m] 31)); have HS1 := Lib.hid ((RS.below HS0.out hb).below HX1.out); have HN1 := Lib.hid (show NA w1.heap.size a _ from heap_alloc_new w1 (.cells #[E a.k, E a.n, E a.m] 31)); clear hb HA)
    | (go_at_call 31; have hn1 := HN1.out; clear HN1; refine (HB.out _).mono ?_; rintro e w2 ⟨rfl, hb⟩; have HX2 := Lib.hid ((Below.refl w2.heap.size w2).alloc (Nat.le_refl _) (.cells #[E b.k, E b.n, E b.m] 31)); have HS2 := Lib.hid ((RS.below HS1.out hb).below HX2.out); have HN9 := Lib.hid ((NA.below hn1 hb).below HX2.out); have HNB := Lib.hid (show NA w2.heap.size b _ from heap_alloc_new w2 (.cells #[E b.k, E b.n, E b.m] 31)); have HNE := Lib.hid (show w.heap.size + 1 ≠ w2.heap.size from by have h1 := lt_heap ((RS.below HS1.out hb).2.1); omega); clear hb hn1 HB; obtain ⟨q0, q1, q2, q3, q4, q5, q6⟩ := RCt.cells HS2.out.2.1; obtain ⟨u0, u1, u2, u3, u4, u5, u6⟩ := rct_unfrozen HS2.out.2.1; obtain ⟨n0, n1, n2⟩ := HN9.out.cells; have HS3 := Lib.hid (HS2.out.setA a); have HNC := Lib.hid (HNB.out.keep HNE.out 0 1 2 (E a.k) (E a.n) (E a.m)); obtain ⟨r0, r1, r2, r3, r4, r5, r6⟩ := RCt.cells HS3.out.2.1; obtain ⟨v0, v1, v2, v3, v4, v5, v6⟩ := rct_unfrozen HS3.out.2.1; obtain ⟨m0, m1, m2⟩ := HNC.out.cells; have HS4 := Lib.hid (HS3.out.setB b); obtain ⟨s0, s1, s2, s3, s4, s5, s6⟩ := RCt.cells HS4.out.2.1)
    | (go_at_call 14; refine (HP.out _).mono ?_; rintro e w3 ⟨rfl, hb⟩; have HS5 := Lib.hid (HS4.out.below hb); have HZ5 := Lib.hid (show RZ w ⟨0, 0, 0⟩ ⟨0, 0, 0⟩ false w3 from ⟨HS5.out.1, HS5.out.2.2⟩); clear hb HP; obtain ⟨t0, t1, t2, t3, t4, t5, t6⟩ := RCt.cells HS5.out.2.1; obtain ⟨o0, o1, o2, o3, o4, o5, o6⟩ := RCt.cells HS5.out.1; obtain ⟨z0, z1, z2, z3, z4, z5, z6⟩ := rct_unfrozen HS5.out.1))
  refine bodyPost_ret (v := .tuple #[RV ⟨0, 0, 0⟩ ⟨0, 0, 0⟩ false, E 121]) ?_ ?_ ?_
  · exact (HZ5.out.set ⟨0, 0, 0⟩ ⟨0, 0, 0⟩ false).ans rfl rfl
  · rfl
  · exact ⟨by rw [HO.out], (HZ5.out.set ⟨0, 0, 0⟩ ⟨0, 0, 0⟩ false).2⟩
set_option maxRecDepth 100000 in
set_option maxHeartbeats 3200000 in
theorem rparse_e_nb  (x y u : List UInt8) (two : Bool) (e : Int) (a b : A3) (w : World)  (hl : ([] : List UInt8).length ≤ 1000) (hx : cutB 44 [] = (x, y, two)) (ha : readR x = (a, true)) (hb : readR y = (b, false)) (hp : printR a b false = (u, e)) (hcc : True) :
    Calls Tryd.prog 17 #[S []] w fun e w' => e = .returned (PV (parseR [])) ∧ Below w.heap.size w w' := by
  have h1 : Lib.hasSuffix [] [33] = false := rfl
  have h2 : stripN [] = [] := rfl
  have hlt : ([] : List UInt8).length ≤ 1000 := by first | decide | (rw [← h2]; exact Nat.le_trans (strip_len _) hl)
  have hlx := cut_len hx
  have HO := Lib.hid (show parseR [] = ((⟨0, 0, 0⟩, ⟨0, 0, 0⟩, false), 121) from by
    unfold parseR
    simp only [h1, h2, hx, ha, hb, hp]
    rw [if_neg (fun q => by simp at q)])
  have HS0 := Lib.hid (rs0 w false)
  have HA := Lib.hid (fun w' => rread_any x w' (by omega))
  rw [ha] at HA
  have HB := Lib.hid (fun w' => rread_any y w' (by omega))
  rw [hb] at HB
  have HP := Lib.hid (fun w' => rprint_any a b false w')
  rw [hp] at HP
  have HC := Lib.hid hx
  clear h1 h2 hx ha hb hp hlx
  unfold PV
  go_enter Tryd.func17, Tryd.ntmps17
  obtain ⟨rfl, rfl, rfl⟩ : [] = x ∧ [] = y ∧ false = two := by have h := HC.out; unfold cutB at h; simpa using h
  go_wp2
  refine wp_loop_rounds 1 ?_
  rw [rounds_succ]
  go_wp2_with (first
    | (go_at_call 31; refine (HA.out _).mono ?_; rintro e w1 ⟨rfl, hb⟩; have HX1 := Lib.hid ((Below.refl w1.heap.size w1).alloc (Nat.le_refl _) (.cells #[E a.k, E a.n, E a.m] 31)); have HS1 := Lib.hid ((RS.below HS0.out hb).below HX1.out); have HN1 := Lib.hid (show NA w1.heap.size a _ from heap_alloc_new w1 (.cells #[E a.k, E a.n, E a.m] 31)); clear hb HA)
    | (go_at_call 31; have hn1 := HN1.out; clear HN1; refine (HB.out _).mono ?_; rintro e w2 ⟨rfl, hb⟩; have HX2 := Lib.hid ((Below.refl w2.heap.size w2).alloc (Nat.le_refl _) (.cells #[E b.k, E b.n, E b.m] 31)); have HS2 := Lib.hid ((RS.below HS1.out hb).below HX2.out); have HN9 := Lib.hid ((NA.below hn1 hb).below HX2.out); have HNB := Lib.hid (show NA w2.heap.size b _ from heap_alloc_new w2 (.cells #[E b.k, E b.n, E b.m] 31)); have HNE := Lib.hid (show w.heap.size + 1 ≠ w2.heap.size from by have h1 := lt_heap ((RS.below HS1.out hb).2.1); omega); clear hb hn1 HB; obtain ⟨q0, q1, q2, q3, q4, q5, q6⟩ := RCt.cells HS2.out.2.1; obtain ⟨u0, u1, u2, u3, u4, u5, u6⟩ := rct_unfrozen HS2.out.2.1; obtain ⟨n0, n1, n2⟩ := HN9.out.cells; have HS3 := Lib.hid (HS2.out.setA a); have HNC := Lib.hid (HNB.out.keep HNE.out 0 1 2 (E a.k) (E a.n) (E a.m)); obtain ⟨r0, r1, r2, r3, r4, r5, r6⟩ := RCt.cells HS3.out.2.1; obtain ⟨v0, v1, v2, v3, v4, v5, v6⟩ := rct_unfrozen HS3.out.2.1; obtain ⟨m0, m1, m2⟩ := HNC.out.cells; have HS4 := Lib.hid (HS3.out.setB b); obtain ⟨s0, s1, s2, s3, s4, s5, s6⟩ := RCt.cells HS4.out.2.1)
    | (go_at_call 14; refine (HP.out _).mono ?_; rintro e w3 ⟨rfl, hb⟩; have HS5 := Lib.hid (HS4.out.below hb); have HZ5 := Lib.hid (show RZ w ⟨0, 0, 0⟩ ⟨0, 0, 0⟩ false w3 from ⟨HS5.out.1, HS5.out.2.2⟩); clear hb HP; obtain ⟨t0, t1, t2, t3, t4, t5, t6⟩ := RCt.cells HS5.out.2.1; obtain ⟨o0, o1, o2, o3, o4, o5, o6⟩ := RCt.cells HS5.out.1; obtain ⟨z0, z1, z2, z3, z4, z5, z6⟩ := rct_unfrozen HS5.out.1))
  refine bodyPost_ret (v := .tuple #[RV ⟨0, 0, 0⟩ ⟨0, 0, 0⟩ false, E 121]) ?_ ?_ ?_
  · exact (HZ5.out.set ⟨0, 0, 0⟩ ⟨0, 0, 0⟩ false).ans rfl rfl
  · rfl
  · exact ⟨by rw [HO.out], (HZ5.out.set ⟨0, 0, 0⟩ ⟨0, 0, 0⟩ false).2⟩
set_option maxRecDepth 100000 in
set_option maxHeartbeats 3200000 in
theorem rparse_e_ne  (x y u : List UInt8) (two : Bool) (a b : A3) (w : World)  (hl : ([] : List UInt8).length ≤ 1000) (hx : cutB 44 [] = (x, y, two)) (ha : readR x = (a, true)) (hb : readR y = (b, true)) (hp : printR a b false = (u, 1)) (hcc : True) :
    Calls Tryd.prog 17 #[S []] w fun e w' => e = .returned (PV (parseR [])) ∧ Below w.heap.size w w' := by
  have h1 : Lib.hasSuffix [] [33] = false := rfl
  have h2 : stripN [] = [] := rfl
  have hlt : ([] : List UInt8).length ≤ 1000 := by first | decide | (rw [← h2]; exact Nat.le_trans (strip_len _) hl)
  have hlx := cut_len hx
  have HO := Lib.hid (show parseR [] = ((⟨0, 0, 0⟩, ⟨0, 0, 0⟩, false), 121) from by
    unfold parseR
    simp only [h1, h2, hx, ha, hb, hp]
    rw [if_neg (fun q => by simp at q)])
  have HS0 := Lib.hid (rs0 w false)
  have HA := Lib.hid (fun w' => rread_any x w' (by omega))
  rw [ha] at HA
  have HB := Lib.hid (fun w' => rread_any y w' (by omega))
  rw [hb] at HB
  have HP := Lib.hid (fun w' => rprint_any a b false w')
  rw [hp] at HP
  have HC := Lib.hid hx
  clear h1 h2 hx ha hb hp hlx
  unfold PV
  go_enter Tryd.func17, Tryd.ntmps17
  obtain ⟨rfl, rfl, rfl⟩ : [] = x ∧ [] = y ∧ false = two := by have h := HC.out; unfold cutB at h; simpa using h
  go_wp2
  refine wp_loop_rounds 1 ?_
  rw [rounds_succ]
  go_wp2_with (first
    | (go_at_call 31; refine (HA.out _).mono ?_; rintro e w1 ⟨rfl, hb⟩; have HX1 := Lib.hid ((Below.refl w1.heap.size w1).alloc (Nat.le_refl _) (.cells #[E a.k, E a.n, E a.m] 31)); have HS1 := Lib.hid ((RS.below HS0.out hb).below HX1.out); have HN1 := Lib.hid (show NA w1.heap.size a _ from heap_alloc_new w1 (.cells #[E a.k, E a.n, E a.m] 31)); clear hb HA)
    | (go_at_call 31; have hn1 := HN1.out; clear HN1; refine (HB.out _).mono ?_; rintro e w2 ⟨rfl, hb⟩; have HX2 := Lib.hid ((Below.refl w2.heap.size w2).alloc (Nat.le_refl _) (.cells #[E b.k, E b.n, E b.m] 31)); have HS2 := Lib.hid ((RS.below HS1.out hb).below HX2.out); have HN9 := Lib.hid ((NA.below hn1 hb).below HX2.out); have HNB := Lib.hid (show NA w2.heap.size b _ from heap_alloc_new w2 (.cells #[E b.k, E b.n, E b.m] 31)); have HNE := Lib.hid (show w.heap.size + 1 ≠ w2.heap.size from by have h1 := lt_heap ((RS.below HS1.out hb).2.1); omega); clear hb hn1 HB; obtain ⟨q0, q1, q2, q3, q4, q5, q6⟩ := RCt.cells HS2.out.2.1; obtain ⟨u0, u1, u2, u3, u4, u5, u6⟩ := rct_unfrozen HS2.out.2.1; obtain ⟨n0, n1, n2⟩ := HN9.out.cells; have HS3 := Lib.hid (HS2.out.setA a); have HNC := Lib.hid (HNB.out.keep HNE.out 0 1 2 (E a.k) (E a.n) (E a.m)); obtain ⟨r0, r1, r2, r3, r4, r5, r6⟩ := RCt.cells HS3.out.2.1; obtain ⟨v0, v1, v2, v3, v4, v5, v6⟩ := rct_unfrozen HS3.out.2.1; obtain ⟨m0, m1, m2⟩ := HNC.out.cells; have HS4 := Lib.hid (HS3.out.setB b); obtain ⟨s0, s1, s2, s3, s4, s5, s6⟩ := RCt.cells HS4.out.2.1)
    | (go_at_call 14; refine (HP.out _).mono ?_; rintro e w3 ⟨rfl, hb⟩; have HS5 := Lib.hid (HS4.out.below hb); have HZ5 := Lib.hid (show RZ w ⟨0, 0, 0⟩ ⟨0, 0, 0⟩ false w3 from ⟨HS5.out.1, HS5.out.2.2⟩); clear hb HP; obtain ⟨t0, t1, t2, t3, t4, t5, t6⟩ := RCt.cells HS5.out.2.1; obtain ⟨o0, o1, o2, o3, o4, o5, o6⟩ := RCt.cells HS5.out.1; obtain ⟨z0, z1, z2, z3, z4, z5, z6⟩ := rct_unfrozen HS5.out.1))
  refine bodyPost_ret (v := .tuple #[RV ⟨0, 0, 0⟩ ⟨0, 0, 0⟩ false, E 121]) ?_ ?_ ?_
  · exact (HZ5.out.set ⟨0, 0, 0⟩ ⟨0, 0, 0⟩ false).ans rfl rfl
  · rfl
  · exact ⟨by rw [HO.out], (HZ5.out.set ⟨0, 0, 0⟩ ⟨0, 0, 0⟩ false).2⟩
set_option maxRecDepth 100000 in
set_option maxHeartbeats 3200000 in
theorem rparse_e_nu  (x y u : List UInt8) (two : Bool) (a b : A3) (w : World)  (hl : ([] : List UInt8).length ≤ 1000) (hx : cutB 44 [] = (x, y, two)) (ha : readR x = (a, true)) (hb : readR y = (b, true)) (hp : printR a b false = (u, 0)) (hcc : u ≠ []) :
    Calls Tryd.prog 17 #[S []] w fun e w' => e = .returned (PV (parseR [])) ∧ Below w.heap.size w w' := by
  have h1 : Lib.hasSuffix [] [33] = false := rfl
  have h2 : stripN [] = [] := rfl
  have hlt : ([] : List UInt8).length ≤ 1000 := by first | decide | (rw [← h2]; exact Nat.le_trans (strip_len _) hl)
  have hlx := cut_len hx
  have HO := Lib.hid (show parseR [] = ((⟨0, 0, 0⟩, ⟨0, 0, 0⟩, false), 121) from by
    unfold parseR
    simp only [h1, h2, hx, ha, hb, hp]
    rw [if_neg (fun q => hcc q.2.2.2)])
  have HS0 := Lib.hid (rs0 w false)
  have HA := Lib.hid (fun w' => rread_any x w' (by omega))
  rw [ha] at HA
  have HB := Lib.hid (fun w' => rread_any y w' (by omega))
  rw [hb] at HB
  have HP := Lib.hid (fun w' => rprint_any a b false w')
  rw [hp] at HP
  have HC := Lib.hid hx
  have huB : (u != []) = true := by rw [bne_iff_ne]; exact hcc
  have huE : (u == []) = false := by rw [beq_eq_false_iff_ne]; exact hcc
  clear h1 h2 hx ha hb hp hlx hcc
  unfold PV
  go_enter Tryd.func17, Tryd.ntmps17
  obtain ⟨rfl, rfl, rfl⟩ : [] = x ∧ [] = y ∧ false = two := by have h := HC.out; unfold cutB at h; simpa using h
  go_wp2
  refine wp_loop_rounds 1 ?_
  rw [rounds_succ]
  go_wp2_with (first
    | (go_at_call 31; refine (HA.out _).mono ?_; rintro e w1 ⟨rfl, hb⟩; have HX1 := Lib.hid ((Below.refl w1.heap.size w1).alloc (Nat.le_refl _) (.cells #[E a.k, E a.n, E a.m] 31)); have HS1 := Lib.hid ((RS.below HS0.out hb).below HX1.out); have HN1 := Lib.hid (show NA w1.heap.size a _ from heap_alloc_new w1 (.cells #[E a.k, E a.n, E a.m] 31)); clear hb HA)
    | (go_at_call 31; have hn1 := HN1.out; clear HN1; refine (HB.out _).mono ?_; rintro e w2 ⟨rfl, hb⟩; have HX2 := Lib.hid ((Below.refl w2.heap.size w2).alloc (Nat.le_refl _) (.cells #[E b.k, E b.n, E b.m] 31)); have HS2 := Lib.hid ((RS.below HS1.out hb).below HX2.out); have HN9 := Lib.hid ((NA.below hn1 hb).below HX2.out); have HNB := Lib.hid (show NA w2.heap.size b _ from heap_alloc_new w2 (.cells #[E b.k, E b.n, E b.m] 31)); have HNE := Lib.hid (show w.heap.size + 1 ≠ w2.heap.size from by have h1 := lt_heap ((RS.below HS1.out hb).2.1); omega); clear hb hn1 HB; obtain ⟨q0, q1, q2, q3, q4, q5, q6⟩ := RCt.cells HS2.out.2.1; obtain ⟨u0, u1, u2, u3, u4, u5, u6⟩ := rct_unfrozen HS2.out.2.1; obtain ⟨n0, n1, n2⟩ := HN9.out.cells; have HS3 := Lib.hid (HS2.out.setA a); have HNC := Lib.hid (HNB.out.keep HNE.out 0 1 2 (E a.k) (E a.n) (E a.m)); obtain ⟨r0, r1, r2, r3, r4, r5, r6⟩ := RCt.cells HS3.out.2.1; obtain ⟨v0, v1, v2, v3, v4, v5, v6⟩ := rct_unfrozen HS3.out.2.1; obtain ⟨m0, m1, m2⟩ := HNC.out.cells; have HS4 := Lib.hid (HS3.out.setB b); obtain ⟨s0, s1, s2, s3, s4, s5, s6⟩ := RCt.cells HS4.out.2.1)
    | (go_at_call 14; refine (HP.out _).mono ?_; rintro e w3 ⟨rfl, hb⟩; have HS5 := Lib.hid (HS4.out.below hb); have HZ5 := Lib.hid (show RZ w ⟨0, 0, 0⟩ ⟨0, 0, 0⟩ false w3 from ⟨HS5.out.1, HS5.out.2.2⟩); clear hb HP; obtain ⟨t0, t1, t2, t3, t4, t5, t6⟩ := RCt.cells HS5.out.2.1; obtain ⟨o0, o1, o2, o3, o4, o5, o6⟩ := RCt.cells HS5.out.1; obtain ⟨z0, z1, z2, z3, z4, z5, z6⟩ := rct_unfrozen HS5.out.1))
  refine bodyPost_ret (v := .tuple #[RV ⟨0, 0, 0⟩ ⟨0, 0, 0⟩ false, E 121]) ?_ ?_ ?_
  · exact (HZ5.out.set ⟨0, 0, 0⟩ ⟨0, 0, 0⟩ false).ans rfl rfl
  · rfl
  · exact ⟨by rw [HO.out], (HZ5.out.set ⟨0, 0, 0⟩ ⟨0, 0, 0⟩ false).2⟩
set_option maxRecDepth 100000 in
set_option maxHeartbeats 3200000 in
theorem rparse_e_ok  (x y u : List UInt8) (two : Bool) (a b : A3) (w : World)  (hl : ([] : List UInt8).length ≤ 1000) (hx : cutB 44 [] = (x, y, two)) (ha : readR x = (a, true)) (hb : readR y = (b, true)) (hp : printR a b false = (u, 0)) (hcc : u = []) :
    Calls Tryd.prog 17 #[S []] w fun e w' => e = .returned (PV (parseR [])) ∧ Below w.heap.size w w' := by
  have h1 : Lib.hasSuffix [] [33] = false := rfl
  have h2 : stripN [] = [] := rfl
  have hlt : ([] : List UInt8).length ≤ 1000 := by first | decide | (rw [← h2]; exact Nat.le_trans (strip_len _) hl)
  have hlx := cut_len hx
  have HO := Lib.hid (show parseR [] = ((a, b, false), 0) from by
    unfold parseR
    simp only [h1, h2, hx, ha, hb, hp]
    rw [if_pos ⟨trivial, trivial, trivial, hcc⟩])
  have HS0 := Lib.hid (rs0 w false)
  have HA := Lib.hid (fun w' => rread_any x w' (by omega))
  rw [ha] at HA
  have HB := Lib.hid (fun w' => rread_any y w' (by omega))
  rw [hb] at HB
  have HP := Lib.hid (fun w' => rprint_any a b false w')
  rw [hp] at HP
  have HC := Lib.hid hx
  subst hcc
  clear h1 h2 hx ha hb hp hlx
  unfold PV
  go_enter Tryd.func17, Tryd.ntmps17
  obtain ⟨rfl, rfl, rfl⟩ : [] = x ∧ [] = y ∧ false = two := by have h := HC.out; unfold cutB at h; simpa using h
  go_wp2
  refine wp_loop_rounds 1 ?_
  rw [rounds_succ]
  go_wp2_with (first
    | (go_at_call 31; refine (HA.out _).mono ?_; rintro e w1 ⟨rfl, hb⟩; have HX1 := Lib.hid ((Below.refl w1.heap.size w1).alloc (Nat.le_refl _) (.cells #[E a.k, E a.n, E a.m] 31)); have HS1 := Lib.hid ((RS.below HS0.out hb).below HX1.out); have HN1 := Lib.hid (show NA w1.heap.size a _ from heap_alloc_new w1 (.cells #[E a.k, E a.n, E a.m] 31)); clear hb HA)
    | (go_at_call 31; have hn1 := HN1.out; clear HN1; refine (HB.out _).mono ?_; rintro e w2 ⟨rfl, hb⟩; have HX2 := Lib.hid ((Below.refl w2.heap.size w2).alloc (Nat.le_refl _) (.cells #[E b.k, E b.n, E b.m] 31)); have HS2 := Lib.hid ((RS.below HS1.out hb).below HX2.out); have HN9 := Lib.hid ((NA.below hn1 hb).below HX2.out); have HNB := Lib.hid (show NA w2.heap.size b _ from heap_alloc_new w2 (.cells #[E b.k, E b.n, E b.m] 31)); have HNE := Lib.hid (show w.heap.size + 1 ≠ w2.heap.size from by have h1 := lt_heap ((RS.below HS1.out hb).2.1); omega); clear hb hn1 HB; obtain ⟨q0, q1, q2, q3, q4, q5, q6⟩ := RCt.cells HS2.out.2.1; obtain ⟨u0, u1, u2, u3, u4, u5, u6⟩ := rct_unfrozen HS2.out.2.1; obtain ⟨n0, n1, n2⟩ := HN9.out.cells; have HS3 := Lib.hid (HS2.out.setA a); have HNC := Lib.hid (HNB.out.keep HNE.out 0 1 2 (E a.k) (E a.n) (E a.m)); obtain ⟨r0, r1, r2, r3, r4, r5, r6⟩ := RCt.cells HS3.out.2.1; obtain ⟨v0, v1, v2, v3, v4, v5, v6⟩ := rct_unfrozen HS3.out.2.1; obtain ⟨m0, m1, m2⟩ := HNC.out.cells; have HS4 := Lib.hid (HS3.out.setB b); obtain ⟨s0, s1, s2, s3, s4, s5, s6⟩ := RCt.cells HS4.out.2.1)
    | (go_at_call 14; refine (HP.out _).mono ?_; rintro e w3 ⟨rfl, hb⟩; have HS5 := Lib.hid (HS4.out.below hb); have HZ5 := Lib.hid (show RZ w ⟨0, 0, 0⟩ ⟨0, 0, 0⟩ false w3 from ⟨HS5.out.1, HS5.out.2.2⟩); clear hb HP; obtain ⟨t0, t1, t2, t3, t4, t5, t6⟩ := RCt.cells HS5.out.2.1; obtain ⟨o0, o1, o2, o3, o4, o5, o6⟩ := RCt.cells HS5.out.1; obtain ⟨z0, z1, z2, z3, z4, z5, z6⟩ := rct_unfrozen HS5.out.1))
  refine bodyPost_ret (v := .tuple #[RV a b false, E 0]) ?_ ?_ ?_
  · exact (HZ5.out.set a b false).ans rfl rfl
  · rfl
  · exact ⟨by rw [HO.out], (HZ5.out.set a b false).2⟩
end Go.Proofs.YtcijhfdccbgcpaaDoor.Ad
