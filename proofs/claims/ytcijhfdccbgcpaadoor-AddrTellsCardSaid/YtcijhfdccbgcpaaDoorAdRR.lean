/- The reference's read: the walk. -/
import Derived.Test.YtcijhfdccbgcpaaDoorAdX
import Derived.Test.YtcijhfdccbgcpaaDoorAdPa
namespace Go.Proofs.YtcijhfdccbgcpaaDoor.Ad
open Go.RowKit Go.Shelf
set_option linter.unusedVariables false
set_option linter.unusedSimpArgs false
def RAr (w0 : World) (a : A3) (w : World) : Prop := w.heap[w0.heap.size]? = some (.cells #[E a.k, E a.n, E a.m] 31 (0, 0)) ∧ Below w0.heap.size w0 w
theorem RAr.below {w0 : World} {a : A3} {w w' : World} (h : RAr w0 a w) (hb : Below w.heap.size w w') : RAr w0 a w' := ⟨(hb.block _ (lt_heap h.1)).trans h.1, h.2.trans (hb.mono h.2.size)⟩
theorem rar0 (w : World) : RAr w ⟨0, 0, 0⟩ (w.alloc (.cells #[E 0, E 0, E 0] 31)) := ⟨heap_alloc_new _ _, (Below.refl w.heap.size w).alloc (Nat.le_refl _) _⟩
theorem RAr.cells {w0 : World} {a : A3} {w : World} (h : RAr w0 a w) : (w.cell? ⟨w0.heap.size, 0, none⟩ = some (E a.k) ∧ w.cell? ⟨w0.heap.size, 1, none⟩ = some (E a.n) ∧ w.cell? ⟨w0.heap.size, 2, none⟩ = some (E a.m)) ∧
    (w.frozen? ⟨w0.heap.size, 0, none⟩ = false ∧ w.frozen? ⟨w0.heap.size, 1, none⟩ = false ∧ w.frozen? ⟨w0.heap.size, 2, none⟩ = false) := by
  have h1 := h.1
  exact ⟨⟨(Lib.cell_of_heap h1 0).trans rfl, (Lib.cell_of_heap h1 1).trans rfl, (Lib.cell_of_heap h1 2).trans rfl⟩, by simp [World.frozen?, h1], by simp [World.frozen?, h1], by simp [World.frozen?, h1]⟩
theorem RAr.set0 {w0 : World} {a : A3} {w : World} (h : RAr w0 a w) (x : Int) : RAr w0 ⟨x, a.n, a.m⟩ (w.setCell ⟨w0.heap.size, 0, none⟩ (E x)) := ⟨Go.Joins.block_setCell h.1 (i := 0) (E x), h.2.setCell (by simp) _⟩
theorem RAr.set1 {w0 : World} {a : A3} {w : World} (h : RAr w0 a w) (x : Int) : RAr w0 ⟨a.k, x, a.m⟩ (w.setCell ⟨w0.heap.size, 1, none⟩ (E x)) := ⟨Go.Joins.block_setCell h.1 (i := 1) (E x), h.2.setCell (by simp) _⟩
theorem RAr.set2 {w0 : World} {a : A3} {w : World} (h : RAr w0 a w) (x : Int) : RAr w0 ⟨a.k, a.n, x⟩ (w.setCell ⟨w0.heap.size, 2, none⟩ (E x)) := ⟨Go.Joins.block_setCell h.1 (i := 2) (E x), h.2.setCell (by simp) _⟩
theorem RAr.all {w0 : World} {a : A3} {w : World} (h : RAr w0 a w) : RAr w0 a (((w.setCell ⟨w0.heap.size, 0, none⟩ (E a.k)).setCell ⟨w0.heap.size, 1, none⟩ (E a.n)).setCell ⟨w0.heap.size, 2, none⟩ (E a.m)) := ((h.set0 a.k).set1 a.n).set2 a.m
theorem RAr.put {w0 : World} {a' : A3} {w : World} (h : RAr w0 a' w) (a : A3) : RAr w0 a (((w.setCell ⟨w0.heap.size, 0, none⟩ (E a.k)).setCell ⟨w0.heap.size, 1, none⟩ (E a.n)).setCell ⟨w0.heap.size, 2, none⟩ (E a.m)) := ((h.set0 a.k).set1 a.n).set2 a.m
theorem infoAr : (Tryd.prog.info? 31).map (·.size) = some 3 := by kernel_rfl
theorem RAr.ans {w0 : World} {a : A3} {w : World} (h : RAr w0 a w) {x : Bool} {tmps : Array Value} (hx : tmps.getD 3 undef = .bool x) (hp : tmps.getD 2 undef = .pointer (some ⟨w0.heap.size, 0, none⟩)) : (results Tryd.f31 tmps).run Tryd.prog w = .ok (.tuple #[AV a, .bool x]) w :=
  ansP Tryd.underlying31 3 infoAr rfl hx hp h.1 rfl
theorem readR_cons (c : UInt8) (r : List UInt8) : readR (c :: r) = if c :: r = [36] then (⟨2, 0, 0⟩, true)
    else if (digL (c :: r)).2 then (⟨1, (digL (c :: r)).1, 0⟩, true)
    else if c = 43 then (⟨5, (digL r).1, 0⟩, (digL r).2)
    else if c = 126 then (⟨6, (digL r).1, 0⟩, (digL r).2)
    else if c = 47 then (⟨4, (digL (r.take (r.length - 1))).1, 0⟩, (digL (r.take (r.length - 1))).2 && ((c :: r).getLast? == some 47))
    else if (cutB 126 (c :: r)).2.2 then (⟨3, (digL (cutB 126 (c :: r)).1).1, (digL (cutB 126 (c :: r)).2.1).1⟩, (digL (cutB 126 (c :: r)).1).2 && (digL (cutB 126 (c :: r)).2.1).2)
    else (⟨0, 0, 0⟩, false) := rfl
theorem cutB_step {l : List UInt8} {k : Nat} (h : k < l.length) : cutB 126 (l.drop k) = if l[k] = 126 then ([], l.drop (k + 1), true) else (l[k] :: (cutB 126 (l.drop (k + 1))).1, (cutB 126 (l.drop (k + 1))).2.1, (cutB 126 (l.drop (k + 1))).2.2) := by
  rw [List.drop_eq_getElem_cons h]; rfl
theorem ex_mid {l : List UInt8} (i j : Nat) : (⟨l.toArray⟩ : ByteArray).extract i j = ⟨((l.drop i).take (j - i)).toArray⟩ := by
  rw [Go.Lib.extract_eq]
abbrev RR (p : A3 × Bool) : Value := .tuple #[AV p.1, .bool p.2]
set_option maxRecDepth 100000 in
set_option maxHeartbeats 3200000 in
theorem rread_nil  (w : World)  :
    Calls Tryd.prog 31 #[S ([])] w fun e w' => e = .returned (RR (readR ([]))) ∧ Below w.heap.size w w' := by
  have HR0 := Lib.hid (rar0 w)
  have HO := Lib.hid (show readR [] = (⟨0, 0, 0⟩, true) from rfl)
  go_enter Tryd.func31, Tryd.ntmps31
  go_wp2
  refine bodyPost_ret (v := RR (⟨0, 0, 0⟩, true)) ?_ ?_ ?_
  · exact HR0.out.ans rfl rfl
  · rfl
  · exact ⟨by rw [HO.out], HR0.out.2⟩
set_option maxRecDepth 100000 in
set_option maxHeartbeats 3200000 in
theorem rread_dollar  (w : World)  :
    Calls Tryd.prog 31 #[S ([36])] w fun e w' => e = .returned (RR (readR ([36]))) ∧ Below w.heap.size w w' := by
  have HR0 := Lib.hid (rar0 w)
  have HO := Lib.hid (show readR [36] = (⟨2, 0, 0⟩, true) from rfl)
  have HR1 : Hid (RAr w ⟨2, 0, 0⟩ (w.alloc (.cells #[E 2, E 0, E 0] 31))) := Lib.hid ⟨heap_alloc_new _ _, (Below.refl w.heap.size w).alloc (Nat.le_refl _) _⟩
  go_enter Tryd.func31, Tryd.ntmps31
  go_wp2
  refine bodyPost_ret (v := RR (⟨2, 0, 0⟩, true)) ?_ ?_ ?_
  · exact HR1.out.ans rfl rfl
  · rfl
  · exact ⟨by rw [HO.out], HR1.out.2⟩
set_option maxRecDepth 100000 in
set_option maxHeartbeats 3200000 in
theorem rread_num (c : UInt8) (r s : List UInt8) (d : Int) (w : World) (hs : s = c :: r) (h36 : s ≠ [36]) (hl : s.length ≤ 1000) (hd : digL s = (d, true)) :
    Calls Tryd.prog 31 #[S (s)] w fun e w' => e = .returned (RR (readR (s))) ∧ Below w.heap.size w w' := by
  have HR0 := Lib.hid (rar0 w)
  have HO := Lib.hid (show readR s = (⟨1, d, 0⟩, true) from by rw [hs] at hd h36 ⊢; rw [readR_cons, if_neg h36, hd]; rfl)
  have HD := Lib.hid (fun w' => dig_loop s w' hl)
  rw [hd] at HD
  have hne : (s == []) = false := by rw [hs]; rfl
  have h36B : (s == [36]) = false := by rw [beq_eq_false_iff_ne]; exact h36
  have hlt : 0 < s.length := by rw [hs]; simp
  have hx : ((ByteArray.mk s.toArray)[0]'hlt) = c := by subst hs; rfl
  have hsz : (ByteArray.mk s.toArray).size = s.length := by simp [ByteArray.size]
  have hlt' : (0 : Int) < ((s.length : Nat) : Int) := by omega
  have h1' : (1 : Int) ≤ ((s.length : Nat) : Int) := by omega
  clear hs h36 hd
  go_enter Tryd.func31, Tryd.ntmps31
  go_wp2_with (go_at_call 47; refine (HD.out _).mono ?_; rintro e w1 ⟨rfl, hb⟩; have HR1 := Lib.hid (HR0.out.below hb); clear hb; clear HD; obtain ⟨⟨q0, q1, q2⟩, q3, q4, q5⟩ := HR1.out.cells)
  refine bodyPost_ret (v := RR (⟨1, d, 0⟩, true)) ?_ ?_ ?_
  · exact (HR1.out.put ⟨1, d, 0⟩).ans rfl rfl
  · rfl
  · exact ⟨by rw [HO.out], (HR1.out.put ⟨1, d, 0⟩).2⟩
set_option maxRecDepth 100000 in
set_option maxHeartbeats 3200000 in
theorem rread_plus (c : UInt8) (r s : List UInt8) (d0 d : Int) (x : Bool) (w : World) (hs : s = c :: r) (h36 : s ≠ [36]) (hl : s.length ≤ 1000) (hd : digL s = (d0, false)) (he : digL r = (d, x)) (hc : c = 43) :
    Calls Tryd.prog 31 #[S (s)] w fun e w' => e = .returned (RR (readR (s))) ∧ Below w.heap.size w w' := by
  have HR0 := Lib.hid (rar0 w)
  have HO := Lib.hid (show readR s = (⟨5, d, 0⟩, x) from by subst hc; rw [hs] at hd h36 ⊢; rw [readR_cons, if_neg h36, hd]; simp only [Bool.false_eq_true, if_false]; rw [if_pos trivial, he])
  have hne : (s == []) = false := by rw [hs]; rfl
  have h36B : (s == [36]) = false := by rw [beq_eq_false_iff_ne]; exact h36
  have hlt : 0 < s.length := by rw [hs]; simp
  have hx : ((ByteArray.mk s.toArray)[0]'hlt) = c := by subst hs; rfl
  have hsz : (ByteArray.mk s.toArray).size = s.length := by simp [ByteArray.size]
  have hlt' : (0 : Int) < ((s.length : Nat) : Int) := by omega
  have h1' : (1 : Int) ≤ ((s.length : Nat) : Int) := by omega
  have e2 := ex_drop (l := s) 1
  have hr : s.drop 1 = r := by rw [hs]; rfl
  rw [hr] at e2
  have hlr : r.length ≤ 1000 := by rw [← hr]; simp; omega
  have HD := Lib.hid (fun w' => dig_loop s w' hl)
  rw [hd] at HD
  have HE := Lib.hid (fun w' => dig_loop r w' hlr)
  rw [he] at HE
  clear hs h36 hd he hr
  subst hc
  go_enter Tryd.func31, Tryd.ntmps31
  go_wp2_with (first
    | (go_at_call 47; refine (HD.out _).mono ?_; rintro e w1 ⟨rfl, hb⟩; have HR1 := Lib.hid (HR0.out.below hb); clear hb; clear HD; obtain ⟨⟨q0, q1, q2⟩, q3, q4, q5⟩ := HR1.out.cells)
    | (go_at_call 47; refine (HE.out _).mono ?_; rintro e w2 ⟨rfl, hb⟩; have HR2 := Lib.hid (HR1.out.below hb); clear hb; clear HE; obtain ⟨⟨p0, p1, p2⟩, p3, p4, p5⟩ := HR2.out.cells))
  refine bodyPost_ret (v := RR (⟨5, d, 0⟩, x)) ?_ ?_ ?_
  · exact (HR2.out.put ⟨5, d, 0⟩).ans rfl rfl
  · rfl
  · exact ⟨by rw [HO.out], (HR2.out.put ⟨5, d, 0⟩).2⟩
set_option maxRecDepth 100000 in
set_option maxHeartbeats 3200000 in
theorem rread_round (c : UInt8) (r s : List UInt8) (d0 d : Int) (x : Bool) (w : World) (hs : s = c :: r) (h36 : s ≠ [36]) (hl : s.length ≤ 1000) (hd : digL s = (d0, false)) (he : digL r = (d, x)) (hc : c = 126) :
    Calls Tryd.prog 31 #[S (s)] w fun e w' => e = .returned (RR (readR (s))) ∧ Below w.heap.size w w' := by
  have HR0 := Lib.hid (rar0 w)
  have HO := Lib.hid (show readR s = (⟨6, d, 0⟩, x) from by subst hc; rw [hs] at hd h36 ⊢; rw [readR_cons, if_neg h36, hd]; simp only [Bool.false_eq_true, if_false]; rw [if_neg (by decide), if_pos trivial, he])
  have hne : (s == []) = false := by rw [hs]; rfl
  have h36B : (s == [36]) = false := by rw [beq_eq_false_iff_ne]; exact h36
  have hlt : 0 < s.length := by rw [hs]; simp
  have hx : ((ByteArray.mk s.toArray)[0]'hlt) = c := by subst hs; rfl
  have hsz : (ByteArray.mk s.toArray).size = s.length := by simp [ByteArray.size]
  have hlt' : (0 : Int) < ((s.length : Nat) : Int) := by omega
  have h1' : (1 : Int) ≤ ((s.length : Nat) : Int) := by omega
  have e2 := ex_drop (l := s) 1
  have hr : s.drop 1 = r := by rw [hs]; rfl
  rw [hr] at e2
  have hlr : r.length ≤ 1000 := by rw [← hr]; simp; omega
  have HD := Lib.hid (fun w' => dig_loop s w' hl)
  rw [hd] at HD
  have HE := Lib.hid (fun w' => dig_loop r w' hlr)
  rw [he] at HE
  clear hs h36 hd he hr
  subst hc
  go_enter Tryd.func31, Tryd.ntmps31
  go_wp2_with (first
    | (go_at_call 47; refine (HD.out _).mono ?_; rintro e w1 ⟨rfl, hb⟩; have HR1 := Lib.hid (HR0.out.below hb); clear hb; clear HD; obtain ⟨⟨q0, q1, q2⟩, q3, q4, q5⟩ := HR1.out.cells)
    | (go_at_call 47; refine (HE.out _).mono ?_; rintro e w2 ⟨rfl, hb⟩; have HR2 := Lib.hid (HR1.out.below hb); clear hb; clear HE; obtain ⟨⟨p0, p1, p2⟩, p3, p4, p5⟩ := HR2.out.cells))
  refine bodyPost_ret (v := RR (⟨6, d, 0⟩, x)) ?_ ?_ ?_
  · exact (HR2.out.put ⟨6, d, 0⟩).ans rfl rfl
  · rfl
  · exact ⟨by rw [HO.out], (HR2.out.put ⟨6, d, 0⟩).2⟩
set_option maxRecDepth 100000 in
set_option maxHeartbeats 3200000 in
theorem rread_slasht (c : UInt8) (r s : List UInt8) (d0 d : Int) (x : Bool) (d2 : Int) (z : UInt8) (w : World) (hs : s = c :: r) (h36 : s ≠ [36]) (hl : s.length ≤ 1000) (hd : digL s = (d0, false)) (he : digL r = (d, x)) (hc : c = 47) (hg : digL (r.take (r.length - 1)) = (d2, true)) (hz : (c :: r).getLast? = some z) :
    Calls Tryd.prog 31 #[S (s)] w fun e w' => e = .returned (RR (readR (s))) ∧ Below w.heap.size w w' := by
  have HR0 := Lib.hid (rar0 w)
  have HO := Lib.hid (show readR s = (⟨4, d2, 0⟩, (z == 47)) from by
    subst hc
    rw [hs] at hd h36 ⊢
    rw [readR_cons, if_neg h36, hd]
    simp only [Bool.false_eq_true, if_false]
    rw [if_neg (by decide), if_neg (by decide), if_pos trivial, hg, hz]
    simp)
  have hne : (s == []) = false := by rw [hs]; rfl
  have h36B : (s == [36]) = false := by rw [beq_eq_false_iff_ne]; exact h36
  have hlt : 0 < s.length := by rw [hs]; simp
  have hx : ((ByteArray.mk s.toArray)[0]'hlt) = c := by subst hs; rfl
  have hsz : (ByteArray.mk s.toArray).size = s.length := by simp [ByteArray.size]
  have hlt' : (0 : Int) < ((s.length : Nat) : Int) := by omega
  have h1' : (1 : Int) ≤ ((s.length : Nat) : Int) := by omega
  have hlast : ((ByteArray.mk s.toArray)[s.length - 1]'(by simp only [ByteArray.size]; simp; omega)) = z := by
    subst hs
    rw [List.getLast?_eq_some_getLast (by simp)] at hz
    have h2 := Option.some.inj hz
    rw [List.getLast_eq_getElem] at h2
    exact h2
  have hrl : r.length = s.length - 1 := by rw [hs]; simp
  have e2 := ex_drop (l := s) 1
  have hr : s.drop 1 = r := by rw [hs]; rfl
  rw [hr] at e2
  have hlr : r.length ≤ 1000 := by rw [← hr]; simp; omega
  have HD := Lib.hid (fun w' => dig_loop s w' hl)
  rw [hd] at HD
  have HE := Lib.hid (fun w' => dig_loop r w' hlr)
  rw [he] at HE
  have HG := Lib.hid (fun w' => dig_loop (r.take (r.length - 1)) w' (by simp; omega))
  rw [hg] at HG
  have e3 : (⟨s.toArray⟩ : ByteArray).extract 1 (max (s.length - 1) 1) = ⟨(r.take (r.length - 1)).toArray⟩ := by
    rw [ex_mid, hr, hrl]
    congr 3
    omega
  have m1 : IntKind.i64.wrap ((s.length : Int) - 1) = (s.length : Int) - 1 := by rw [IntKind.wrap_i64]; omega
  have m2 : max ((s.length : Int) - 1) 1 = ((max (s.length - 1) 1 : Nat) : Int) := by omega
  have m3 : ((max (s.length - 1) 1 : Nat) : Int) ≤ (s.length : Int) := by omega
  have m4 : (1 : Int) ≤ ((max (s.length - 1) 1 : Nat) : Int) := by omega
  have m5 : ((s.length : Int) - 1).toNat = s.length - 1 := by omega
  have m6 : (0 : Int) ≤ (s.length : Int) - 1 := by omega
  have m7 : (s.length : Int) - 1 < (s.length : Int) := by omega
  have m8 : ((z.toNat : Int) == 47) = (z == 47) := by
    cases hq : (z == 47)
    · have hz2 : z ≠ 47 := by rw [beq_eq_false_iff_ne] at hq; exact hq
      exact byte_ne' hz2
    · have hz2 : z = 47 := by simpa using hq
      subst hz2; rfl
  clear hs h36 hd he hr hg hz hrl
  subst hc
  generalize r.take (r.length - 1) = rt at *
  generalize max (s.length - 1) 1 = M at *
  go_enter Tryd.func31, Tryd.ntmps31
  go_wp2_with (first
    | (go_at_call 47; refine (HD.out _).mono ?_; rintro e w1 ⟨rfl, hb⟩; have HR1 := Lib.hid (HR0.out.below hb); clear hb; clear HD; obtain ⟨⟨q0, q1, q2⟩, q3, q4, q5⟩ := HR1.out.cells)
    | (go_at_call 47; refine (HE.out _).mono ?_; rintro e w2 ⟨rfl, hb⟩; have HR2 := Lib.hid (HR1.out.below hb); clear hb; clear HE; obtain ⟨⟨p0, p1, p2⟩, p3, p4, p5⟩ := HR2.out.cells)
    | (go_at_call 47; refine (HG.out _).mono ?_; rintro e w3 ⟨rfl, hb⟩; have HR3 := Lib.hid (HR2.out.below hb); clear hb; clear HG; obtain ⟨⟨r0, r1, r2⟩, r3, r4, r5⟩ := HR3.out.cells))
  refine wp_region_noPanic ?_
  refine wp_region_held_drew (S := fun w' => ∃ a1, RAr w a1 w') (by kernel_rfl) ?_ (fun hHeld => ?_)
  · (try dsimp only); exact ⟨_, HR3.out.below (Below.refl _ _).drew⟩
  refine wpAnyH_take (i := 0) (oi := ?o0) (v := ?v0) ?hi0 (by kernel_rfl) (by kernel_rfl) (by kernel_rfl) (fun _ _ _ h => h) ?hy0 (by assumption) ?r0
  case hi0 => simp only [List.getElem?_toArray, List.getElem?_cons_succ, List.getElem?_cons_zero]; rfl
  case hy0 => exact Or.inl ⟨by rfl, by (intro w hSw; (try dsimp only at hSw); obtain ⟨a1, hSw⟩ := hSw; go_simp) <;> with_reducible rfl⟩
  try simp only [Act.put, List.setIfInBounds_toArray, List.set_cons_zero, List.set_cons_succ]
  refine wpAnyH_take (i := 1) (oi := ?o1) (v := ?v1) ?hi1 (by kernel_rfl) (by kernel_rfl) (by kernel_rfl) (fun _ _ _ h => h) ?hy1 (by assumption) ?r1
  case hi1 => simp only [List.getElem?_toArray, List.getElem?_cons_succ, List.getElem?_cons_zero]; rfl
  case hy1 => exact Or.inl ⟨by rfl, by (intro w hSw; (try dsimp only at hSw); obtain ⟨a1, hSw⟩ := hSw; go_simp) <;> with_reducible rfl⟩
  try simp only [Act.put, List.setIfInBounds_toArray, List.set_cons_zero, List.set_cons_succ]
  refine wpAnyH_take (i := 2) (oi := ?o2) (v := ?v2) ?hi2 (by kernel_rfl) (by kernel_rfl) (by kernel_rfl) (fun _ _ _ h => h) ?hy2 (by assumption) ?r2
  case hi2 => simp only [List.getElem?_toArray, List.getElem?_cons_succ, List.getElem?_cons_zero]; rfl
  case hy2 => exact Or.inl ⟨by rfl, by (intro w hSw; (try dsimp only at hSw); obtain ⟨a1, hSw⟩ := hSw; go_simp) <;> with_reducible rfl⟩
  try simp only [Act.put, List.setIfInBounds_toArray, List.set_cons_zero, List.set_cons_succ]
  refine wpAnyH_take (i := 3) (oi := ?o3) (v := ?v3) ?hi3 (by kernel_rfl) (by kernel_rfl) (by kernel_rfl) (fun _ _ _ h => h) ?hy3 (by assumption) ?r3
  case hi3 => simp only [List.getElem?_toArray, List.getElem?_cons_succ, List.getElem?_cons_zero]; rfl
  case hy3 => exact Or.inl ⟨by rfl, by (intro w hSw; (try dsimp only at hSw); obtain ⟨a1, hSw⟩ := hSw; go_simp) <;> with_reducible rfl⟩
  try simp only [Act.put, List.setIfInBounds_toArray, List.set_cons_zero, List.set_cons_succ]
  refine wpAnyH_take (i := 4) (oi := ?o4) (v := ?v4) ?hi4 (by kernel_rfl) (by kernel_rfl) (by kernel_rfl) (fun _ _ _ h => h) ?hy4 (by assumption) ?r4
  case hi4 => simp only [List.getElem?_toArray, List.getElem?_cons_succ, List.getElem?_cons_zero]; rfl
  case hy4 => exact Or.inl ⟨by rfl, by (intro w hSw; (try dsimp only at hSw); obtain ⟨a1, hSw⟩ := hSw; go_simp) <;> with_reducible rfl⟩
  try simp only [Act.put, List.setIfInBounds_toArray, List.set_cons_zero, List.set_cons_succ]
  refine wpAnyH_take (i := 5) (oi := ?o5) (v := ?v5) ?hi5 (by kernel_rfl) (by kernel_rfl) (by kernel_rfl) (fun _ _ _ h => h) ?hy5 (by assumption) ?r5
  case hi5 => simp only [List.getElem?_toArray, List.getElem?_cons_succ, List.getElem?_cons_zero]; rfl
  case hy5 => exact Or.inl ⟨by rfl, by (intro w hSw; (try dsimp only at hSw); obtain ⟨a1, hSw⟩ := hSw; go_simp) <;> with_reducible rfl⟩
  try simp only [Act.put, List.setIfInBounds_toArray, List.set_cons_zero, List.set_cons_succ]
  refine wpAnyH_take (i := 6) (oi := ?o6) (v := ?v6) ?hi6 (by kernel_rfl) (by kernel_rfl) (by kernel_rfl) (fun _ _ _ h => h) ?hy6 (by assumption) ?r6
  case hi6 => simp only [List.getElem?_toArray, List.getElem?_cons_succ, List.getElem?_cons_zero]; rfl
  case hy6 => exact Or.inl ⟨by rfl, by (intro w hSw; (try dsimp only at hSw); obtain ⟨a1, hSw⟩ := hSw; go_simp) <;> with_reducible rfl⟩
  try simp only [Act.put, List.setIfInBounds_toArray, List.set_cons_zero, List.set_cons_succ]
  refine wpAnyH_take (i := 7) (oi := ?o7) (v := ?v7) ?hi7 (by kernel_rfl) (by kernel_rfl) (by kernel_rfl) (fun _ _ _ h => h) ?hy7 (by assumption) ?r7
  case hi7 => simp only [List.getElem?_toArray, List.getElem?_cons_succ, List.getElem?_cons_zero]; rfl
  case hy7 => exact Or.inl ⟨by rfl, by (intro w hSw; (try dsimp only at hSw); obtain ⟨a1, hSw⟩ := hSw; go_simp) <;> with_reducible rfl⟩
  try simp only [Act.put, List.setIfInBounds_toArray, List.set_cons_zero, List.set_cons_succ]
  refine wpAnyH_take (i := 8) (oi := ?o8) (v := ?v8) ?hi8 (by kernel_rfl) (by kernel_rfl) (by kernel_rfl) (fun _ _ _ h => h) ?hy8 (by assumption) ?r8
  case hi8 => simp only [List.getElem?_toArray, List.getElem?_cons_succ, List.getElem?_cons_zero]; rfl
  case hy8 => exact Or.inl ⟨by rfl, by (intro w hSw; (try dsimp only at hSw); obtain ⟨a1, hSw⟩ := hSw; go_simp) <;> with_reducible rfl⟩
  try simp only [Act.put, List.setIfInBounds_toArray, List.set_cons_zero, List.set_cons_succ]
  refine wpAnyH_take (i := 9) (oi := ?o9) (v := ?v9) ?hi9 (by kernel_rfl) (by kernel_rfl) (by kernel_rfl) (fun _ _ _ h => h) ?hy9 (by assumption) ?r9
  case hi9 => simp only [List.getElem?_toArray, List.getElem?_cons_succ, List.getElem?_cons_zero]; rfl
  case hy9 => exact Or.inl ⟨by rfl, by (intro w hSw; (try dsimp only at hSw); obtain ⟨a1, hSw⟩ := hSw; go_simp) <;> with_reducible rfl⟩
  try simp only [Act.put, List.setIfInBounds_toArray, List.set_cons_zero, List.set_cons_succ]
  refine wpAnyH_take (i := 10) (oi := ?o10) (v := ?v10) ?hi10 (by kernel_rfl) (by kernel_rfl) (by kernel_rfl) (fun _ _ _ h => h) ?hy10 (by assumption) ?r10
  case hi10 => simp only [List.getElem?_toArray, List.getElem?_cons_succ, List.getElem?_cons_zero]; rfl
  case hy10 => exact Or.inl ⟨by rfl, by (intro w hSw; (try dsimp only at hSw); obtain ⟨a1, hSw⟩ := hSw; go_simp) <;> with_reducible rfl⟩
  try simp only [Act.put, List.setIfInBounds_toArray, List.set_cons_zero, List.set_cons_succ]
  refine wpAnyH_ready (rs := [11]) (by kernel_rfl) (by simp) ?_
  refine AllReadyH.cons (o := ?o11) ?hi11 (fun K hK => ?st11) AllReadyH.nil
  case hi11 => simp only [List.getElem?_toArray, List.getElem?_cons_succ, List.getElem?_cons_zero]; rfl
  (try dsimp only at hHeld); obtain ⟨a1, hF⟩ := hHeld; obtain ⟨⟨q0, q1, q2⟩, q3, q4, q5⟩ := hF.cells
  go_simp
  refine hK.out _ _ ?_ (fun hHeld => ?_)
  · (try dsimp only); (exact ⟨_, hF.put ⟨4, d2, 0⟩⟩)
  clear hK K
  try simp only [Act.put, List.setIfInBounds_toArray, List.set_cons_zero, List.set_cons_succ]
  refine wpAnyH_take (i := 12) (oi := ?o12) (v := ?v12) ?hi12 (by kernel_rfl) (by kernel_rfl) (by kernel_rfl) (fun _ _ _ h => h) ?hy12 (by assumption) ?r12
  case hi12 => simp only [List.getElem?_toArray, List.getElem?_cons_succ, List.getElem?_cons_zero]; rfl
  case hy12 => exact Or.inl ⟨by rfl, by (intro w hSw; (try dsimp only at hSw); obtain ⟨a1, hSw⟩ := hSw; go_simp) <;> with_reducible rfl⟩
  try simp only [Act.put, List.setIfInBounds_toArray, List.set_cons_zero, List.set_cons_succ]
  refine wpAnyH_done (by kernel_rfl) ?_ _
  refine NoPanic.normal ?_
  clear hHeld
  go_wp2
  refine bodyPost_ret (v := RR (⟨4, d2, 0⟩, (z == 47))) ?_ ?_ ?_
  · exact (hF.put ⟨4, d2, 0⟩).ans rfl rfl
  · rfl
  · exact ⟨by rw [HO.out], (hF.put ⟨4, d2, 0⟩).2⟩
set_option maxRecDepth 100000 in
set_option maxHeartbeats 3200000 in
theorem rread_slashf (c : UInt8) (r s : List UInt8) (d0 d : Int) (x : Bool) (d2 : Int) (z : UInt8) (w : World) (hs : s = c :: r) (h36 : s ≠ [36]) (hl : s.length ≤ 1000) (hd : digL s = (d0, false)) (he : digL r = (d, x)) (hc : c = 47) (hg : digL (r.take (r.length - 1)) = (d2, false)) (hz : (c :: r).getLast? = some z) :
    Calls Tryd.prog 31 #[S (s)] w fun e w' => e = .returned (RR (readR (s))) ∧ Below w.heap.size w w' := by
  have HR0 := Lib.hid (rar0 w)
  have HO := Lib.hid (show readR s = (⟨4, d2, 0⟩, false) from by
    subst hc
    rw [hs] at hd h36 ⊢
    rw [readR_cons, if_neg h36, hd]
    simp only [Bool.false_eq_true, if_false]
    rw [if_neg (by decide), if_neg (by decide), if_pos trivial, hg, hz]
    rfl)
  have hne : (s == []) = false := by rw [hs]; rfl
  have h36B : (s == [36]) = false := by rw [beq_eq_false_iff_ne]; exact h36
  have hlt : 0 < s.length := by rw [hs]; simp
  have hx : ((ByteArray.mk s.toArray)[0]'hlt) = c := by subst hs; rfl
  have hsz : (ByteArray.mk s.toArray).size = s.length := by simp [ByteArray.size]
  have hlt' : (0 : Int) < ((s.length : Nat) : Int) := by omega
  have h1' : (1 : Int) ≤ ((s.length : Nat) : Int) := by omega
  have hlast : ((ByteArray.mk s.toArray)[s.length - 1]'(by simp only [ByteArray.size]; simp; omega)) = z := by
    subst hs
    rw [List.getLast?_eq_some_getLast (by simp)] at hz
    have h2 := Option.some.inj hz
    rw [List.getLast_eq_getElem] at h2
    exact h2
  have hrl : r.length = s.length - 1 := by rw [hs]; simp
  have e2 := ex_drop (l := s) 1
  have hr : s.drop 1 = r := by rw [hs]; rfl
  rw [hr] at e2
  have hlr : r.length ≤ 1000 := by rw [← hr]; simp; omega
  have HD := Lib.hid (fun w' => dig_loop s w' hl)
  rw [hd] at HD
  have HE := Lib.hid (fun w' => dig_loop r w' hlr)
  rw [he] at HE
  have HG := Lib.hid (fun w' => dig_loop (r.take (r.length - 1)) w' (by simp; omega))
  rw [hg] at HG
  have e3 : (⟨s.toArray⟩ : ByteArray).extract 1 (max (s.length - 1) 1) = ⟨(r.take (r.length - 1)).toArray⟩ := by
    rw [ex_mid, hr, hrl]
    congr 3
    omega
  have m1 : IntKind.i64.wrap ((s.length : Int) - 1) = (s.length : Int) - 1 := by rw [IntKind.wrap_i64]; omega
  have m2 : max ((s.length : Int) - 1) 1 = ((max (s.length - 1) 1 : Nat) : Int) := by omega
  have m3 : ((max (s.length - 1) 1 : Nat) : Int) ≤ (s.length : Int) := by omega
  have m4 : (1 : Int) ≤ ((max (s.length - 1) 1 : Nat) : Int) := by omega
  have m5 : ((s.length : Int) - 1).toNat = s.length - 1 := by omega
  have m6 : (0 : Int) ≤ (s.length : Int) - 1 := by omega
  have m7 : (s.length : Int) - 1 < (s.length : Int) := by omega
  have m8 : ((z.toNat : Int) == 47) = (z == 47) := by
    cases hq : (z == 47)
    · have hz2 : z ≠ 47 := by rw [beq_eq_false_iff_ne] at hq; exact hq
      exact byte_ne' hz2
    · have hz2 : z = 47 := by simpa using hq
      subst hz2; rfl
  clear hs h36 hd he hr hg hz hrl
  subst hc
  generalize r.take (r.length - 1) = rt at *
  generalize max (s.length - 1) 1 = M at *
  go_enter Tryd.func31, Tryd.ntmps31
  go_wp2_with (first
    | (go_at_call 47; refine (HD.out _).mono ?_; rintro e w1 ⟨rfl, hb⟩; have HR1 := Lib.hid (HR0.out.below hb); clear hb; clear HD; obtain ⟨⟨q0, q1, q2⟩, q3, q4, q5⟩ := HR1.out.cells)
    | (go_at_call 47; refine (HE.out _).mono ?_; rintro e w2 ⟨rfl, hb⟩; have HR2 := Lib.hid (HR1.out.below hb); clear hb; clear HE; obtain ⟨⟨p0, p1, p2⟩, p3, p4, p5⟩ := HR2.out.cells)
    | (go_at_call 47; refine (HG.out _).mono ?_; rintro e w3 ⟨rfl, hb⟩; have HR3 := Lib.hid (HR2.out.below hb); clear hb; clear HG; obtain ⟨⟨r0, r1, r2⟩, r3, r4, r5⟩ := HR3.out.cells))
  refine wp_region_noPanic ?_
  refine wp_region_held_drew (S := fun w' => ∃ a1, RAr w a1 w') (by kernel_rfl) ?_ (fun hHeld => ?_)
  · (try dsimp only); exact ⟨_, HR3.out.below (Below.refl _ _).drew⟩
  refine wpAnyH_take (i := 0) (oi := ?o0) (v := ?v0) ?hi0 (by kernel_rfl) (by kernel_rfl) (by kernel_rfl) (fun _ _ _ h => h) ?hy0 (by assumption) ?r0
  case hi0 => simp only [List.getElem?_toArray, List.getElem?_cons_succ, List.getElem?_cons_zero]; rfl
  case hy0 => exact Or.inl ⟨by rfl, by (intro w hSw; (try dsimp only at hSw); obtain ⟨a1, hSw⟩ := hSw; go_simp) <;> with_reducible rfl⟩
  try simp only [Act.put, List.setIfInBounds_toArray, List.set_cons_zero, List.set_cons_succ]
  refine wpAnyH_take (i := 1) (oi := ?o1) (v := ?v1) ?hi1 (by kernel_rfl) (by kernel_rfl) (by kernel_rfl) (fun _ _ _ h => h) ?hy1 (by assumption) ?r1
  case hi1 => simp only [List.getElem?_toArray, List.getElem?_cons_succ, List.getElem?_cons_zero]; rfl
  case hy1 => exact Or.inl ⟨by rfl, by (intro w hSw; (try dsimp only at hSw); obtain ⟨a1, hSw⟩ := hSw; go_simp) <;> with_reducible rfl⟩
  try simp only [Act.put, List.setIfInBounds_toArray, List.set_cons_zero, List.set_cons_succ]
  refine wpAnyH_take (i := 2) (oi := ?o2) (v := ?v2) ?hi2 (by kernel_rfl) (by kernel_rfl) (by kernel_rfl) (fun _ _ _ h => h) ?hy2 (by assumption) ?r2
  case hi2 => simp only [List.getElem?_toArray, List.getElem?_cons_succ, List.getElem?_cons_zero]; rfl
  case hy2 => exact Or.inl ⟨by rfl, by (intro w hSw; (try dsimp only at hSw); obtain ⟨a1, hSw⟩ := hSw; go_simp) <;> with_reducible rfl⟩
  try simp only [Act.put, List.setIfInBounds_toArray, List.set_cons_zero, List.set_cons_succ]
  refine wpAnyH_take (i := 3) (oi := ?o3) (v := ?v3) ?hi3 (by kernel_rfl) (by kernel_rfl) (by kernel_rfl) (fun _ _ _ h => h) ?hy3 (by assumption) ?r3
  case hi3 => simp only [List.getElem?_toArray, List.getElem?_cons_succ, List.getElem?_cons_zero]; rfl
  case hy3 => exact Or.inl ⟨by rfl, by (intro w hSw; (try dsimp only at hSw); obtain ⟨a1, hSw⟩ := hSw; go_simp) <;> with_reducible rfl⟩
  try simp only [Act.put, List.setIfInBounds_toArray, List.set_cons_zero, List.set_cons_succ]
  refine wpAnyH_take (i := 4) (oi := ?o4) (v := undef) ?hi4 (by kernel_rfl) (by kernel_rfl) (by kernel_rfl) (fun _ _ _ h => h) ?hy4 (by assumption) ?r4
  case hi4 => simp only [List.getElem?_toArray, List.getElem?_cons_succ, List.getElem?_cons_zero]; rfl
  case hy4 => exact Or.inr ⟨by rfl, rfl⟩
  try simp only [Act.put, List.setIfInBounds_toArray, List.set_cons_zero, List.set_cons_succ]
  refine wpAnyH_take (i := 5) (oi := ?o5) (v := undef) ?hi5 (by kernel_rfl) (by kernel_rfl) (by kernel_rfl) (fun _ _ _ h => h) ?hy5 (by assumption) ?r5
  case hi5 => simp only [List.getElem?_toArray, List.getElem?_cons_succ, List.getElem?_cons_zero]; rfl
  case hy5 => exact Or.inr ⟨by rfl, rfl⟩
  try simp only [Act.put, List.setIfInBounds_toArray, List.set_cons_zero, List.set_cons_succ]
  refine wpAnyH_take (i := 6) (oi := ?o6) (v := undef) ?hi6 (by kernel_rfl) (by kernel_rfl) (by kernel_rfl) (fun _ _ _ h => h) ?hy6 (by assumption) ?r6
  case hi6 => simp only [List.getElem?_toArray, List.getElem?_cons_succ, List.getElem?_cons_zero]; rfl
  case hy6 => exact Or.inr ⟨by rfl, rfl⟩
  try simp only [Act.put, List.setIfInBounds_toArray, List.set_cons_zero, List.set_cons_succ]
  refine wpAnyH_take (i := 7) (oi := ?o7) (v := undef) ?hi7 (by kernel_rfl) (by kernel_rfl) (by kernel_rfl) (fun _ _ _ h => h) ?hy7 (by assumption) ?r7
  case hi7 => simp only [List.getElem?_toArray, List.getElem?_cons_succ, List.getElem?_cons_zero]; rfl
  case hy7 => exact Or.inr ⟨by rfl, rfl⟩
  try simp only [Act.put, List.setIfInBounds_toArray, List.set_cons_zero, List.set_cons_succ]
  refine wpAnyH_take (i := 8) (oi := ?o8) (v := undef) ?hi8 (by kernel_rfl) (by kernel_rfl) (by kernel_rfl) (fun _ _ _ h => h) ?hy8 (by assumption) ?r8
  case hi8 => simp only [List.getElem?_toArray, List.getElem?_cons_succ, List.getElem?_cons_zero]; rfl
  case hy8 => exact Or.inr ⟨by rfl, rfl⟩
  try simp only [Act.put, List.setIfInBounds_toArray, List.set_cons_zero, List.set_cons_succ]
  refine wpAnyH_take (i := 9) (oi := ?o9) (v := undef) ?hi9 (by kernel_rfl) (by kernel_rfl) (by kernel_rfl) (fun _ _ _ h => h) ?hy9 (by assumption) ?r9
  case hi9 => simp only [List.getElem?_toArray, List.getElem?_cons_succ, List.getElem?_cons_zero]; rfl
  case hy9 => exact Or.inr ⟨by rfl, rfl⟩
  try simp only [Act.put, List.setIfInBounds_toArray, List.set_cons_zero, List.set_cons_succ]
  refine wpAnyH_take (i := 10) (oi := ?o10) (v := ?v10) ?hi10 (by kernel_rfl) (by kernel_rfl) (by kernel_rfl) (fun _ _ _ h => h) ?hy10 (by assumption) ?r10
  case hi10 => simp only [List.getElem?_toArray, List.getElem?_cons_succ, List.getElem?_cons_zero]; rfl
  case hy10 => exact Or.inl ⟨by rfl, by (intro w hSw; (try dsimp only at hSw); obtain ⟨a1, hSw⟩ := hSw; go_simp) <;> with_reducible rfl⟩
  try simp only [Act.put, List.setIfInBounds_toArray, List.set_cons_zero, List.set_cons_succ]
  refine wpAnyH_ready (rs := [11]) (by kernel_rfl) (by simp) ?_
  refine AllReadyH.cons (o := ?o11) ?hi11 (fun K hK => ?st11) AllReadyH.nil
  case hi11 => simp only [List.getElem?_toArray, List.getElem?_cons_succ, List.getElem?_cons_zero]; rfl
  (try dsimp only at hHeld); obtain ⟨a1, hF⟩ := hHeld; obtain ⟨⟨q0, q1, q2⟩, q3, q4, q5⟩ := hF.cells
  go_simp
  refine hK.out _ _ ?_ (fun hHeld => ?_)
  · (try dsimp only); (exact ⟨_, hF.put ⟨4, d2, 0⟩⟩)
  clear hK K
  try simp only [Act.put, List.setIfInBounds_toArray, List.set_cons_zero, List.set_cons_succ]
  refine wpAnyH_take (i := 12) (oi := ?o12) (v := ?v12) ?hi12 (by kernel_rfl) (by kernel_rfl) (by kernel_rfl) (fun _ _ _ h => h) ?hy12 (by assumption) ?r12
  case hi12 => simp only [List.getElem?_toArray, List.getElem?_cons_succ, List.getElem?_cons_zero]; rfl
  case hy12 => exact Or.inl ⟨by rfl, by (intro w hSw; (try dsimp only at hSw); obtain ⟨a1, hSw⟩ := hSw; go_simp) <;> with_reducible rfl⟩
  try simp only [Act.put, List.setIfInBounds_toArray, List.set_cons_zero, List.set_cons_succ]
  refine wpAnyH_done (by kernel_rfl) ?_ _
  refine NoPanic.normal ?_
  clear hHeld
  go_wp2
  refine bodyPost_ret (v := RR (⟨4, d2, 0⟩, false)) ?_ ?_ ?_
  · exact (hF.put ⟨4, d2, 0⟩).ans rfl rfl
  · rfl
  · exact ⟨by rw [HO.out], (hF.put ⟨4, d2, 0⟩).2⟩
set_option maxRecDepth 100000 in
set_option maxHeartbeats 3200000 in
theorem rread_rest (c : UInt8) (r s : List UInt8) (d0 d : Int) (x : Bool) (a b : List UInt8) (two : Bool) (w : World) (hs : s = c :: r) (h36 : s ≠ [36]) (hl : s.length ≤ 1000) (hd : digL s = (d0, false)) (he : digL r = (d, x)) (h47 : c ≠ 47) (h43 : c ≠ 43) (h126 : c ≠ 126) (hcut : cutB 126 s = (a, b, two)) :
    Calls Tryd.prog 31 #[S (s)] w fun e w' => e = .returned (RR (readR (s))) ∧ Below w.heap.size w w' := by
  have HR0 := Lib.hid (rar0 w)
  have HO := Lib.hid (show readR s = if two then (⟨3, (digL a).1, (digL b).1⟩, (digL a).2 && (digL b).2) else (⟨0, 0, 0⟩, false) from by
    rw [hs] at hd h36 hcut ⊢
    rw [readR_cons, if_neg h36, hd]
    simp only [Bool.false_eq_true, if_false]
    rw [if_neg h43, if_neg h126, if_neg h47, hcut])
  have hne : (s == []) = false := by rw [hs]; rfl
  have h36B : (s == [36]) = false := by rw [beq_eq_false_iff_ne]; exact h36
  have hlt : 0 < s.length := by rw [hs]; simp
  have hx : ((ByteArray.mk s.toArray)[0]'hlt) = c := by subst hs; rfl
  have hsz : (ByteArray.mk s.toArray).size = s.length := by simp [ByteArray.size]
  have hlt' : (0 : Int) < ((s.length : Nat) : Int) := by omega
  have h1' : (1 : Int) ≤ ((s.length : Nat) : Int) := by omega
  have e2 := ex_drop (l := s) 1
  have hr : s.drop 1 = r := by rw [hs]; rfl
  rw [hr] at e2
  have hlr : r.length ≤ 1000 := by rw [← hr]; simp; omega
  have HD := Lib.hid (fun w' => dig_loop s w' hl)
  rw [hd] at HD
  have HE := Lib.hid (fun w' => dig_loop r w' hlr)
  rw [he] at HE
  have n47 : ((((c.toNat : Nat) : Int)) == 47) = false := byte_ne' h47
  have n43 : ((((c.toNat : Nat) : Int)) == 43) = false := byte_ne' h43
  have n126 : ((((c.toNat : Nat) : Int)) == 126) = false := byte_ne' h126
  have hab := cut_len hcut
  have HAD := Lib.hid (fun w' => dig_loop a w' (by omega))
  have HBD := Lib.hid (fun w' => dig_loop b w' (by omega))
  have HCUT := Lib.hid hcut
  clear hs h36 hd he hr h47 h43 h126 hcut hab
  go_enter Tryd.func31, Tryd.ntmps31
  go_wp2_with (first
    | (go_at_call 47; refine (HD.out _).mono ?_; rintro e w1 ⟨rfl, hb⟩; have HR1 := Lib.hid (HR0.out.below hb); clear hb; clear HD; obtain ⟨⟨q0, q1, q2⟩, q3, q4, q5⟩ := HR1.out.cells)
    | (go_at_call 47; refine (HE.out _).mono ?_; rintro e w2 ⟨rfl, hb⟩; have HR2 := Lib.hid (HR1.out.below hb); clear hb; clear HE; obtain ⟨⟨p0, p1, p2⟩, p3, p4, p5⟩ := HR2.out.cells))
  go_loop [10] (fun i => ∃ k : Nat, k ≤ s.length ∧ i = .int .i64 (k : Nat) ∧ Hid (cutB 126 s = (s.take k ++ (cutB 126 (s.drop k)).1, (cutB 126 (s.drop k)).2.1, (cutB 126 (s.drop k)).2.2))) (fun i => s.length - (intOf i).toNat)
  case atStart => exact ⟨0, Nat.zero_le _, rfl, Lib.hid (by simp)⟩
  case round =>
    obtain ⟨k, hk, rfl, HK⟩ := hrel
    by_cases hlk : k < s.length
    · have hlk' : ((k : Nat) : Int) < ((s.length : Nat) : Int) := by omega
      have hy : ((ByteArray.mk s.toArray)[k]'hlk) = s[k] := rfl
      have hst := cutB_step hlk
      by_cases h7 : s[k] = 126
      · rw [if_pos h7] at hst
        have hc := HK.out
        rw [HCUT.out, hst, List.append_nil] at hc
        obtain ⟨rfl, rfl, rfl⟩ : a = s.take k ∧ b = s.drop (k + 1) ∧ two = true := by
          simp only [Prod.mk.injEq] at hc; exact hc
        have e5 := ex_take (l := s) k
        have e6 := ex_drop (l := s) (k + 1)
        have hk1 : ((k : Nat) : Int) + 1 ≤ ((s.length : Nat) : Int) := by omega
        have hk2 : (((k : Nat) : Int) + 1).toNat = k + 1 := by omega
        have hk3 : ((k : Nat) : Int) ≤ ((s.length : Nat) : Int) := by omega
        clear HK hst hc HCUT
        rw [h7] at hy
        simp only [if_true] at HO
        generalize s.take k = xa at *
        generalize s.drop (k + 1) = xb at *
        generalize digL xa = pa at *
        generalize digL xb = pb at *
        obtain ⟨da, ya⟩ := pa
        obtain ⟨db, yb⟩ := pb
        dsimp only at HO HAD HBD
        have hyy : ∀ t : Bool, (ya && t) = (if ya then t else false) := fun t => by cases ya <;> rfl
        cases ya
        all_goals go_wp2_with (first
          | (go_at_call 47; refine (HAD.out _).mono ?_; rintro e w3 ⟨rfl, hb⟩; have HR3 := Lib.hid (HR2.out.below hb); clear hb; clear HAD; obtain ⟨⟨r0, r1, r2⟩, r3, r4, r5⟩ := HR3.out.cells)
          | (go_at_call 47; have hz := HR3.out; clear HR3; refine (HBD.out _).mono ?_; rintro e w4 ⟨rfl, hb⟩; have HR4 := Lib.hid (RAr.below hz hb); clear hb hz; obtain ⟨⟨t0, t1, t2⟩, t3, t4, t5⟩ := HR4.out.cells))
        · refine bodyPost_ret (v := RR (⟨3, da, db⟩, false)) ?_ ?_ ?_
          · exact (HR4.out.put ⟨3, da, db⟩).ans rfl rfl
          · rfl
          · exact ⟨by rw [HO.out]; rfl, (HR4.out.put ⟨3, da, db⟩).2⟩
        · refine bodyPost_ret (v := RR (⟨3, da, db⟩, yb)) ?_ ?_ ?_
          · exact (HR4.out.put ⟨3, da, db⟩).ans rfl rfl
          · rfl
          · exact ⟨by rw [HO.out]; rfl, (HR4.out.put ⟨3, da, db⟩).2⟩
      · rw [if_neg h7] at hst
        have HK2 := Lib.hid (show cutB 126 s = (s.take (k + 1) ++ (cutB 126 (s.drop (k + 1))).1, (cutB 126 (s.drop (k + 1))).2.1, (cutB 126 (s.drop (k + 1))).2.2) from by
          rw [HK.out, hst, List.take_succ_eq_append_getElem hlk, List.append_assoc]; rfl)
        have n7 : (((s[k].toNat : Nat) : Int) == 126) = false := byte_ne' h7
        clear HK hst HAD HBD h7
        generalize s[k] = cc at *
        go_wp2
        go_round
        case rel => exact ⟨k + 1, by omega, by go_num, HK2⟩
        case measure => simp [intOf]; omega
    · obtain rfl : k = s.length := by omega
      have hlk' : ¬ ((s.length : Nat) : Int) < ((s.length : Nat) : Int) := by omega
      have hc := HK.out
      rw [HCUT.out, List.drop_of_length_le (Nat.le_refl _)] at hc
      obtain rfl : two = false := by
        have : two = (cutB 126 ([] : List UInt8)).2.2 := congrArg (fun p => p.2.2) hc
        exact this
      clear hc HK HCUT HAD HBD
      simp only [Bool.false_eq_true, if_false] at HO
      go_wp2
      refine bodyPost_ret (v := RR (⟨0, 0, 0⟩, false)) ?_ ?_ ?_
      · exact (HR2.out.put ⟨0, 0, 0⟩).ans rfl rfl
      · rfl
      · exact ⟨by rw [HO.out], (HR2.out.put ⟨0, 0, 0⟩).2⟩
theorem rread_any (s : List UInt8) (w : World) (hl : s.length ≤ 1000) :
    Calls Tryd.prog 31 #[S s] w fun e w' => e = .returned (RR (readR s)) ∧ Below w.heap.size w w' := by
  by_cases h36 : s = [36]
  · subst h36; exact rread_dollar w
  cases hs : s with
  | nil => exact rread_nil w
  | cons c r =>
    rw [hs] at h36 hl
    cases hd : digL (c :: r) with
    | mk d0 y =>
      cases y with
      | true => exact rread_num c r _ d0 w rfl h36 hl hd
      | false =>
        by_cases h43 : c = 43
        · exact rread_plus c r _ d0 _ _ w rfl h36 hl hd rfl h43
        by_cases h126 : c = 126
        · exact rread_round c r _ d0 _ _ w rfl h36 hl hd rfl h126
        by_cases h47 : c = 47
        · cases hg : digL (r.take (r.length - 1)) with
          | mk d2 y2 =>
            cases y2 with
            | true => exact rread_slasht c r _ d0 _ _ d2 _ w rfl h36 hl hd rfl h47 hg (List.getLast?_eq_some_getLast (by simp))
            | false => exact rread_slashf c r _ d0 _ _ d2 _ w rfl h36 hl hd rfl h47 hg (List.getLast?_eq_some_getLast (by simp))
        · exact rread_rest c r _ d0 _ _ _ _ _ w rfl h36 hl hd rfl h47 h43 h126 rfl
end Go.Proofs.YtcijhfdccbgcpaaDoor.Ad
