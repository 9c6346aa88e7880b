/- The reference's begun, ask: the walks. -/
import Derived.Test.YtcijhfdccbgcpaaDoorAdH
import Derived.Test.YtcijhfdccbgcpaaDoorAdA
namespace Go.Proofs.YtcijhfdccbgcpaaDoor.Ad
open Go.RowKit Go.Shelf
set_option linter.unusedVariables false
set_option linter.unusedSimpArgs false
/-- The blocks of a call of ask: range, state, line, answer. -/
def FrR (w0 : World) (a b : A3) (nt : Bool) (s r : S2) (N : Int) (last : Bool) (v : Value) (w : World) : Prop :=
  w.heap[w0.heap.size]? = some (.cells #[E a.k, E a.n, E a.m, E b.k, E b.n, E b.m, .bool nt] 33 (0, 0)) ∧
  w.heap[w0.heap.size + 1]? = some (.cells #[.bool s.op, E s.to] 53 (0, 0)) ∧
  w.heap[w0.heap.size + 1 + 1]? = some (.cells #[E N, .bool last, v] 48 (0, 0)) ∧
  w.heap[w0.heap.size + 1 + 1 + 1]? = some (.cells #[.bool r.op, E r.to] 53 (0, 0)) ∧ Below w0.heap.size w0 w
theorem FrR.below {w0 : World} {a b : A3} {nt : Bool} {s r : S2} {N : Int} {last : Bool} {v : Value} {w w' : World} (h : FrR w0 a b nt s r N last v w) (hb : Below w.heap.size w w') : FrR w0 a b nt s r N last v w' :=
  ⟨(hb.block _ (lt_heap h.1)).trans h.1, (hb.block _ (lt_heap h.2.1)).trans h.2.1, (hb.block _ (lt_heap h.2.2.1)).trans h.2.2.1, (hb.block _ (lt_heap h.2.2.2.1)).trans h.2.2.2.1, h.2.2.2.2.trans (hb.mono h.2.2.2.2.size)⟩
theorem fr0rR (w : World) (a b : A3) (nt : Bool) (s r : S2) (N : Int) (last : Bool) (v : Value) : FrR w a b nt s r N last v
    ((((w.alloc (.cells #[E a.k, E a.n, E a.m, E b.k, E b.n, E b.m, .bool nt] 33)).alloc (.cells #[.bool s.op, E s.to] 53)).alloc (.cells #[E N, .bool last, v] 48)).alloc (.cells #[.bool r.op, E r.to] 53)) := four w _ _ _ _
theorem fr0R (w : World) (a b : A3) (nt : Bool) (s : S2) (N : Int) (last : Bool) (v : Value) : FrR w a b nt s ⟨false, 0⟩ N last v
    ((((w.alloc (.cells #[E a.k, E a.n, E a.m, E b.k, E b.n, E b.m, .bool nt] 33)).alloc (.cells #[.bool s.op, E s.to] 53)).alloc (.cells #[E N, .bool last, v] 48)).alloc (.cells #[.bool false, E 0] 53)) := four w _ _ _ _
theorem infoSR : (Tryd.prog.info? 53).map (·.size) = some 2 := by kernel_rfl
theorem FrR.set {w0 : World} {a b : A3} {nt : Bool} {s r : S2} {N : Int} {last : Bool} {v : Value} {w : World} (h : FrR w0 a b nt s r N last v w) (r' : S2) :
    FrR w0 a b nt s r' N last v ((w.setCell ⟨w0.heap.size + 1 + 1 + 1, 0, none⟩ (.bool r'.op)).setCell ⟨w0.heap.size + 1 + 1 + 1, 1, none⟩ (E r'.to)) := by
  obtain ⟨h1, h2, h3, h4, hb⟩ := h
  have k := Go.Joins.block_setCell (Go.Joins.block_setCell h4 (i := 0) (.bool r'.op)) (i := 1) (E r'.to)
  refine ⟨?_, ?_, ?_, k, (hb.setCell (by simp; omega) _).setCell (by simp; omega) _⟩
  · rw [Below.heap_setCell _ _ _ _ (by simp; try omega), Below.heap_setCell _ _ _ _ (by simp; try omega), h1]
  · rw [Below.heap_setCell _ _ _ _ (by simp; try omega), Below.heap_setCell _ _ _ _ (by simp; try omega), h2]
  · rw [Below.heap_setCell _ _ _ _ (by simp; try omega), Below.heap_setCell _ _ _ _ (by simp; try omega), h3]
theorem FrR.setS {w0 : World} {a b : A3} {nt : Bool} {s r : S2} {N : Int} {last : Bool} {v : Value} {w : World} (h : FrR w0 a b nt s r N last v w) (s' : S2) :
    FrR w0 a b nt s' r N last v ((w.setCell ⟨w0.heap.size + 1, 0, none⟩ (.bool s'.op)).setCell ⟨w0.heap.size + 1, 1, none⟩ (E s'.to)) := by
  obtain ⟨h1, h2, h3, h4, hb⟩ := h
  have k := Go.Joins.block_setCell (Go.Joins.block_setCell h2 (i := 0) (.bool s'.op)) (i := 1) (E s'.to)
  refine ⟨?_, k, ?_, ?_, (hb.setCell (by simp) _).setCell (by simp) _⟩
  · rw [Below.heap_setCell _ _ _ _ (by simp; try omega), Below.heap_setCell _ _ _ _ (by simp; try omega), h1]
  · rw [Below.heap_setCell _ _ _ _ (by simp; try omega), Below.heap_setCell _ _ _ _ (by simp; try omega), h3]
  · rw [Below.heap_setCell _ _ _ _ (by simp; try omega), Below.heap_setCell _ _ _ _ (by simp; try omega), h4]
theorem FrR.ans {w0 : World} {a b : A3} {nt : Bool} {s r : S2} {N : Int} {last : Bool} {v : Value} {w : World} (h : FrR w0 a b nt s r N last v w) (x : Bool) {tmps : Array Value}
    (hx : tmps.getD 6 undef = .bool x) (hp : tmps.getD 7 undef = .pointer (some ⟨w0.heap.size + 1 + 1 + 1, 0, none⟩)) : (results Tryd.f40 tmps).run Tryd.prog w = .ok (.tuple #[.bool x, SV2 r]) w :=
  ansT Tryd.underlying53 2 infoSR rfl hx hp h.2.2.2.1 rfl
theorem FrR.cells {w0 : World} {a b : A3} {nt : Bool} {s r : S2} {N : Int} {last : Bool} {v : Value} {w : World} (h : FrR w0 a b nt s r N last v w) :
    (w.cell? ⟨w0.heap.size, 0, none⟩ = some (E a.k) ∧ w.cell? ⟨w0.heap.size, 1, none⟩ = some (E a.n) ∧ w.cell? ⟨w0.heap.size, 2, none⟩ = some (E a.m) ∧ w.cell? ⟨w0.heap.size, 3, none⟩ = some (E b.k) ∧ w.cell? ⟨w0.heap.size, 4, none⟩ = some (E b.n) ∧ w.cell? ⟨w0.heap.size, 5, none⟩ = some (E b.m) ∧ w.cell? ⟨w0.heap.size, 6, none⟩ = some (.bool nt)) ∧
    (w.cell? ⟨w0.heap.size + 1, 0, none⟩ = some (.bool s.op) ∧ w.cell? ⟨w0.heap.size + 1, 1, none⟩ = some (E s.to)) ∧
    (w.cell? ⟨w0.heap.size + 1 + 1, 0, none⟩ = some (E N) ∧ w.cell? ⟨w0.heap.size + 1 + 1, 1, none⟩ = some (.bool last) ∧ w.cell? ⟨w0.heap.size + 1 + 1, 2, none⟩ = some v) ∧
    (w.cell? ⟨w0.heap.size + 1 + 1 + 1, 0, none⟩ = some (.bool r.op) ∧ w.cell? ⟨w0.heap.size + 1 + 1 + 1, 1, none⟩ = some (E r.to)) := by
  obtain ⟨h1, h2, h3, h4, _⟩ := h
  refine ⟨⟨?_, ?_, ?_, ?_, ?_, ?_, ?_⟩, ⟨?_, ?_⟩, ⟨?_, ?_, ?_⟩, ?_, ?_⟩
  all_goals first | (rw [Lib.cell_of_heap h1]; rfl) | (rw [Lib.cell_of_heap h2]; rfl) | (rw [Lib.cell_of_heap h3]; rfl) | (rw [Lib.cell_of_heap h4]; rfl)
theorem FrR.unfrozen {w0 : World} {a b : A3} {nt : Bool} {s r : S2} {N : Int} {last : Bool} {v : Value} {w : World} (h : FrR w0 a b nt s r N last v w) :
    w.frozen? ⟨w0.heap.size + 1, 0, none⟩ = false ∧ w.frozen? ⟨w0.heap.size + 1, 1, none⟩ = false ∧ w.frozen? ⟨w0.heap.size + 1 + 1 + 1, 0, none⟩ = false ∧ w.frozen? ⟨w0.heap.size + 1 + 1 + 1, 1, none⟩ = false := by
  obtain ⟨h1, h2, h3, h4, _⟩ := h
  exact ⟨by simp [World.frozen?, h2], by simp [World.frozen?, h2], by simp [World.frozen?, h4], by simp [World.frozen?, h4]⟩
abbrev AskRP (a b : A3) (nt : Bool) (s : S2) (N : Int) (last : Bool) (v : Value) (hs : List Bool) (w : World) : Prop :=
  Calls Tryd.prog 40 #[RV a b nt, SV2 s, LV N last v] w fun e w' => e = .returned (.tuple #[.bool (askL a b s ⟨N, last, hs⟩).1, SV2 (askL a b s ⟨N, last, hs⟩).2]) ∧ Below w.heap.size w w'
theorem three (w : World) (o1 o2 o3 : Obj) : (((w.alloc o1).alloc o2).alloc o3).heap[w.heap.size + 1 + 1]? = some o3 ∧ Below w.heap.size w (((w.alloc o1).alloc o2).alloc o3) := by
  have e2 : ((w.alloc o1).alloc o2).heap.size = w.heap.size + 1 + 1 := by simp
  have h3 := heap_alloc_new ((w.alloc o1).alloc o2) o3
  rw [e2] at h3
  have b1 : Below w.heap.size w (w.alloc o1) := (Below.refl w.heap.size w).alloc (Nat.le_refl _) _
  exact ⟨h3, (b1.alloc (by simp) _).alloc (by simp; try omega) _⟩
set_option maxRecDepth 100000 in
set_option maxHeartbeats 1600000 in
theorem rbegun_2t (n : Int) (m N : Int) (v : Value) (hs : List Bool) (w : World)  :
    Calls Tryd.prog 50 #[AV ⟨2, n, m⟩, LV N true v] w fun e w' => e = .returned (SV2 (begun ⟨2, n, m⟩ ⟨N, true, hs⟩)) ∧ Below w.heap.size w w' := by
  have HO := Lib.hid (show begun ⟨2, n, m⟩ ⟨N, true, hs⟩ = ⟨false, 0⟩ from by rfl)
  have H3 := Lib.hid (three w (.cells #[E 2, E n, E m] 31) (.cells #[E N, .bool true, v] 48) (.cells #[.bool (⟨false, 0⟩ : S2).op, E (⟨false, 0⟩ : S2).to] 53))
  go_enter Tryd.func50, Tryd.ntmps50
  go_wp2
  refine bodyPost_ret (v := SV2 ⟨false, 0⟩) ?_ ?_ ?_
  · exact ansA Tryd.underlying53 2 infoSR rfl rfl H3.out.1 rfl
  · rfl
  · exact ⟨by rw [HO.out], H3.out.2⟩
set_option maxRecDepth 100000 in
set_option maxHeartbeats 1600000 in
theorem rbegun_2f (n : Int) (m N : Int) (v : Value) (hs : List Bool) (w : World)  :
    Calls Tryd.prog 50 #[AV ⟨2, n, m⟩, LV N false v] w fun e w' => e = .returned (SV2 (begun ⟨2, n, m⟩ ⟨N, false, hs⟩)) ∧ Below w.heap.size w w' := by
  have HO := Lib.hid (show begun ⟨2, n, m⟩ ⟨N, false, hs⟩ = ⟨true, 0⟩ from by rfl)
  have H3 := Lib.hid (three w (.cells #[E 2, E n, E m] 31) (.cells #[E N, .bool false, v] 48) (.cells #[.bool (⟨true, 0⟩ : S2).op, E (⟨true, 0⟩ : S2).to] 53))
  go_enter Tryd.func50, Tryd.ntmps50
  go_wp2
  refine bodyPost_ret (v := SV2 ⟨true, 0⟩) ?_ ?_ ?_
  · exact ansA Tryd.underlying53 2 infoSR rfl rfl H3.out.1 rfl
  · rfl
  · exact ⟨by rw [HO.out], H3.out.2⟩
set_option maxRecDepth 100000 in
set_option maxHeartbeats 1600000 in
theorem rbegun_4 (n : Int) (m N : Int) (last : Bool) (v : Value) (hs : List Bool) (w : World)  :
    Calls Tryd.prog 50 #[AV ⟨4, n, m⟩, LV N last v] w fun e w' => e = .returned (SV2 (begun ⟨4, n, m⟩ ⟨N, last, hs⟩)) ∧ Below w.heap.size w w' := by
  have HO := Lib.hid (show begun ⟨4, n, m⟩ ⟨N, last, hs⟩ = ⟨true, 0⟩ from by unfold begun; rfl)
  have H3 := Lib.hid (three w (.cells #[E 4, E n, E m] 31) (.cells #[E N, .bool last, v] 48) (.cells #[.bool (⟨true, 0⟩ : S2).op, E (⟨true, 0⟩ : S2).to] 53))
  go_enter Tryd.func50, Tryd.ntmps50
  go_wp2
  refine bodyPost_ret (v := SV2 ⟨true, 0⟩) ?_ ?_ ?_
  · exact ansA Tryd.underlying53 2 infoSR rfl rfl H3.out.1 rfl
  · rfl
  · exact ⟨by rw [HO.out], H3.out.2⟩
set_option maxRecDepth 100000 in
set_option maxHeartbeats 1600000 in
theorem rbegun_1y (n : Int) (m N : Int) (last : Bool) (v : Value) (hs : List Bool) (w : World)  (h : N < n) :
    Calls Tryd.prog 50 #[AV ⟨1, n, m⟩, LV N last v] w fun e w' => e = .returned (SV2 (begun ⟨1, n, m⟩ ⟨N, last, hs⟩)) ∧ Below w.heap.size w w' := by
  have HO := Lib.hid (show begun ⟨1, n, m⟩ ⟨N, last, hs⟩ = ⟨true, n⟩ from by rw [begun_num (by first | exact Or.inl rfl | exact Or.inr (by simp))]; dsimp only; rw [(show toL ⟨1, n, m⟩ N = n from by unfold toL; rw [if_pos rfl]), if_pos h])
  have H3 := Lib.hid (three w (.cells #[E 1, E n, E m] 31) (.cells #[E N, .bool last, v] 48) (.cells #[.bool (⟨true, n⟩ : S2).op, E (⟨true, n⟩ : S2).to] 53))
  go_enter Tryd.func50, Tryd.ntmps50
  go_wp2
  refine bodyPost_ret (v := SV2 ⟨true, n⟩) ?_ ?_ ?_
  · exact ansA Tryd.underlying53 2 infoSR rfl rfl H3.out.1 rfl
  · rfl
  · exact ⟨by rw [HO.out], H3.out.2⟩
set_option maxRecDepth 100000 in
set_option maxHeartbeats 1600000 in
theorem rbegun_1n (n : Int) (m N : Int) (last : Bool) (v : Value) (hs : List Bool) (w : World)  (h : ¬ N < n) :
    Calls Tryd.prog 50 #[AV ⟨1, n, m⟩, LV N last v] w fun e w' => e = .returned (SV2 (begun ⟨1, n, m⟩ ⟨N, last, hs⟩)) ∧ Below w.heap.size w w' := by
  have HO := Lib.hid (show begun ⟨1, n, m⟩ ⟨N, last, hs⟩ = ⟨false, 0⟩ from by rw [begun_num (by first | exact Or.inl rfl | exact Or.inr (by simp))]; dsimp only; rw [(show toL ⟨1, n, m⟩ N = n from by unfold toL; rw [if_pos rfl]), if_neg h])
  have H3 := Lib.hid (three w (.cells #[E 1, E n, E m] 31) (.cells #[E N, .bool last, v] 48) (.cells #[.bool (⟨false, 0⟩ : S2).op, E (⟨false, 0⟩ : S2).to] 53))
  go_enter Tryd.func50, Tryd.ntmps50
  go_wp2
  refine bodyPost_ret (v := SV2 ⟨false, 0⟩) ?_ ?_ ?_
  · exact ansA Tryd.underlying53 2 infoSR rfl rfl H3.out.1 rfl
  · rfl
  · exact ⟨by rw [HO.out], H3.out.2⟩
set_option maxRecDepth 100000 in
set_option maxHeartbeats 1600000 in
theorem rbegun_5y (n : Int) (m N : Int) (last : Bool) (v : Value) (hs : List Bool) (w : World) (hn : 0 ≤ n ∧ n ≤ 999999999) (hN : 0 ≤ N ∧ N ≤ 999999999) (h : N < (N + n)) :
    Calls Tryd.prog 50 #[AV ⟨5, n, m⟩, LV N last v] w fun e w' => e = .returned (SV2 (begun ⟨5, n, m⟩ ⟨N, last, hs⟩)) ∧ Below w.heap.size w w' := by
  have HO := Lib.hid (show begun ⟨5, n, m⟩ ⟨N, last, hs⟩ = ⟨true, (N + n)⟩ from by rw [begun_num (by first | exact Or.inl rfl | exact Or.inr (by simp))]; dsimp only; rw [(show toL ⟨5, n, m⟩ N = (N + n) from by unfold toL; simp), if_pos h])
  have H3 := Lib.hid (three w (.cells #[E 5, E n, E m] 31) (.cells #[E N, .bool last, v] 48) (.cells #[.bool (⟨true, (N + n)⟩ : S2).op, E (⟨true, (N + n)⟩ : S2).to] 53))
  go_enter Tryd.func50, Tryd.ntmps50
  go_wp2
  refine bodyPost_ret (v := SV2 ⟨true, (N + n)⟩) ?_ ?_ ?_
  · exact ansA Tryd.underlying53 2 infoSR rfl rfl H3.out.1 rfl
  · rfl
  · exact ⟨by rw [HO.out], H3.out.2⟩
set_option maxRecDepth 100000 in
set_option maxHeartbeats 1600000 in
theorem rbegun_5n (n : Int) (m N : Int) (last : Bool) (v : Value) (hs : List Bool) (w : World) (hn : 0 ≤ n ∧ n ≤ 999999999) (hN : 0 ≤ N ∧ N ≤ 999999999) (h : ¬ N < (N + n)) :
    Calls Tryd.prog 50 #[AV ⟨5, n, m⟩, LV N last v] w fun e w' => e = .returned (SV2 (begun ⟨5, n, m⟩ ⟨N, last, hs⟩)) ∧ Below w.heap.size w w' := by
  have HO := Lib.hid (show begun ⟨5, n, m⟩ ⟨N, last, hs⟩ = ⟨false, 0⟩ from by rw [begun_num (by first | exact Or.inl rfl | exact Or.inr (by simp))]; dsimp only; rw [(show toL ⟨5, n, m⟩ N = (N + n) from by unfold toL; simp), if_neg h])
  have H3 := Lib.hid (three w (.cells #[E 5, E n, E m] 31) (.cells #[E N, .bool last, v] 48) (.cells #[.bool (⟨false, 0⟩ : S2).op, E (⟨false, 0⟩ : S2).to] 53))
  go_enter Tryd.func50, Tryd.ntmps50
  go_wp2
  refine bodyPost_ret (v := SV2 ⟨false, 0⟩) ?_ ?_ ?_
  · exact ansA Tryd.underlying53 2 infoSR rfl rfl H3.out.1 rfl
  · rfl
  · exact ⟨by rw [HO.out], H3.out.2⟩
set_option maxRecDepth 100000 in
set_option maxHeartbeats 1600000 in
theorem rbegun_6a (n : Int) (m N : Int) (last : Bool) (v : Value) (hs : List Bool) (w : World) (hn : 0 ≤ n ∧ n ≤ 999999999) (hN : 0 ≤ N ∧ N ≤ 999999999) (h0 : 0 < n) (hm : N % n = 0) :
    Calls Tryd.prog 50 #[AV ⟨6, n, m⟩, LV N last v] w fun e w' => e = .returned (SV2 (begun ⟨6, n, m⟩ ⟨N, last, hs⟩)) ∧ Below w.heap.size w w' := by
  have HO := Lib.hid (show begun ⟨6, n, m⟩ ⟨N, last, hs⟩ = ⟨false, 0⟩ from by rw [begun_num (Or.inr (by simp))]; dsimp only; rw [(show toL ⟨6, n, m⟩ N = N from by unfold toL; simp [hm]), if_neg (by omega)])
  have H3 := Lib.hid (three w (.cells #[E 6, E n, E m] 31) (.cells #[E N, .bool last, v] 48) (.cells #[.bool (⟨false, 0⟩ : S2).op, E (⟨false, 0⟩ : S2).to] 53))
  go_enter Tryd.func50, Tryd.ntmps50
  go_wp2
  refine bodyPost_ret (v := SV2 ⟨false, 0⟩) ?_ ?_ ?_
  · exact ansA Tryd.underlying53 2 infoSR rfl rfl H3.out.1 rfl
  · rfl
  · exact ⟨by rw [HO.out], H3.out.2⟩
set_option maxRecDepth 100000 in
set_option maxHeartbeats 1600000 in
theorem rbegun_6z  (m N : Int) (last : Bool) (v : Value) (hs : List Bool) (w : World) (hN : 0 ≤ N ∧ N ≤ 999999999) :
    Calls Tryd.prog 50 #[AV ⟨6, 0, m⟩, LV N last v] w fun e w' => e = .returned (SV2 (begun ⟨6, 0, m⟩ ⟨N, last, hs⟩)) ∧ Below w.heap.size w w' := by
  have HO := Lib.hid (show begun ⟨6, 0, m⟩ ⟨N, last, hs⟩ = ⟨false, 0⟩ from by rw [begun_num (Or.inr (by simp))]; dsimp only; rw [(show toL ⟨6, 0, m⟩ N = N from by unfold toL; simp), if_neg (by omega)])
  have H3 := Lib.hid (three w (.cells #[E 6, E 0, E m] 31) (.cells #[E N, .bool last, v] 48) (.cells #[.bool (⟨false, 0⟩ : S2).op, E (⟨false, 0⟩ : S2).to] 53))
  go_enter Tryd.func50, Tryd.ntmps50
  go_wp2
  refine bodyPost_ret (v := SV2 ⟨false, 0⟩) ?_ ?_ ?_
  · exact ansA Tryd.underlying53 2 infoSR rfl rfl H3.out.1 rfl
  · rfl
  · exact ⟨by rw [HO.out], H3.out.2⟩
set_option maxRecDepth 100000 in
set_option maxHeartbeats 1600000 in
theorem rbegun_6b (n : Int) (m N : Int) (last : Bool) (v : Value) (hs : List Bool) (w : World) (hn : 0 ≤ n ∧ n ≤ 999999999) (hN : 0 ≤ N ∧ N ≤ 999999999) (h0 : 0 < n) (hm : N % n ≠ 0) :
    Calls Tryd.prog 50 #[AV ⟨6, n, m⟩, LV N last v] w fun e w' => e = .returned (SV2 (begun ⟨6, n, m⟩ ⟨N, last, hs⟩)) ∧ Below w.heap.size w w' := by
  have HO := Lib.hid (show begun ⟨6, n, m⟩ ⟨N, last, hs⟩ = ⟨true, N + n - N % n⟩ from by 
    have q2 : N % n < n := Int.emod_lt_of_pos _ h0
    rw [begun_num (Or.inr (by simp))]; dsimp only; rw [(show toL ⟨6, n, m⟩ N = N + n - N % n from by unfold toL; simp [hm, h0]), if_pos (by omega)])
  have hmB : (N % n != 0) = true := by rw [bne_iff_ne]; exact hm
  have hq1 : 0 ≤ N % n := Int.emod_nonneg _ (by omega)
  have hq2 : N % n < n := Int.emod_lt_of_pos _ h0
  have hq3 : N < N + n - N % n := by omega
  have H3 := Lib.hid (three w (.cells #[E 6, E n, E m] 31) (.cells #[E N, .bool last, v] 48) (.cells #[.bool (⟨true, N + n - N % n⟩ : S2).op, E (⟨true, N + n - N % n⟩ : S2).to] 53))
  go_enter Tryd.func50, Tryd.ntmps50
  go_wp2
  go_region
  go_wp2
  refine bodyPost_ret (v := SV2 ⟨true, N + n - N % n⟩) ?_ ?_ ?_
  · exact ansA Tryd.underlying53 2 infoSR rfl rfl H3.out.1 rfl
  · rfl
  · exact ⟨by rw [HO.out], (H3.out.2.drew)⟩
theorem rbegun_any (b : A3) (N : Int) (last : Bool) (v : Value) (hs : List Bool) (w : World) (hb : One b) (h0 : b.k ≠ 0) (h3 : b.k ≠ 3) (hN : 0 ≤ N ∧ N ≤ 999999999) :
    Calls Tryd.prog 50 #[AV b, LV N last v] w fun e w' => e = .returned (SV2 (begun b ⟨N, last, hs⟩)) ∧ Below w.heap.size w w' := by
  obtain ⟨k, n, m⟩ := b
  have hn : 0 ≤ n ∧ n ≤ 999999999 := by unfold One at hb; dsimp only at hb; omega
  have hk : k = 1 ∨ k = 2 ∨ k = 4 ∨ k = 5 ∨ k = 6 := by unfold One at hb; dsimp only at hb h0 h3; omega
  rcases hk with rfl | rfl | rfl | rfl | rfl
  · by_cases h : N < n
    · exact rbegun_1y n m N last v hs w h
    · exact rbegun_1n n m N last v hs w h
  · cases last
    · exact rbegun_2f n m N v hs w
    · exact rbegun_2t n m N v hs w
  · exact rbegun_4 n m N last v hs w
  · by_cases h : N < N + n
    · exact rbegun_5y n m N last v hs w hn hN h
    · exact rbegun_5n n m N last v hs w hn hN h
  · by_cases h : 0 < n
    · by_cases hm : N % n = 0
      · exact rbegun_6a n m N last v hs w hn hN h hm
      · exact rbegun_6b n m N last v hs w hn hN h hm
    · obtain rfl : n = 0 := by omega
      exact rbegun_6z m N last v hs w hN
end Go.Proofs.YtcijhfdccbgcpaaDoor.Ad
