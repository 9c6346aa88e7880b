/- Addresses: ask: the walk. -/
import Derived.Test.YtcijhfdccbgcpaaDoorAdW4
import Derived.Lib.SmallJoins
namespace Go.Proofs.YtcijhfdccbgcpaaDoor.Ad
open Go.RowKit
set_option linter.unusedVariables false
set_option linter.unusedSimpArgs false
theorem ret2 {a b a' b' : Value} (h1 : a = a') (h2 : b = b') : Ending.returned (.tuple #[a, b]) = .returned (.tuple #[a', b']) := by rw [h1, h2]
/-- The blocks of a call of ask: range, state, line, answer. -/
def Fr (w0 : World) (a b : A3) (nt : Bool) (s r : S2) (N : Int) (last : Bool) (v : Value) (w : World) : Prop :=
  w.heap[w0.heap.size]? = some (.cells #[E a.k, E a.n, E a.m, E b.k, E b.n, E b.m, .bool nt] 25 (0, 0)) ∧
  w.heap[w0.heap.size + 1]? = some (.cells #[.bool s.op, E s.to] 52 (0, 0)) ∧
  w.heap[w0.heap.size + 1 + 1]? = some (.cells #[E N, .bool last, v] 44 (0, 0)) ∧
  w.heap[w0.heap.size + 1 + 1 + 1]? = some (.cells #[.bool r.op, E r.to] 52 (0, 0)) ∧ Below w0.heap.size w0 w
theorem Fr.below {w0 : World} {a b : A3} {nt : Bool} {s r : S2} {N : Int} {last : Bool} {v : Value} {w w' : World} (h : Fr w0 a b nt s r N last v w) (hb : Below w.heap.size w w') : Fr w0 a b nt s r N last v w' :=
  ⟨(hb.block _ (lt_heap h.1)).trans h.1, (hb.block _ (lt_heap h.2.1)).trans h.2.1, (hb.block _ (lt_heap h.2.2.1)).trans h.2.2.1, (hb.block _ (lt_heap h.2.2.2.1)).trans h.2.2.2.1, h.2.2.2.2.trans (hb.mono h.2.2.2.2.size)⟩
theorem four (w : World) (o1 o2 o3 o4 : Obj) : ((((w.alloc o1).alloc o2).alloc o3).alloc o4).heap[w.heap.size]? = some o1 ∧ ((((w.alloc o1).alloc o2).alloc o3).alloc o4).heap[w.heap.size + 1]? = some o2 ∧
    ((((w.alloc o1).alloc o2).alloc o3).alloc o4).heap[w.heap.size + 1 + 1]? = some o3 ∧ ((((w.alloc o1).alloc o2).alloc o3).alloc o4).heap[w.heap.size + 1 + 1 + 1]? = some o4 ∧ Below w.heap.size w ((((w.alloc o1).alloc o2).alloc o3).alloc o4) := by
  have e1 : (w.alloc o1).heap.size = w.heap.size + 1 := by simp
  have e2 : ((w.alloc o1).alloc o2).heap.size = w.heap.size + 1 + 1 := by simp
  have e3 : (((w.alloc o1).alloc o2).alloc o3).heap.size = w.heap.size + 1 + 1 + 1 := by simp
  have h1 := heap_alloc_new w o1
  have h2 := heap_alloc_new (w.alloc o1) o2
  have h3 := heap_alloc_new ((w.alloc o1).alloc o2) o3
  have h4 := heap_alloc_new (((w.alloc o1).alloc o2).alloc o3) o4
  rw [e1] at h2
  rw [e2] at h3
  rw [e3] at h4
  have b1 : Below w.heap.size w (w.alloc o1) := (Below.refl w.heap.size w).alloc (Nat.le_refl _) _
  refine ⟨?_, ?_, ?_, h4, (((b1.alloc (by simp) _).alloc (by simp; try omega) _).alloc (by simp; try omega) _)⟩
  · rw [heap_alloc_old _ _ (by rw [e3]; omega), heap_alloc_old _ _ (by rw [e2]; omega), heap_alloc_old _ _ (by rw [e1]; omega), h1]
  · rw [heap_alloc_old _ _ (by rw [e3]; omega), heap_alloc_old _ _ (by rw [e2]; omega), h2]
  · rw [heap_alloc_old _ _ (by rw [e3]; omega), h3]
theorem fr0r (w : World) (a b : A3) (nt : Bool) (s r : S2) (N : Int) (last : Bool) (v : Value) : Fr w a b nt s r N last v
    ((((w.alloc (.cells #[E a.k, E a.n, E a.m, E b.k, E b.n, E b.m, .bool nt] 25)).alloc (.cells #[.bool s.op, E s.to] 52)).alloc (.cells #[E N, .bool last, v] 44)).alloc (.cells #[.bool r.op, E r.to] 52)) := four w _ _ _ _
theorem fr0 (w : World) (a b : A3) (nt : Bool) (s : S2) (N : Int) (last : Bool) (v : Value) : Fr w a b nt s ⟨false, 0⟩ N last v
    ((((w.alloc (.cells #[E a.k, E a.n, E a.m, E b.k, E b.n, E b.m, .bool nt] 25)).alloc (.cells #[.bool s.op, E s.to] 52)).alloc (.cells #[E N, .bool last, v] 44)).alloc (.cells #[.bool false, E 0] 52)) := four w _ _ _ _
theorem ansT {t : TypeId} {fs : Array Field} (hu : Tryd.prog.underlying t = some (.struct fs)) (n : Nat) (hs : (Tryd.prog.info? t).map (·.size) = some n) {fn : Func} {u p : Tmp} (h : fn.results = #[.tmp u, .cell p t]) {tmps : Array Value} {w : World} {x : Value} {g : Nat} {c : Array Value} {tt : TypeId} {fr : Nat × Nat}
    (hx : tmps.getD u undef = x) (hp : tmps.getD p undef = .pointer (some ⟨g, 0, none⟩)) (hg : w.heap[g]? = some (.cells c tt fr)) (hc : c.size = n) : (results fn tmps).run Tryd.prog w = .ok (.tuple #[x, .agg c]) w := by
  have hp' : tmps[p]?.getD undef = .pointer (some ⟨g, 0, none⟩) := by simpa using hp
  have hx' : tmps[u]?.getD undef = x := by simpa using hx
  simp [results, h, hp', hx', asAddr, run_loadVar_row w g tt t c fr (.struct fs) hg hu rfl (by rw [hc]; exact hs)]
theorem infoS : (Tryd.prog.info? 52).map (·.size) = some 2 := by kernel_rfl
theorem Fr.set {w0 : World} {a b : A3} {nt : Bool} {s r : S2} {N : Int} {last : Bool} {v : Value} {w : World} (h : Fr w0 a b nt s r N last v w) (r' : S2) :
    Fr w0 a b nt s r' N last v ((w.setCell ⟨w0.heap.size + 1 + 1 + 1, 0, none⟩ (.bool r'.op)).setCell ⟨w0.heap.size + 1 + 1 + 1, 1, none⟩ (E r'.to)) := by
  obtain ⟨h1, h2, h3, h4, hb⟩ := h
  have k := Go.Joins.block_setCell (Go.Joins.block_setCell h4 (i := 0) (.bool r'.op)) (i := 1) (E r'.to)
  refine ⟨?_, ?_, ?_, k, (hb.setCell (by simp; omega) _).setCell (by simp; omega) _⟩
  · rw [Below.heap_setCell _ _ _ _ (by simp; try omega), Below.heap_setCell _ _ _ _ (by simp; try omega), h1]
  · rw [Below.heap_setCell _ _ _ _ (by simp; try omega), Below.heap_setCell _ _ _ _ (by simp; try omega), h2]
  · rw [Below.heap_setCell _ _ _ _ (by simp; try omega), Below.heap_setCell _ _ _ _ (by simp; try omega), h3]
theorem Fr.setS {w0 : World} {a b : A3} {nt : Bool} {s r : S2} {N : Int} {last : Bool} {v : Value} {w : World} (h : Fr w0 a b nt s r N last v w) (s' : S2) :
    Fr w0 a b nt s' r N last v ((w.setCell ⟨w0.heap.size + 1, 0, none⟩ (.bool s'.op)).setCell ⟨w0.heap.size + 1, 1, none⟩ (E s'.to)) := by
  obtain ⟨h1, h2, h3, h4, hb⟩ := h
  have k := Go.Joins.block_setCell (Go.Joins.block_setCell h2 (i := 0) (.bool s'.op)) (i := 1) (E s'.to)
  refine ⟨?_, k, ?_, ?_, (hb.setCell (by simp) _).setCell (by simp) _⟩
  · rw [Below.heap_setCell _ _ _ _ (by simp; try omega), Below.heap_setCell _ _ _ _ (by simp; try omega), h1]
  · rw [Below.heap_setCell _ _ _ _ (by simp; try omega), Below.heap_setCell _ _ _ _ (by simp; try omega), h3]
  · rw [Below.heap_setCell _ _ _ _ (by simp; try omega), Below.heap_setCell _ _ _ _ (by simp; try omega), h4]
theorem Fr.ans {w0 : World} {a b : A3} {nt : Bool} {s r : S2} {N : Int} {last : Bool} {v : Value} {w : World} (h : Fr w0 a b nt s r N last v w) (x : Bool) {tmps : Array Value}
    (hx : tmps.getD 6 undef = .bool x) (hp : tmps.getD 7 undef = .pointer (some ⟨w0.heap.size + 1 + 1 + 1, 0, none⟩)) : (results Tryd.f39 tmps).run Tryd.prog w = .ok (.tuple #[.bool x, SV2 r]) w :=
  ansT Tryd.underlying52 2 infoS rfl hx hp h.2.2.2.1 rfl
theorem Fr.cells {w0 : World} {a b : A3} {nt : Bool} {s r : S2} {N : Int} {last : Bool} {v : Value} {w : World} (h : Fr w0 a b nt s r N last v w) :
    (w.cell? ⟨w0.heap.size, 0, none⟩ = some (E a.k) ∧ w.cell? ⟨w0.heap.size, 1, none⟩ = some (E a.n) ∧ w.cell? ⟨w0.heap.size, 2, none⟩ = some (E a.m) ∧ w.cell? ⟨w0.heap.size, 3, none⟩ = some (E b.k) ∧ w.cell? ⟨w0.heap.size, 4, none⟩ = some (E b.n) ∧ w.cell? ⟨w0.heap.size, 5, none⟩ = some (E b.m) ∧ w.cell? ⟨w0.heap.size, 6, none⟩ = some (.bool nt)) ∧
    (w.cell? ⟨w0.heap.size + 1, 0, none⟩ = some (.bool s.op) ∧ w.cell? ⟨w0.heap.size + 1, 1, none⟩ = some (E s.to)) ∧
    (w.cell? ⟨w0.heap.size + 1 + 1, 0, none⟩ = some (E N) ∧ w.cell? ⟨w0.heap.size + 1 + 1, 1, none⟩ = some (.bool last) ∧ w.cell? ⟨w0.heap.size + 1 + 1, 2, none⟩ = some v) ∧
    (w.cell? ⟨w0.heap.size + 1 + 1 + 1, 0, none⟩ = some (.bool r.op) ∧ w.cell? ⟨w0.heap.size + 1 + 1 + 1, 1, none⟩ = some (E r.to)) := by
  obtain ⟨h1, h2, h3, h4, _⟩ := h
  refine ⟨⟨?_, ?_, ?_, ?_, ?_, ?_, ?_⟩, ⟨?_, ?_⟩, ⟨?_, ?_, ?_⟩, ?_, ?_⟩
  all_goals first | (rw [Lib.cell_of_heap h1]; rfl) | (rw [Lib.cell_of_heap h2]; rfl) | (rw [Lib.cell_of_heap h3]; rfl) | (rw [Lib.cell_of_heap h4]; rfl)
theorem Fr.unfrozen {w0 : World} {a b : A3} {nt : Bool} {s r : S2} {N : Int} {last : Bool} {v : Value} {w : World} (h : Fr w0 a b nt s r N last v w) :
    w.frozen? ⟨w0.heap.size + 1, 0, none⟩ = false ∧ w.frozen? ⟨w0.heap.size + 1, 1, none⟩ = false ∧ w.frozen? ⟨w0.heap.size + 1 + 1 + 1, 0, none⟩ = false ∧ w.frozen? ⟨w0.heap.size + 1 + 1 + 1, 1, none⟩ = false := by
  obtain ⟨h1, h2, h3, h4, _⟩ := h
  exact ⟨by simp [World.frozen?, h2], by simp [World.frozen?, h2], by simp [World.frozen?, h4], by simp [World.frozen?, h4]⟩
abbrev AskP (a b : A3) (nt : Bool) (s : S2) (N : Int) (last : Bool) (v : Value) (hs : List Bool) (w : World) : Prop :=
  Calls Tryd.prog 39 #[RV a b nt, SV2 s, LV N last v] w fun e w' => e = .returned (.tuple #[.bool (askL a b s ⟨N, last, hs⟩).1, SV2 (askL a b s ⟨N, last, hs⟩).2]) ∧ Below w.heap.size w w'
theorem askL_0 {a b : A3} {s : S2} {l : L3} (h : b.k = 0) : askL a b s l = (hits a l, s) := by unfold askL; rw [if_pos h]
theorem askL_open {a b : A3} {to : Int} {l : L3} (h : b.k ≠ 0) : askL a b ⟨true, to⟩ l = if b.k = 1 ∧ to < l.n then (hits a l, ⟨false, 0⟩) else if over b ⟨true, to⟩ l then (true, ⟨false, 0⟩) else (true, ⟨true, to⟩) := by
  have e : first a ⟨true, to⟩ l = ⟨true, to⟩ := by unfold first; rw [if_neg (by simp)]
  unfold askL; rw [if_neg h, e]; simp
theorem askL_shut {a b : A3} {to : Int} {l : L3} (h : b.k ≠ 0) (hf : ¬ (a.k = 1 ∧ a.n = 0 ∧ l.n = 1)) : askL a b ⟨false, to⟩ l = if hits a l then (true, begun b l) else (false, ⟨false, to⟩) := by
  have e : first a ⟨false, to⟩ l = ⟨false, to⟩ := by unfold first; rw [if_neg (fun q => hf q.2)]
  unfold askL; rw [if_neg h, e]; simp
theorem askL_z {a b : A3} {to : Int} {l : L3} (h : b.k = 4) (hf : a.k = 1 ∧ a.n = 0 ∧ l.n = 1) : askL a b ⟨false, to⟩ l = if hits b l then (true, ⟨false, 0⟩) else (true, ⟨true, 0⟩) := by
  have e : first a ⟨false, to⟩ l = ⟨true, 0⟩ := by unfold first; rw [if_pos ⟨rfl, hf⟩]
  have h0 : b.k ≠ 0 := by omega
  have h1 : ¬ (b.k = 1 ∧ (0 : Int) < l.n) := by omega
  have ho : over b ⟨true, 0⟩ l = hits b l := by unfold over; rw [if_neg (by omega), if_neg (by omega), if_pos h]
  unfold askL; rw [if_neg h0, e, if_neg (by simp), if_neg h1, ho]
theorem begun_num {b : A3} {l : L3} (h : b.k = 1 ∨ 5 ≤ b.k) : begun b l = if l.n < toL b l.n then ⟨true, toL b l.n⟩ else ⟨false, 0⟩ := by
  unfold begun; rw [if_neg (by omega), if_neg (by omega)]
theorem over_1 {b : A3} {to : Int} {l : L3} (h : b.k = 1) : over b ⟨true, to⟩ l = decide (l.n = to) := by unfold over; rw [if_pos h]
theorem over_5 {b : A3} {to : Int} {l : L3} (h : 5 ≤ b.k) : over b ⟨true, to⟩ l = decide (to ≤ l.n) := by unfold over; rw [if_neg (by omega), if_neg (by omega), if_neg (by omega)]
theorem over_4 {b : A3} {to : Int} {l : L3} (h : b.k = 4) : over b ⟨true, to⟩ l = hits b l := by unfold over; rw [if_neg (by omega), if_neg (by omega), if_pos h]
theorem hits_2e {b : A3} {l : L3} (h : b.k = 2) : hits b l = l.last := by unfold hits; rw [if_neg (by omega), if_neg (by omega), if_pos h]
theorem over_2 {b : A3} {to : Int} {l : L3} (h : b.k = 2) : over b ⟨true, to⟩ l = hits b l := by rw [hits_2e h]; unfold over; rw [if_neg (by omega), if_pos h]
theorem neB {x y : Int} (h : x ≠ y) : (x == y) = false := by rw [beq_eq_false_iff_ne]; exact h
set_option maxRecDepth 100000 in
set_option maxHeartbeats 1600000 in
theorem ask_p0 (ak an am bn bm : Int) (op : Bool) (nt : Bool) (to N : Int) (last : Bool) (ao : Option Addr) (c : Nat) (hs : List Bool) (w : World) (hN : 0 ≤ N ∧ N ≤ 999999999) (hb : Bs w (.slice ao hs.length c) hs)
    (ha : ak = 3 → 0 ≤ an) : AskP ⟨ak, an, am⟩ ⟨0, bn, bm⟩ nt ⟨op, to⟩ N last (.slice ao hs.length c) hs w := by
  have HA : Hid (∀ w', Below w.heap.size w w' → Calls Tryd.prog 20 #[AV ⟨ak, an, am⟩, LV N last (.slice ao hs.length c)] w' fun e w2 => e = .returned (.bool (hits ⟨ak, an, am⟩ ⟨N, last, hs⟩)) ∧ Below w'.heap.size w' w2) := Lib.hid (fun w' h => by
    have q := hits_any ⟨ak, an, am⟩ ⟨N, last, hs⟩ ao c w' ⟨ha, hN⟩ (hb.below h)
    exact q)
  have HF := Lib.hid (fr0 w ⟨ak, an, am⟩ ⟨0, bn, bm⟩ nt ⟨op, to⟩ N last (.slice ao hs.length c))
  have HO := Lib.hid (show askL ⟨ak, an, am⟩ ⟨0, bn, bm⟩ ⟨op, to⟩ ⟨N, last, hs⟩ = (hits ⟨ak, an, am⟩ ⟨N, last, hs⟩, ⟨op, to⟩) from by rw [askL_0 rfl])
  clear hb
  generalize Value.slice ao hs.length c = v at *
  go_enter Tryd.func39, Tryd.ntmps39
  generalize hits ⟨ak, an, am⟩ ⟨N, last, hs⟩ = x at *
  go_wp2
  refine wp_region_noPanic ?_
  refine wp_region_held_drew (S := fun w' => ∃ r, Fr w ⟨ak, an, am⟩ ⟨0, bn, bm⟩ nt ⟨op, to⟩ r N last v w') (by kernel_rfl) ?_ (fun hHeld => ?_)
  · (try dsimp only); exact ⟨_, HF.out.below (Below.refl _ _).drew⟩
  refine wpAnyH_take (i := 0) (oi := ?o0) (v := ?v0) ?hi0 (by kernel_rfl) (by kernel_rfl) (by kernel_rfl) (fun _ _ _ h => h) ?hy0 (by assumption) ?r0
  case hi0 => simp only [List.getElem?_toArray, List.getElem?_cons_succ, List.getElem?_cons_zero]; rfl
  case hy0 => exact Or.inl ⟨by rfl, by (intro w hSw; (try dsimp only at hSw); obtain ⟨r0, hSw⟩ := hSw; obtain ⟨⟨q0, q1, q2, q3, q4, q5, q6⟩, ⟨q7, q8⟩, ⟨q9, qa, qb⟩, qc, qd⟩ := hSw.cells; obtain ⟨u0, u1, u2, u3⟩ := hSw.unfrozen; go_simp) <;> with_reducible rfl⟩
  try simp only [Act.put, List.setIfInBounds_toArray, List.set_cons_zero, List.set_cons_succ]
  refine wpAnyH_take (i := 1) (oi := ?o1) (v := ?v1) ?hi1 (by kernel_rfl) (by kernel_rfl) (by kernel_rfl) (fun _ _ _ h => h) ?hy1 (by assumption) ?r1
  case hi1 => simp only [List.getElem?_toArray, List.getElem?_cons_succ, List.getElem?_cons_zero]; rfl
  case hy1 => exact Or.inl ⟨by rfl, by (intro w hSw; (try dsimp only at hSw); obtain ⟨r0, hSw⟩ := hSw; obtain ⟨⟨q0, q1, q2, q3, q4, q5, q6⟩, ⟨q7, q8⟩, ⟨q9, qa, qb⟩, qc, qd⟩ := hSw.cells; obtain ⟨u0, u1, u2, u3⟩ := hSw.unfrozen; go_simp) <;> with_reducible rfl⟩
  try simp only [Act.put, List.setIfInBounds_toArray, List.set_cons_zero, List.set_cons_succ]
  refine wpAnyH_take (i := 2) (oi := ?o2) (v := ?v2) ?hi2 (by kernel_rfl) (by kernel_rfl) (by kernel_rfl) (fun _ _ _ h => h) ?hy2 (by assumption) ?r2
  case hi2 => simp only [List.getElem?_toArray, List.getElem?_cons_succ, List.getElem?_cons_zero]; rfl
  case hy2 => exact Or.inl ⟨by rfl, by (intro w hSw; (try dsimp only at hSw); obtain ⟨r0, hSw⟩ := hSw; obtain ⟨⟨q0, q1, q2, q3, q4, q5, q6⟩, ⟨q7, q8⟩, ⟨q9, qa, qb⟩, qc, qd⟩ := hSw.cells; obtain ⟨u0, u1, u2, u3⟩ := hSw.unfrozen; go_simp) <;> with_reducible rfl⟩
  try simp only [Act.put, List.setIfInBounds_toArray, List.set_cons_zero, List.set_cons_succ]
  refine wpAnyH_take (i := 4) (oi := ?o4) (v := ?v4) ?hi4 (by kernel_rfl) (by kernel_rfl) (by kernel_rfl) (fun _ _ _ h => h) ?hy4 (by assumption) ?r4
  case hi4 => simp only [List.getElem?_toArray, List.getElem?_cons_succ, List.getElem?_cons_zero]; rfl
  case hy4 => exact Or.inl ⟨by rfl, by (intro w hSw; (try dsimp only at hSw); obtain ⟨r0, hSw⟩ := hSw; obtain ⟨⟨q0, q1, q2, q3, q4, q5, q6⟩, ⟨q7, q8⟩, ⟨q9, qa, qb⟩, qc, qd⟩ := hSw.cells; obtain ⟨u0, u1, u2, u3⟩ := hSw.unfrozen; go_simp) <;> with_reducible rfl⟩
  try simp only [Act.put, List.setIfInBounds_toArray, List.set_cons_zero, List.set_cons_succ]
  refine wpAnyH_ready (rs := [3]) (by kernel_rfl) (by simp) ?_
  refine AllReadyH.cons (o := ?o3) ?hi3 (fun K hK => ?st3) AllReadyH.nil
  case hi3 => simp only [List.getElem?_toArray, List.getElem?_cons_succ, List.getElem?_cons_zero]; rfl
  (try dsimp only at hHeld); obtain ⟨r0, hF⟩ := hHeld; obtain ⟨⟨q0, q1, q2, q3, q4, q5, q6⟩, ⟨q7, q8⟩, ⟨q9, qa, qb⟩, qc, qd⟩ := hF.cells; obtain ⟨u0, u1, u2, u3⟩ := hF.unfrozen
  go_simp
  (go_at_call 20; refine (HA.out _ hF.2.2.2.2).mono ?_; rintro e w' ⟨rfl, hbl⟩)
  refine hK.out _ _ ?_ (fun hHeld => ?_)
  · (try dsimp only); (first | exact ⟨_, hF.below hbl⟩ | exact ⟨_, hF.set ⟨op, to⟩⟩)
  clear hK K
  try simp only [Act.put, List.setIfInBounds_toArray, List.set_cons_zero, List.set_cons_succ]
  refine wpAnyH_take (i := 5) (oi := ?o5) (v := ?v5) ?hi5 (by kernel_rfl) (by kernel_rfl) (by kernel_rfl) (fun _ _ _ h => h) ?hy5 (by assumption) ?r5
  case hi5 => simp only [List.getElem?_toArray, List.getElem?_cons_succ, List.getElem?_cons_zero]; rfl
  case hy5 => exact Or.inl ⟨by rfl, by (intro w hSw; (try dsimp only at hSw); obtain ⟨r0, hSw⟩ := hSw; obtain ⟨⟨q0, q1, q2, q3, q4, q5, q6⟩, ⟨q7, q8⟩, ⟨q9, qa, qb⟩, qc, qd⟩ := hSw.cells; obtain ⟨u0, u1, u2, u3⟩ := hSw.unfrozen; go_simp) <;> with_reducible rfl⟩
  try simp only [Act.put, List.setIfInBounds_toArray, List.set_cons_zero, List.set_cons_succ]
  refine wpAnyH_ready (rs := [6]) (by kernel_rfl) (by simp) ?_
  refine AllReadyH.cons (o := ?o6) ?hi6 (fun K hK => ?st6) AllReadyH.nil
  case hi6 => simp only [List.getElem?_toArray, List.getElem?_cons_succ, List.getElem?_cons_zero]; rfl
  (try dsimp only at hHeld); obtain ⟨r0, hF⟩ := hHeld; obtain ⟨⟨q0, q1, q2, q3, q4, q5, q6⟩, ⟨q7, q8⟩, ⟨q9, qa, qb⟩, qc, qd⟩ := hF.cells; obtain ⟨u0, u1, u2, u3⟩ := hF.unfrozen
  go_simp
  refine hK.out _ _ ?_ (fun hHeld => ?_)
  · (try dsimp only); (first | exact ⟨_, hF.below hbl⟩ | exact ⟨_, hF.set ⟨op, to⟩⟩)
  clear hK K
  try simp only [Act.put, List.setIfInBounds_toArray, List.set_cons_zero, List.set_cons_succ]
  refine wpAnyH_done (by kernel_rfl) ?_ _
  refine NoPanic.normal ?_
  clear hHeld
  go_wp2
  exact bodyPost_ret (v := .tuple #[.bool x, SV2 ⟨op, to⟩]) ((hF.set ⟨op, to⟩).ans _ rfl rfl) rfl ⟨by rw [HO.out], (hF.set ⟨op, to⟩).2.2.2.2⟩
set_option maxRecDepth 100000 in
set_option maxHeartbeats 1600000 in
theorem ask_d1 (bn bm : Int) (nt : Bool) (to : Int) (last : Bool) (ao : Option Addr) (c : Nat) (hs : List Bool) (w : World)  (hb : Bs w (.slice ao hs.length c) hs)
    (hx : hits ⟨4, bn, bm⟩ ⟨1, last, hs⟩ = true) : AskP ⟨1, 0, 0⟩ ⟨4, bn, bm⟩ nt ⟨false, to⟩ 1 last (.slice ao hs.length c) hs w := by
  have HB : Hid (∀ w', Below w.heap.size w w' → Calls Tryd.prog 20 #[AV ⟨4, bn, bm⟩, LV 1 last (.slice ao hs.length c)] w' fun e w2 => e = .returned (.bool true) ∧ Below w'.heap.size w' w2) := Lib.hid (fun w' h => by
    have q := hits_any ⟨4, bn, bm⟩ ⟨1, last, hs⟩ ao c w' ⟨fun h => by simp at h, by simp⟩ (hb.below h)
    rw [hx] at q
    exact q)
  have HF := Lib.hid (fr0 w ⟨1, 0, 0⟩ ⟨4, bn, bm⟩ nt ⟨true, 0⟩ 1 last (.slice ao hs.length c))
  have HO := Lib.hid (show askL ⟨1, 0, 0⟩ ⟨4, bn, bm⟩ ⟨false, to⟩ ⟨1, last, hs⟩ = (true, ⟨false, 0⟩) from by rw [askL_z rfl ⟨rfl, rfl, rfl⟩, hx]; rfl)
  clear hb
  generalize Value.slice ao hs.length c = v at *
  go_enter Tryd.func39, Tryd.ntmps39
  go_wp2_with (go_at_call 20; refine (HB.out _ HF.out.2.2.2.2).mono ?_; rintro e w1 ⟨rfl, hb1⟩; have HF1 := Lib.hid (HF.out.below hb1); clear hb1; obtain ⟨⟨q0, q1, q2, q3, q4, q5, q6⟩, ⟨q7, q8⟩, ⟨q9, qa, qb⟩, qc, qd⟩ := HF1.out.cells; obtain ⟨u0, u1, u2, u3⟩ := HF1.out.unfrozen)
  exact bodyPost_ret (v := .tuple #[.bool true, SV2 ⟨false, 0⟩]) ((HF1.out.set ⟨false, 0⟩).ans _ rfl rfl) rfl ⟨by rw [HO.out], (HF1.out.set ⟨false, 0⟩).2.2.2.2⟩
set_option maxRecDepth 100000 in
set_option maxHeartbeats 1600000 in
theorem ask_d2 (bn bm : Int) (nt : Bool) (to : Int) (last : Bool) (ao : Option Addr) (c : Nat) (hs : List Bool) (w : World)  (hb : Bs w (.slice ao hs.length c) hs)
    (hx : hits ⟨4, bn, bm⟩ ⟨1, last, hs⟩ = false) : AskP ⟨1, 0, 0⟩ ⟨4, bn, bm⟩ nt ⟨false, to⟩ 1 last (.slice ao hs.length c) hs w := by
  have HB : Hid (∀ w', Below w.heap.size w w' → Calls Tryd.prog 20 #[AV ⟨4, bn, bm⟩, LV 1 last (.slice ao hs.length c)] w' fun e w2 => e = .returned (.bool false) ∧ Below w'.heap.size w' w2) := Lib.hid (fun w' h => by
    have q := hits_any ⟨4, bn, bm⟩ ⟨1, last, hs⟩ ao c w' ⟨fun h => by simp at h, by simp⟩ (hb.below h)
    rw [hx] at q
    exact q)
  have HF := Lib.hid (fr0 w ⟨1, 0, 0⟩ ⟨4, bn, bm⟩ nt ⟨true, 0⟩ 1 last (.slice ao hs.length c))
  have HO := Lib.hid (show askL ⟨1, 0, 0⟩ ⟨4, bn, bm⟩ ⟨false, to⟩ ⟨1, last, hs⟩ = (true, ⟨true, 0⟩) from by rw [askL_z rfl ⟨rfl, rfl, rfl⟩, hx]; rfl)
  clear hb
  generalize Value.slice ao hs.length c = v at *
  go_enter Tryd.func39, Tryd.ntmps39
  go_wp2_with (go_at_call 20; refine (HB.out _ HF.out.2.2.2.2).mono ?_; rintro e w1 ⟨rfl, hb1⟩; have HF1 := Lib.hid (HF.out.below hb1); clear hb1; obtain ⟨⟨q0, q1, q2, q3, q4, q5, q6⟩, ⟨q7, q8⟩, ⟨q9, qa, qb⟩, qc, qd⟩ := HF1.out.cells; obtain ⟨u0, u1, u2, u3⟩ := HF1.out.unfrozen)
  refine wp_region_noPanic ?_
  refine wp_region_held_drew (S := fun w' => ∃ r, Fr w ⟨1, 0, 0⟩ ⟨4, bn, bm⟩ nt ⟨true, 0⟩ r 1 last v w') (by kernel_rfl) ?_ (fun hHeld => ?_)
  · (try dsimp only); exact ⟨_, HF1.out.below (Below.refl _ _).drew⟩
  refine wpAnyH_take (i := 0) (oi := ?o0) (v := ?v0) ?hi0 (by kernel_rfl) (by kernel_rfl) (by kernel_rfl) (fun _ _ _ h => h) ?hy0 (by assumption) ?r0
  case hi0 => simp only [List.getElem?_toArray, List.getElem?_cons_succ, List.getElem?_cons_zero]; rfl
  case hy0 => exact Or.inl ⟨by rfl, by (intro w hSw; (try dsimp only at hSw); obtain ⟨r0, hSw⟩ := hSw; obtain ⟨⟨q0, q1, q2, q3, q4, q5, q6⟩, ⟨q7, q8⟩, ⟨q9, qa, qb⟩, qc, qd⟩ := hSw.cells; obtain ⟨u0, u1, u2, u3⟩ := hSw.unfrozen; go_simp) <;> with_reducible rfl⟩
  try simp only [Act.put, List.setIfInBounds_toArray, List.set_cons_zero, List.set_cons_succ]
  refine wpAnyH_take (i := 1) (oi := ?o1) (v := ?v1) ?hi1 (by kernel_rfl) (by kernel_rfl) (by kernel_rfl) (fun _ _ _ h => h) ?hy1 (by assumption) ?r1
  case hi1 => simp only [List.getElem?_toArray, List.getElem?_cons_succ, List.getElem?_cons_zero]; rfl
  case hy1 => exact Or.inl ⟨by rfl, by (intro w hSw; (try dsimp only at hSw); obtain ⟨r0, hSw⟩ := hSw; obtain ⟨⟨q0, q1, q2, q3, q4, q5, q6⟩, ⟨q7, q8⟩, ⟨q9, qa, qb⟩, qc, qd⟩ := hSw.cells; obtain ⟨u0, u1, u2, u3⟩ := hSw.unfrozen; go_simp) <;> with_reducible rfl⟩
  try simp only [Act.put, List.setIfInBounds_toArray, List.set_cons_zero, List.set_cons_succ]
  refine wpAnyH_ready (rs := [2]) (by kernel_rfl) (by simp) ?_
  refine AllReadyH.cons (o := ?o2) ?hi2 (fun K hK => ?st2) AllReadyH.nil
  case hi2 => simp only [List.getElem?_toArray, List.getElem?_cons_succ, List.getElem?_cons_zero]; rfl
  (try dsimp only at hHeld); obtain ⟨r0, hF⟩ := hHeld; obtain ⟨⟨q0, q1, q2, q3, q4, q5, q6⟩, ⟨q7, q8⟩, ⟨q9, qa, qb⟩, qc, qd⟩ := hF.cells; obtain ⟨u0, u1, u2, u3⟩ := hF.unfrozen
  go_simp
  refine hK.out _ _ ?_ (fun hHeld => ?_)
  · (try dsimp only); (first | exact ⟨_, hF.below hbl⟩ | exact ⟨_, hF.set ⟨true, 0⟩⟩)
  clear hK K
  try simp only [Act.put, List.setIfInBounds_toArray, List.set_cons_zero, List.set_cons_succ]
  refine wpAnyH_done (by kernel_rfl) ?_ _
  refine NoPanic.normal ?_
  clear hHeld
  go_wp2
  exact bodyPost_ret (v := .tuple #[.bool true, SV2 ⟨true, 0⟩]) ((hF.set ⟨true, 0⟩).ans _ rfl rfl) rfl ⟨by rw [HO.out], (hF.set ⟨true, 0⟩).2.2.2.2⟩
end Go.Proofs.YtcijhfdccbgcpaaDoor.Ad
