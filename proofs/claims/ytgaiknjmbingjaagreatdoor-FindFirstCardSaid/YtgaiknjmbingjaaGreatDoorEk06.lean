/- The texts RxW3 RxC0 MtC M6a M6s. -/
import Derived.Laws.OwnMore
import Derived.OwnWalk
import Derived.Lib.SmallJoins
import Derived.Laws.CopyOwn
import Derived.Deep.MidRow
import Derived.Deep.LoopGhost
import Derived.Test.YtgaiknjmbingjaaGreatDoorEk05
set_option linter.unusedVariables false
set_option linter.unusedSimpArgs false
set_option maxHeartbeats 6400000
set_option maxRecDepth 100000
namespace Go.Proofs.YtgaiknjmbingjaaGreatDoor.Rx
open Go.RowKit Go.Shelf
open St (Wf word zeroW ext_word wf_zero)
abbrev NCell (w : World) (b o : Nat) (n : Nd) : Prop :=
 w.cell? ⟨b, o, none⟩ = some (E n.k) /\ w.cell? ⟨b, o + 1, none⟩ = some (U (word n.s 0)) /\ w.cell? ⟨b, o + 2, none⟩ = some (U (word n.s 1)) /\ w.cell? ⟨b, o + 3, none⟩ = some (U (word n.s 2)) /\ w.cell? ⟨b, o + 4, none⟩ = some (U (word n.s 3)) /\
 w.cell? ⟨b, o + 5, none⟩ = some (E n.a) /\ w.cell? ⟨b, o + 6, none⟩ = some (E n.b) /\ w.cell? ⟨b, o + 7, none⟩ = some (E n.mn) /\ w.cell? ⟨b, o + 8, none⟩ = some (E n.mx) /\ w.cell? ⟨b, o + 9, none⟩ = some (E n.n)
theorem NCell.below {w w' : World} {b o : Nat} {n : Nd} (h : NCell w b o n) (hb : Below w.heap.size w w') : NCell w' b o n := by
 obtain ⟨h0, h1, h2, h3, h4, h5, h6, h7, h8, h9⟩ := h;exact ⟨(hb.cell (lt_cell h0)).trans h0, (hb.cell (lt_cell h1)).trans h1, (hb.cell (lt_cell h2)).trans h2, (hb.cell (lt_cell h3)).trans h3, (hb.cell (lt_cell h4)).trans h4, (hb.cell (lt_cell h5)).trans h5, (hb.cell (lt_cell h6)).trans h6, (hb.cell (lt_cell h7)).trans h7, (hb.cell (lt_cell h8)).trans h8, (hb.cell (lt_cell h9)).trans h9⟩
def Ns (w : World) (v : Value) (l : List Nd) : Prop := ∃ (ao : Option Addr) (c : Nat), v = .slice ao l.length c /\ ∀ (i : Nat) (h : i < l.length), ∃ b o, ao = some ⟨b, o, none⟩ /\ NCell w b (o + i * 10) l[i]
theorem Ns.below {w w' : World} {v : Value} {l : List Nd} (h : Ns w v l) (hb : Below w.heap.size w w') : Ns w' v l := by
 obtain ⟨ao, c, rfl, hc⟩ := h;refine ⟨ao, c, rfl, fun i hi => ?_⟩;obtain ⟨b, o, ha, h⟩ := hc i hi;exact ⟨b, o, ha, h.below hb⟩
theorem Ns.at {w : World} {ao : Option Addr} {n c : Nat} {l : List Nd} (h : Ns w (.slice ao n c) l) {i : Nat} (hi : i < l.length) : ∃ b o, ao = some ⟨b, o, none⟩ /\ NCell w b (o + i * 10) l[i] := by
 obtain ⟨ao', c', e, hc⟩ := h;simp only [Value.slice.injEq] at e;obtain ⟨rfl, rfl, rfl⟩ := e;exact hc i hi
theorem kind_at {l : List Nd} {j : Nat} (h : j < l.length) : kindAt l (j : Int) = l[j].k := by
 unfold kindAt; rw [Int.toNat_natCast, List.getElem?_eq_getElem h]; rfl
theorem fits_other (v : Value) (n : Nd) (w : World) (h4 : (n.k == 4) = false) (h5 : (n.k == 5) = false) (h6 : (n.k == 6) = false) :
  Calls Tryz.prog 92 #[v, NV n] w fun e w' => e = .returned (.bool true) /\ Below w.heap.size w w' := by
 go_enter Tryz.func92, Tryz.ntmps92;go_wp2;go_ret;exact ⟨rfl, (Below.refl w.heap.size w).alloc (Nat.le_refl _) _⟩
theorem fits_4 (b0 o L c : Nat) (s : List Nat) (j i : Nat) (mn mx m k1 k2 : Int) (w : World) (hj : (j : Int) < (L : Int)) (hi : (i : Int) < (L : Int)) (h1 : w.cell? ⟨b0, o + j * 10, none⟩ = some (E k1)) (h2 : w.cell? ⟨b0, o + i * 10, none⟩ = some (E k2)) :
  Calls Tryz.prog 92 #[.slice (some ⟨b0, o, none⟩) L c, NV ⟨4, s, (j : Nat), (i : Nat), mn, mx, m⟩] w fun e w' => e = .returned (.bool (decide (k1 ≠ 4 /\ k1 ≠ 5 /\ k2 ≠ 5))) /\ Below w.heap.size w w' := by
 (have hj0 : (0 : Int) <= (j : Int) := by omega);(have hi0 : (0 : Int) <= (i : Int) := by omega);have h1' := ((Below.refl w.heap.size w).alloc (Nat.le_refl _) (Obj.cells (NC ⟨4, s, (j : Nat), (i : Nat), mn, mx, m⟩) 46)).cell (lt_cell h1) |>.trans h1;have h2' := ((Below.refl w.heap.size w).alloc (Nat.le_refl _) (Obj.cells (NC ⟨4, s, (j : Nat), (i : Nat), mn, mx, m⟩) 46)).cell (lt_cell h2) |>.trans h2;go_enter Tryz.func92, Tryz.ntmps92;go_wp2;(all_goals go_ret);(all_goals refine ⟨ret1 (congrArg Value.bool ?_), (Below.refl w.heap.size w).alloc (Nat.le_refl _) _⟩);all_goals (rw [Bool.eq_iff_iff]; simp; try omega)
theorem fits_5 (b0 o L c : Nat) (s : List Nat) (j : Nat) (b mn mx m k1 : Int) (w : World) (hj : (j : Int) < (L : Int)) (h1 : w.cell? ⟨b0, o + j * 10, none⟩ = some (E k1)) :
  Calls Tryz.prog 92 #[.slice (some ⟨b0, o, none⟩) L c, NV ⟨5, s, (j : Nat), b, mn, mx, m⟩] w fun e w' => e = .returned (.bool (decide (k1 ≠ 5))) /\ Below w.heap.size w w' := by
 (have hj0 : (0 : Int) <= (j : Int) := by omega);have h1' := ((Below.refl w.heap.size w).alloc (Nat.le_refl _) (Obj.cells (NC ⟨5, s, (j : Nat), b, mn, mx, m⟩) 46)).cell (lt_cell h1) |>.trans h1;go_enter Tryz.func92, Tryz.ntmps92;go_wp2;(all_goals go_ret);(all_goals refine ⟨ret1 (congrArg Value.bool ?_), (Below.refl w.heap.size w).alloc (Nat.le_refl _) _⟩);all_goals (rw [Bool.eq_iff_iff]; simp; try omega)
theorem cell_of {w : World} {b : Nat} {c : Array Value} {t : TypeId} {f : Nat × Nat} (h : w.heap[b]? = some (.cells c t f)) (i : Nat) : w.cell? ⟨b, i, none⟩ = c[i]? := by
 simp only [World.cell?, h]; rfl
theorem cells178 (w : World) (t : TypeId) (B : Nat) (hB : B = w.heap.size) : ∀ j, j < [(1 : Int), 7, 8].length -> (w.alloc (Obj.cells #[E 1, E 7, E 8] t)).cell? ⟨B, 0 + j, none⟩ = some (.int .i64 ([(1 : Int), 7, 8].getD j 0)) := by
 subst hB;intro j hj;rw [cell_of (heap_alloc_new w (Obj.cells #[E 1, E 7, E 8] t))]
 match j, hj with
 | 0, _ => rfl
 | 1, _ => rfl
 | 2, _ => rfl
theorem fits_6 (b0 o L c : Nat) (s : List Nat) (j : Nat) (b mn mx m k1 : Int) (w : World) (hj : (j : Int) < (L : Int)) (h1 : w.cell? ⟨b0, o + j * 10, none⟩ = some (E k1)) :
  Calls Tryz.prog 92 #[.slice (some ⟨b0, o, none⟩) L c, NV ⟨6, s, (j : Nat), b, mn, mx, m⟩] w fun e w' => e = .returned (.bool (decide (k1 = 1 \/ k1 = 7 \/ k1 = 8))) /\ Below w.heap.size w w' := by
 (have hj0 : (0 : Int) <= (j : Int) := by omega);have h1' := ((Below.refl w.heap.size w).alloc (Nat.le_refl _) (Obj.cells (NC ⟨6, s, (j : Nat), b, mn, mx, m⟩) 46)).cell (lt_cell h1) |>.trans h1;have HC := Lib.hid (Tryz.slices_Contains_int (w.heap.size + 1) 0 3 3 [1, 7, 8] k1 ((w.alloc (Obj.cells (NC ⟨6, s, (j : Nat), b, mn, mx, m⟩) 46)).alloc (Obj.cells #[E 1, E 7, E 8] 3)) (by simp) (by simp) (cells178 _ _ _ (by simp)));have h1'' := ((((Below.refl w.heap.size w).alloc (Nat.le_refl _) (Obj.cells (NC ⟨6, s, (j : Nat), b, mn, mx, m⟩) 46)).alloc (by simp) (Obj.cells #[E 1, E 7, E 8] 3)).cell (lt_cell h1)).trans h1;go_enter Tryz.func92, Tryz.ntmps92;go_wp2_with (go_at_call 119; refine HC.out.mono ?_; rintro e w' ⟨rfl, rfl⟩);go_ret;refine ⟨ret1 (congrArg Value.bool ?_), ((Below.refl w.heap.size w).alloc (Nat.le_refl _) _).alloc (by simp) _⟩;rw [Bool.eq_iff_iff]; simp
theorem fits_any (ao : Option Addr) (c : Nat) (l : List Nd) (n : Nd) (w : World) (h : Ns w (.slice ao l.length c) l) (ha : n.k = 4 \/ n.k = 5 \/ n.k = 6 -> ∃ j, j < l.length /\ n.a = (j : Nat)) (hb : n.k = 4 -> ∃ j, j < l.length /\ n.b = (j : Nat)) :
  Calls Tryz.prog 92 #[.slice ao l.length c, NV n] w fun e w' => e = .returned (.bool (decide (Fits l n))) /\ Below w.heap.size w w' := by
 obtain ⟨k, s, a, b, mn, mx, m⟩ := n;dsimp only at ha hb;by_cases h4 : k = 4
 ·
  subst h4;obtain ⟨j, hj, rfl⟩ := ha (Or.inl rfl);obtain ⟨i, hi, rfl⟩ := hb rfl;obtain ⟨p, o, rfl, hp⟩ := h.at hj;obtain ⟨q, o', e, hq⟩ := h.at hi;simp only [Option.some.injEq, Addr.mk.injEq, and_true] at e;obtain ⟨rfl, rfl⟩ := e;rw [show decide (Fits l ⟨4, s, (j : Nat), (i : Nat), mn, mx, m⟩) = decide (l[j].k ≠ 4 /\ l[j].k ≠ 5 /\ l[i].k ≠ 5) from by
   rw [decide_eq_decide]; unfold Fits; rw [if_pos rfl, kind_at hj, kind_at hi]]
  exact fits_4 p o l.length c s j i mn mx m _ _ w (by omega) (by omega) hp.1 hq.1
 by_cases h5 : k = 5
 ·
  subst h5;obtain ⟨j, hj, rfl⟩ := ha (Or.inr (Or.inl rfl));obtain ⟨p, o, rfl, hp⟩ := h.at hj;rw [show decide (Fits l ⟨5, s, (j : Nat), b, mn, mx, m⟩) = decide (l[j].k ≠ 5) from by
   rw [decide_eq_decide]; unfold Fits; dsimp only; rw [if_neg (by decide), if_pos rfl, kind_at hj]]
  exact fits_5 p o l.length c s j b mn mx m _ w (by omega) hp.1
 by_cases h6 : k = 6
 ·
  subst h6;obtain ⟨j, hj, rfl⟩ := ha (Or.inr (Or.inr rfl));obtain ⟨p, o, rfl, hp⟩ := h.at hj;rw [show decide (Fits l ⟨6, s, (j : Nat), b, mn, mx, m⟩) = decide (l[j].k = 1 \/ l[j].k = 7 \/ l[j].k = 8) from by
   rw [decide_eq_decide]; unfold Fits; dsimp only; rw [if_neg (by decide), if_neg (by decide), if_pos rfl, kind_at hj]]
  exact fits_6 p o l.length c s j b mn mx m _ w (by omega) hp.1
 rw [decide_eq_true (show Fits l ⟨k, s, a, b, mn, mx, m⟩ from by unfold Fits; dsimp only; rw [if_neg h4, if_neg h5, if_neg h6]; trivial)];exact fits_other _ ⟨k, s, a, b, mn, mx, m⟩ w (by simpa using h4) (by simpa using h5) (by simpa using h6)
theorem own_ge {w : World} {B e n : Nat} {v : Value} {xs : List Value} {z : Nat} (h : w.ownsRow B e z v n xs) : ∀ k, v.ownBlock = some k -> B <= k := by
 intro k hk;rcases h.2 with ⟨hv, _⟩ | ⟨g, cap, cur, hv, hb, _⟩
 · subst hv; cases hk
 · subst hv;(have : g = k := by simpa [Value.ownBlock] using hk);omega
theorem lt_heap {w : World} {g : Nat} {o : Obj} (h : w.heap[g]? = some o) : g < w.heap.size := (Array.getElem?_eq_some_iff.1 h).1
theorem own_below {w w' : World} {B e n z : Nat} {v : Value} {xs : List Value} (h : w.ownsRow B e z v n xs) (hb : Below w.heap.size w w') : w'.ownsRow B e z v n xs := by
 refine ⟨h.1, ?_⟩;rcases h.2 with hv | ⟨g, cap, cur, hv, h1, h2, h3⟩
 · exact Or.inl hv
 · exact Or.inr ⟨g, cap, cur, hv, h1, (hb.block g (lt_heap h2)).trans h2, h3⟩
theorem own_take {w : World} {B e n z g cap : Nat} {xs : List Value} (h : w.ownsRow B e z (.slice (some ⟨g, 0, none⟩) n cap) n xs) {m : Nat} (hm : m <= n) : w.ownsRow B e z (.slice (some ⟨g, 0, none⟩) m cap) m (xs.take (m * z)) := by
 obtain ⟨hl, h⟩ := h;rcases h with ⟨hv, _⟩ | ⟨g', cap', cur, hv, h1, h2, h3, h4, h5, h6⟩
 · cases hv
 simp only [Value.slice.injEq, true_and, Option.some.injEq, Addr.mk.injEq, and_true] at hv;obtain ⟨rfl, rfl⟩ := hv;refine ⟨?_, Or.inr ⟨g, cap, cur, rfl, h1, h2, by omega, h4, h5, ?_⟩⟩
 · rw [List.length_take, hl]; exact Nat.min_eq_left (Nat.mul_le_mul_right z hm)
 · rw [<- h6, List.take_take]; congr 1; exact (Nat.min_eq_left (Nat.mul_le_mul_right z hm)).symm
theorem own_forms {w : World} {B e n z : Nat} {v : Value} {xs : List Value} (h : w.ownsRow B e z v n xs) : (v = .slice none 0 0 /\ n = 0) \/ ∃ g cap, v = .slice (some ⟨g, 0, none⟩) n cap /\ n <= cap := by
 rcases h.2 with ⟨hv, h0⟩ | ⟨g, cap, cur, hv, _, _, h3, _⟩
 · exact Or.inl ⟨hv, h0⟩
 · exact Or.inr ⟨g, cap, hv, h3⟩
theorem one_cell {w : World} {g : Nat} {x : Value} {t : TypeId} {fz : Nat × Nat} (h : w.heap[g]? = some (.cells #[x] t fz)) : ∀ j u, [x][j]? = some u -> w.cell? ((⟨g, 0, none⟩ : Addr).add j) = some u := by
 intro j u hj
 match j, hj with
 | 0, hj =>
  rw [Addr.add_lit, Lib.cell_of_heap h];simpa using hj
abbrev PT (k : Nat) : Value := .pointer (some ⟨k, 0, none⟩)
theorem lt_heap' {w : World} {g : Nat} {o : Obj} (h : w.heap[g]? = some o) : g < w.heap.size := (Array.getElem?_eq_some_iff.1 h).1
def Fz (n : Nat) := Code.region n
theorem at_world {p : World -> Prop} {P : Program} {c : Code} {Q : Exit -> Act -> World -> Prop} {a : Act} {W : World} (h : p W) (g : ∀ W', p W' -> Code.wp P c Q a W') : Code.wp P c Q a W := g W h
end Go.Proofs.YtgaiknjmbingjaaGreatDoor.Rx
namespace Go.Proofs.YtgaiknjmbingjaaGreatDoor.Mt
open Go.RowKit Go.Shelf
open Rx
open Rx.Tr
open St (Wf word mem)
theorem step_store_row {P : Program} {w : World} {ops : Array Oper} {o : Oper} {a : Act} {K : Act -> World -> Prop} {Q : Exit -> Act -> World -> Prop} {E : Prop} (hgd : o.guard = none) (ty : TypeId) (x y : Operand) (ho : o.op = .store ty x y)
  (g : Nat) (cells : Array Value) (hx : a.eval x = .pointer (some ⟨g, 0, none⟩)) (hy : a.eval y = .agg cells)
  (t : TypeId) (old : Array Value) (hg : w.heap[g]? = some (.cells old t (0, 0))) (hi : (P.info? ty).map (·.size) = some cells.size)
  (hold : old.size = cells.size) (h1 : cells.all (·.oneCell') = true)
  (h : K (a.put o.dst undef) (w.setRow g cells)) : if Region.wanted o (yielded ops a.tmps) = true then Oper.wp P o a w K Q else E := by
 rw [if_pos (by simp [Region.wanted, hgd])];exact wp_store_row ty x y ho g cells hx hy t old hg hi hold h1 h
theorem exec_load_row {P : Program} {o : Oper} {a : Act} {w : World} (ty : TypeId) (x : Operand) (ho : o.op = .load ty x)
  (g : Nat) (hx : a.eval x = .pointer (some ⟨g, 0, none⟩)) (t : TypeId) (cs : Array Value) (fr : Nat × Nat) (d : TypeDesc) (hg : w.heap[g]? = some (.cells cs t fr))
  (hu : P.underlying ty = some d) (hd : (match d with | .struct _ | .array _ _ => true | _ => false) = true) (hi : (P.info? ty).map (·.size) = some cs.size) :
  (execOp a.eval o).run P w = .ok (.value (.agg cs)) w := by
 unfold execOp;simp only [ho, hx, Instr.loadAt, Instr.sureAddr, Sem.run_bind, Sem.run_pure, Result.andThen_ok, run_loadVar_row w g t ty cs fr d hg hu hd hi]
theorem exec_load_mid {P : Program} {op : Oper} {a : Act} {w : World} (ty : TypeId) (x : Operand) (ho : op.op = .load ty x)
  (b o : Nat) (hx : a.eval x = .pointer (some ⟨b, o, none⟩)) (cs : List Value) (d : TypeDesc) (hc : w.rangeAt b o cs)
  (hu : P.underlying ty = some d) (hd : d.isRow = true) (hi : (P.info? ty).map (·.size) = some cs.length) :
  (execOp a.eval op).run P w = .ok (.value (.agg cs.toArray)) w := by
 unfold execOp;simp only [ho, hx, Instr.loadAt, Instr.sureAddr, Sem.run_bind, Sem.run_pure, Result.andThen_ok, run_loadVar_mid w b o ty cs d hc hu hd hi]
theorem range_part {w : World} {g o : Nat} {pre cs post : List Value} {t : TypeId} {fr : Nat × Nat} (h : w.heap[g]? = some (.cells (pre ++ cs ++ post).toArray t fr)) (ho : pre.length = o) : w.rangeAt g o cs := fun j v hv => by
 subst ho;rw [Lib.cell_of_heap h];have hl := (List.getElem?_eq_some_iff.1 hv).1;simp only [List.getElem?_toArray];rw [List.append_assoc, List.getElem?_append_right (by omega), show pre.length + j - pre.length = j by omega, List.getElem?_append_left hl];exact hv
theorem qcut {P : Program} {c : Code} {Q : Exit -> Act -> World -> Prop} {a : Act} {w : World} (h : ∀ Q' : Exit -> Act -> World -> Prop, Q' = Q -> Code.wp P c Q' a w) : Code.wp P c Q a w := h Q rfl
abbrev CZ : Array Value := #[.complex .f64 0 0, .complex .f64 0 0, .complex .f64 0 0, .complex .f64 0 0, .complex .f64 0 0, .complex .f64 0 0, .complex .f64 0 0, .complex .f64 0 0, .complex .f64 0 0, .complex .f64 0 0]
theorem res_caps {fn : Func} {p u : Tmp} (h : fn.results = #[.cell p 27, .tmp u]) {tmps : Array Value} {w : World} {g : Nat} {c : Caps} {v : Value} (hp : tmps.getD p undef = PT g) (hg : w.heap[g]? = some (.cells (CC c) 27 (0, 0))) (hu : tmps.getD u undef = v) :
  (results fn tmps).run Tryz.prog w = .ok (.tuple #[CV c, v]) w := by
 rw [results_cell_tmp h, hp, hu];have := run_loadVar_row (P := Tryz.prog) w g 27 27 (CC c) (0, 0) _ hg Tryz.underlying27 rfl (by kernel_rfl);rw [show (asAddr (PT g)).run Tryz.prog w = .ok ⟨g, 0, none⟩ w from rfl];simp only [Result.andThen];rw [this]
theorem cap_one : ∀ x : Cap, (capV x).oneCell' = true := fun x => by cases x with
 | none => rfl
 | some q => rfl
theorem cc_one (c : Caps) : (CC c).all (·.oneCell') = true := by
 have h : ∀ x : Cap, (capV x).oneCell' = true := fun x => by cases x with
  | none => rfl
  | some q => rfl
 simp [h]
abbrev CB (w : World) (g : Nat) (c : Caps) : Prop := w.heap[g]? = some (.cells (CC c) 27 (0, 0))
theorem ldM (x : Nat) {ops : Array Oper} {rest : List Oper} {o : Oper} {a a' : Act} {w : World} {Q : Exit -> Act -> World -> Prop} {g : Nat} {c : Caps} (F : w.heap[g]? = some (.cells (CC c) 27 (0, 0))) (h : wpList Tryz.prog ops Q rest a' w) (hgd : o.guard = none := by rfl) (ho : o.op = .load 27 (.tmp x) := by rfl) (hx : a.eval (.tmp x) = .pointer (some ⟨g, 0, none⟩) := by rfl)
  (ha : a.put o.dst (CV c) = a' := by simp only [Act.put, List.setIfInBounds_toArray, List.set_cons_zero, List.set_cons_succ] <;> rfl) : wpList Tryz.prog ops Q (o :: rest) a w := by
 subst ha;exact wpList_load_row hgd 27 (.tmp x) ho g hx _ (CC c) (0, 0) _ F Tryz.underlying27 rfl (by kernel_rfl) h
theorem stM (x y : Nat) (c : Caps) {ops : Array Oper} {rest : List Oper} {o : Oper} {a a' : Act} {w : World} {Q : Exit -> Act -> World -> Prop} {g : Nat} {old : Array Value} (F : w.heap[g]? = some (.cells old 27 (0, 0))) (h : wpList Tryz.prog ops Q rest a' (w.setRow g (CC c))) (hold : old.size = (CC c).size := by rfl) (hgd : o.guard = none := by rfl) (ho : o.op = .store 27 (.tmp x) (.tmp y) := by rfl) (hx : a.eval (.tmp x) = .pointer (some ⟨g, 0, none⟩) := by rfl) (hy : a.eval (.tmp y) = .agg (CC c) := by rfl)
  (ha : a.put o.dst undef = a' := by simp only [Act.put, List.setIfInBounds_toArray, List.set_cons_zero, List.set_cons_succ] <;> rfl) : wpList Tryz.prog ops Q (o :: rest) a w := by
 subst ha;exact wpList_store_row hgd 27 (.tmp x) (.tmp y) ho g (CC c) hx hy _ old F (by kernel_rfl) hold (cc_one c) h
theorem xlM (x : Nat) {o : Oper} {a : Act} {w : World} {g : Nat} {c : Caps} (F : w.heap[g]? = some (.cells (CC c) 27 (0, 0))) (ho : o.op = .load 27 (.tmp x) := by rfl) (hx : a.eval (.tmp x) = .pointer (some ⟨g, 0, none⟩) := by rfl) : (execOp a.eval o).run Tryz.prog w = .ok (.value (CV c)) w :=
 exec_load_row 27 (.tmp x) ho g hx _ (CC c) _ _ F Tryz.underlying27 rfl (by kernel_rfl)
theorem ssM (x y : Nat) (c : Caps) {w : World} {ops : Array Oper} {o : Oper} {a : Act} {K : Act -> World -> Prop} {Q : Exit -> Act -> World -> Prop} {E : Prop} {g : Nat} {old : Array Value} (F : w.heap[g]? = some (.cells old 27 (0, 0))) (h : K (a.put o.dst undef) (w.setRow g (CC c))) (hold : old.size = (CC c).size := by rfl) (hgd : o.guard = none := by rfl) (ho : o.op = .store 27 (.tmp x) (.tmp y) := by rfl) (hx : a.eval (.tmp x) = .pointer (some ⟨g, 0, none⟩) := by rfl) (hy : a.eval (.tmp y) = .agg (CC c) := by rfl) : if Region.wanted o (yielded ops a.tmps) = true then Oper.wp Tryz.prog o a w K Q else E :=
 step_store_row hgd 27 (.tmp x) (.tmp y) ho g (CC c) hx hy _ old F (by kernel_rfl) hold (cc_one c) h
theorem node_cells {w : World} {g : Nat} {nd : Nd} (h : w.heap[g]? = some (.cells (NC nd) 46 (0, 0))) :
  w.cell? ⟨g, 0, none⟩ = some (E nd.k) /\ w.cell? ⟨g, 1, none⟩ = some (U (word nd.s 0)) /\ w.cell? ⟨g, 2, none⟩ = some (U (word nd.s 1)) /\ w.cell? ⟨g, 3, none⟩ = some (U (word nd.s 2)) /\ w.cell? ⟨g, 4, none⟩ = some (U (word nd.s 3)) /\
   w.cell? ⟨g, 5, none⟩ = some (E nd.a) /\ w.cell? ⟨g, 6, none⟩ = some (E nd.b) /\ w.cell? ⟨g, 7, none⟩ = some (E nd.mn) /\ w.cell? ⟨g, 8, none⟩ = some (E nd.mx) /\ w.cell? ⟨g, 9, none⟩ = some (E nd.n) :=
 ⟨(Lib.cell_of_heap h 0).trans rfl, (Lib.cell_of_heap h 1).trans rfl, (Lib.cell_of_heap h 2).trans rfl, (Lib.cell_of_heap h 3).trans rfl, (Lib.cell_of_heap h 4).trans rfl, (Lib.cell_of_heap h 5).trans rfl, (Lib.cell_of_heap h 6).trans rfl, (Lib.cell_of_heap h 7).trans rfl, (Lib.cell_of_heap h 8).trans rfl, (Lib.cell_of_heap h 9).trans rfl⟩
theorem cap_cell {w : World} {g : Nat} {c : Caps} {n : Nat} (h : CB w g c) (hn : n < 10) : w.cell? ⟨g, n, none⟩ = some (capV (gr c n)) := by
 rw [Lib.cell_of_heap h n]
 match n, hn with
 | 0, _ => rfl
 | 1, _ => rfl
 | 2, _ => rfl
 | 3, _ => rfl
 | 4, _ => rfl
 | 5, _ => rfl
 | 6, _ => rfl
 | 7, _ => rfl
 | 8, _ => rfl
 | 9, _ => rfl
theorem box_laid (wr : World) (a : Caps) : (wr.alloc (.cells CZ 27)).setRow wr.heap.size (CC a) = wr.alloc (.cells (CC a) 27) := World.setRow_alloc_new wr CZ (CC a) 27
def dn {α : Type} (f : Nat -> Option α) (i : Nat) : Nat -> Option α
 | 0 => none
 | m + 1 => match f (i + m) with
  | some a => some a
  | none => dn f i m
theorem down_dn {α : Type} (f : Nat -> Option α) (i : Nat) : ∀ n, down f i n = dn f i (n + 1)
 | 0 => by
  show f i = dn f i 1;unfold dn;rw [show f (i + 0) = f i from rfl];cases f i <;> rfl
 | n + 1 => by
  rw [down, down_dn f i n, dn.eq_def f i (n + 1 + 1)];rfl
theorem dn_succ {α : Type} (f : Nat -> Option α) (i m : Nat) : dn f i (m + 1) = match f (i + m) with
  | some a => some a
  | none => dn f i m := by rw [dn.eq_def]
theorem cut_same (T : List UInt8) (p q i j : Nat) : (cutC T (some (p, q)) == ((ByteArray.mk T.toArray).extract i j).toList) = decide (cutT T p q = cutT T i j) := by
 rw [ext_cut, Go.ByteArray.toList_mk, Bool.eq_iff_iff, beq_iff_eq, decide_eq_true_eq];exact Iff.rfl
theorem store_complex (P : Program) (w : World) (b o : Nat) (x y : Nat) {v : Value} (h1 : w.cell? ⟨b, o, none⟩ = some v) (h2 : w.frozen? ⟨b, o, none⟩ = false) : (store ⟨b, o, none⟩ (.complex .f64 x y)).run P w = .ok () (w.setCell ⟨b, o, none⟩ (.complex .f64 x y)) := by
 rw [run_store P w _ _ _ rfl, h1];simp [h2]
def wholeP (T : List UInt8) (t : Tr) (i j : Nat) : Option Caps := (fitP T t i j nones).map fun c => c.set 0 (some (i, j))
def ansC (r : Option Caps) : Value := .tuple #[CV (r.getD nones), .bool r.isSome]
def longP (T : List UInt8) (t : Tr) (i : Nat) : Option Caps := dn (fun j => wholeP T t i j) i (T.length + 1 - i)
theorem whole_ok {T : List UInt8} {t : Tr} {i j : Nat} (hij : i <= j) (hj : j <= T.length) {c : Caps} (h : wholeP T t i j = some c) : CapsOk T.length c := by
 unfold wholeP at h;cases hf : fitP T t i j nones with
 | none => rw [hf] at h; cases h
 | some a =>
  rw [hf] at h;cases h;exact (fit_ok t i j nones a hij hj (caps_none _) hf).set hij hj 0
theorem dn_some {α : Type} {f : Nat -> Option α} {i : Nat} {a : α} : ∀ {m : Nat}, dn f i m = some a -> ∃ q, q < m /\ f (i + q) = some a /\ ∀ r, q < r -> r < m -> f (i + r) = none
 | 0, h => by cases h
 | m + 1, h => by
  rw [dn_succ] at h;cases hf : f (i + m) with
  | some b => rw [hf] at h; cases h; exact ⟨m, by omega, hf, fun r h1 h2 => by omega⟩
  | none =>
   rw [hf] at h;obtain ⟨q, h1, h2, h3⟩ := dn_some h;refine ⟨q, by omega, h2, fun r h4 h5 => ?_⟩;by_cases e : r = m
   · subst e; exact hf
   · exact h3 r h4 (by omega)
def bcn (n : Nat) (f : Nat -> Bool) : Array Value := (Array.range n).map fun j => .bool (f j)
abbrev RB (w : World) (g n : Nat) (f : Nat -> Bool) : Prop := w.heap[g]? = some (.cells (bcn n f) 4 (0, 0))
abbrev SL (g n : Nat) : Value := .slice (some ⟨g, 0, none⟩) n n
theorem bcn_size (n : Nat) (f : Nat -> Bool) : (bcn n f).size = n := by simp [bcn]
theorem bcn_at {n : Nat} (f : Nat -> Bool) {i : Nat} (hi : i < n) : (bcn n f)[i]? = some (.bool (f i)) := by simp [bcn, hi]
theorem bcn_congr {n : Nat} {f g : Nat -> Bool} (h : ∀ i, i < n -> f i = g i) : bcn n f = bcn n g := by
 apply Array.ext
 · simp [bcn_size]
 · intro i h1 h2;(have hi : i < n := by rw [bcn_size] at h1; exact h1);have e1 := bcn_at f hi;have e2 := bcn_at g hi;rw [Array.getElem?_eq_getElem h1] at e1;rw [Array.getElem?_eq_getElem h2] at e2;rw [Option.some.inj e1, Option.some.inj e2, h i hi]
theorem bcn_set (n : Nat) (f : Nat -> Bool) (k : Nat) (v : Bool) : (bcn n f).setIfInBounds k (.bool v) = bcn n (fun i => if i = k then v else f i) := by
 apply Array.ext_getElem?;intro i;by_cases hi : i < n
 ·
  rw [bcn_at _ hi];by_cases hk : k = i
  · subst hk;rw [Array.getElem?_setIfInBounds_self_of_lt (by rw [bcn_size]; exact hi)]; simp
  · rw [Array.getElem?_setIfInBounds_ne hk, bcn_at f hi, if_neg (fun e => hk e.symm)]
 · rw [Array.getElem?_eq_none (by rw [Array.size_setIfInBounds, bcn_size]; omega), Array.getElem?_eq_none (by rw [bcn_size]; omega)]
theorem RB.cell {w : World} {b n : Nat} {f : Nat -> Bool} (h : RB w b n f) {i : Nat} (hi : i < n) : w.cell? ⟨b, i, none⟩ = some (.bool (f i)) := by
 rw [Lib.cell_of_heap h]; exact bcn_at f hi
theorem RB.fz {w : World} {b n : Nat} {f : Nat -> Bool} (h : RB w b n f) (i : Nat) : w.frozen? ⟨b, i, none⟩ = false := by simp [World.frozen?, h]
theorem RB.put {w : World} {b n : Nat} {f g : Nat -> Bool} (h : RB w b n f) {k : Nat} {v : Bool} (hg : ∀ i, i < n -> g i = if i = k then v else f i) : RB (w.setCell ⟨b, k, none⟩ (.bool v)) b n g := by
 have := Go.Joins.block_setCell h (i := k) (.bool v);rw [bcn_set, bcn_congr (g := g) fun i hi => (hg i hi).symm] at this;exact this
theorem RB.congr {w : World} {b n : Nat} {f g : Nat -> Bool} (h : RB w b n f) (hg : ∀ i, i < n -> g i = f i) : RB w b n g := by
 rw [RB, bcn_congr hg]; exact h
theorem RB.keep {w w' : World} {b n : Nat} {f : Nat -> Bool} (h : RB w b n f) (hk : w'.heap[b]? = w.heap[b]?) : RB w' b n f := hk.trans h
theorem RB.lt {w : World} {b n : Nat} {f : Nat -> Bool} (h : RB w b n f) : b < w.heap.size := lt_heap' h
theorem infoB : (Tryz.prog.info? 4).map (fun i => (i.zero, i.size, i.bytes)) = some (some (.bool false), 1, 1) := by kernel_rfl
theorem bcn_made (n : Nat) : madeCells (Value.bool false).cells (n * 1) = bcn n (fun _ => false) := by
 unfold madeCells bcn;rw [Nat.mul_one];apply Array.map_congr_left;intro i _;simp [Value.cells, Nat.mod_one]
theorem make_row (n : Nat) (hn : n <= 1000000) (w : World) : (Instr.makeSlice 108 (.int .i64 (n : Nat)) (.int .i64 (n : Nat))).run Tryz.prog w = .ok (SL w.heap.size n) (w.alloc (.cells (bcn n fun _ => false) 4)) := by
 obtain ⟨i0, hi, hz0, hz1, hz2⟩ := info_parts infoB;have := run_makeSlice (P := Tryz.prog) w 108 4 i0 _ Tryz.underlying108 hi hz0 .i64 .i64 (n : Int) (n : Int) (by omega) (by omega) (by rw [hz1]; omega) (by rw [hz2]; omega) (by omega);rw [Int.toNat_natCast, hz1, bcn_made] at this;exact this
def R2 (w : World) (v : Value) (m n : Nat) (F : Nat -> Nat -> Bool) : Prop :=
 ∃ r cap, v = .slice (some ⟨r, 0, none⟩) m cap /\ m <= cap /\ r < w.heap.size /\ ∀ i, i < m -> ∃ q, w.cell? ⟨r, i, none⟩ = some (SL q n) /\ RB w q n (F i)
theorem R2.below {w w' : World} {v : Value} {m n : Nat} {F : Nat -> Nat -> Bool} (h : R2 w v m n F) (hb : Below w.heap.size w w') : R2 w' v m n F := by
 obtain ⟨r, cap, h1, h2, h3, h4⟩ := h;refine ⟨r, cap, h1, h2, Nat.lt_of_lt_of_le h3 hb.size, fun i hi => ?_⟩;obtain ⟨q, h5, h6⟩ := h4 i hi;exact ⟨q, (hb.cell h3).trans h5, h6.keep (hb.block q h6.lt)⟩
structure R2m (w0 w : World) (r m n c : Nat) (F : Nat -> Nat -> Bool) : Prop where
 bel : Below w0.heap.size w0 w
 r0 : w0.heap.size <= r
 row : ∃ cs : Array Value, w.heap[r]? = some (.cells cs 108 (0, 0)) /\ cs.size = m /\ ∀ i, c <= i -> i < m -> ∃ q, cs[i]? = some (SL q n) /\ q ≠ r /\ w0.heap.size <= q /\ RB w q n (F i)
theorem infoSB : (Tryz.prog.info? 108).map (fun i => (i.zero, i.size, i.bytes)) = some (some (.slice none 0 0), 1, 24) := by kernel_rfl
def nilRow (n : Nat) : Array Value := (Array.range n).map fun _ => .slice none 0 0
theorem nilRow_size (n : Nat) : (nilRow n).size = n := by simp [nilRow]
theorem nilRow_made (n : Nat) : madeCells (Value.slice none 0 0).cells (n * 1) = nilRow n := by
 unfold madeCells nilRow;rw [Nat.mul_one];apply Array.map_congr_left;intro i _;simp [Value.cells, Nat.mod_one]
theorem make_rows (n : Nat) (hn : n <= 1000000) (w : World) : (Instr.makeSlice 107 (.int .i64 (n : Nat)) (.int .i64 (n : Nat))).run Tryz.prog w = .ok (SL w.heap.size n) (w.alloc (.cells (nilRow n) 108)) := by
 obtain ⟨i0, hi, hz0, hz1, hz2⟩ := info_parts infoSB;have := run_makeSlice (P := Tryz.prog) w 107 108 i0 _ Tryz.underlying107 hi hz0 .i64 .i64 (n : Int) (n : Int) (by omega) (by omega) (by rw [hz1]; omega) (by rw [hz2]; omega) (by omega);rw [Int.toNat_natCast, hz1, nilRow_made] at this;exact this
theorem r2m_start {w : World} (m n : Nat) (F : Nat -> Nat -> Bool) : R2m w (w.alloc (.cells (nilRow m) 108)) w.heap.size m n m F :=
 ⟨(Below.refl _ _).alloc (Nat.le_refl _) _, Nat.le_refl _, _, heap_alloc_new _ _, nilRow_size m, fun i h1 h2 => by omega⟩
theorem R2m.lay {w0 w : World} {r m n c : Nat} {F : Nat -> Nat -> Bool} (h : R2m w0 w r m n (c + 1) F) (hc : c < m) (f : Nat -> Bool) :
  R2m w0 ((w.alloc (.cells (bcn n f) 4)).setCell ⟨r, c, none⟩ (SL w.heap.size n)) r m n (c + 1) F /\ RB ((w.alloc (.cells (bcn n f) 4)).setCell ⟨r, c, none⟩ (SL w.heap.size n)) w.heap.size n f /\ ((w.alloc (.cells (bcn n f) 4)).setCell ⟨r, c, none⟩ (SL w.heap.size n)).cell? ⟨r, c, none⟩ = some (SL w.heap.size n) /\
   ∀ i, c < i -> i < m -> ∀ p, ((w.alloc (.cells (bcn n f) 4)).setCell ⟨r, c, none⟩ (SL w.heap.size n)).cell? ⟨r, i, none⟩ = some (SL p n) -> p ≠ w.heap.size := by
 obtain ⟨cs, h1, h2, h3⟩ := h.row;have hr : r < w.heap.size := lt_heap' h1;have ha : (w.alloc (.cells (bcn n f) 4)).heap[r]? = some (.cells cs 108 (0, 0)) := (Below.heap_alloc _ _ _ hr).trans h1;have hs := Go.Joins.block_setCell ha (i := c) (SL w.heap.size n);have hnew : RB ((w.alloc (.cells (bcn n f) 4)).setCell ⟨r, c, none⟩ (SL w.heap.size n)) w.heap.size n f := (Below.heap_setCell _ ⟨r, c, none⟩ _ w.heap.size (by show w.heap.size ≠ r; omega)).trans (heap_alloc_new _ _);refine ⟨⟨(h.bel.alloc h.bel.size _).setCell h.r0 _, h.r0, _, hs, by rw [Array.size_setIfInBounds]; exact h2, fun i i1 i2 => ?_⟩, hnew, ?_, fun i i1 i2 p hp => ?_⟩
 · obtain ⟨q, q1, q2, q3, q4⟩ := h3 i i1 i2;refine ⟨q, by rw [Array.getElem?_setIfInBounds_ne (by omega)]; exact q1, q2, q3, ?_⟩;exact ((Below.heap_setCell _ ⟨r, c, none⟩ _ q q2).trans (Below.heap_alloc _ _ _ q4.lt)).trans q4
 · rw [Lib.cell_of_heap hs];exact Array.getElem?_setIfInBounds_self_of_lt (by omega)
 · obtain ⟨q, q1, q2, q3, q4⟩ := h3 i (by omega) i2;rw [Lib.cell_of_heap hs, Array.getElem?_setIfInBounds_ne (by omega), q1] at hp;(have e : q = p := by simpa using hp);have := q4.lt;omega
structure Rk (w1 : World) (q : Nat) (w : World) : Prop where
 os : w.os = w1.os
 tape : w.tape = w1.tape
 output : w.output = w1.output
 size : w.heap.size = w1.heap.size
 far : ∀ k, k ≠ q -> w.heap[k]? = w1.heap[k]?
theorem Rk.refl (w : World) (q : Nat) : Rk w q w := ⟨rfl, rfl, rfl, rfl, fun _ _ => rfl⟩
theorem Rk.set {w1 w : World} {q : Nat} (h : Rk w1 q w) (i : Nat) (v : Value) : Rk w1 q (w.setCell ⟨q, i, none⟩ v) :=
 ⟨h.os, h.tape, h.output, by have := h.size; simpa using this, fun k hk => (Below.heap_setCell w ⟨q, i, none⟩ v k hk).trans (h.far k hk)⟩
theorem Rk.drew {w1 w : World} {q : Nat} (h : Rk w1 q w) : Rk w1 q w.drew := ⟨h.os, h.tape, h.output, h.size, h.far⟩
theorem Rk.below {w1 w : World} {q n : Nat} (h : Rk w1 q w) (hn : n <= q) : Below n w1 w := ⟨h.os, h.tape, h.output, by rw [h.size]; exact Nat.le_refl _, fun k hk => h.far k (by omega)⟩
theorem Rk.cell {w1 w : World} {q b o : Nat} {v : Value} (h : Rk w1 q w) (hb : b ≠ q) (hc : w1.cell? ⟨b, o, none⟩ = some v) : w.cell? ⟨b, o, none⟩ = some v := by
 rw [<- hc];simp only [World.cell?];rw [h.far b hb]
theorem R2m.put {w0 w1 w : World} {r m n c q : Nat} {F : Nat -> Nat -> Bool} (h : R2m w0 w1 r m n (c + 1) F) (hcell : w1.cell? ⟨r, c, none⟩ = some (SL q n)) (hq : q ≠ r) (hq0 : w0.heap.size <= q) (hnew : ∀ i, c < i -> i < m -> ∀ p, w1.cell? ⟨r, i, none⟩ = some (SL p n) -> p ≠ q) (hk : Rk w1 q w) (hrow : RB w q n (F c)) : R2m w0 w r m n c F := by
 obtain ⟨cs, h1, h2, h3⟩ := h.row;refine ⟨h.bel.trans (hk.below hq0), h.r0, cs, (hk.far r (Ne.symm hq)).trans h1, h2, fun i i1 i2 => ?_⟩;by_cases hi : i = c
 · subst hi;rw [Lib.cell_of_heap h1] at hcell;exact ⟨q, hcell, hq, hq0, hrow⟩
 · obtain ⟨p, p1, p2, p3, p4⟩ := h3 i (by omega) i2;have := hnew i (by omega) i2 p (by rw [Lib.cell_of_heap h1]; exact p1);exact ⟨p, p1, p2, p3, (hk.far p this).trans p4⟩
def R2n (w : World) (B : Nat) (v : Value) (m n : Nat) (F : Nat -> Nat -> Bool) : Prop := ∃ r, v = SL r m /\ B <= r /\ r < w.heap.size /\ ∀ i, i < m -> ∃ q, w.cell? ⟨r, i, none⟩ = some (SL q n) /\ B <= q /\ RB w q n (F i)
theorem R2m.done {w0 w : World} {r m n : Nat} {F : Nat -> Nat -> Bool} (h : R2m w0 w r m n 0 F) {B : Nat} (hB : B <= w0.heap.size) : R2n w B (SL r m) m n F := by
 obtain ⟨cs, h1, h2, h3⟩ := h.row;refine ⟨r, rfl, Nat.le_trans hB h.r0, lt_heap' h1, fun i hi => ?_⟩;obtain ⟨q, q1, q2, q3, q4⟩ := h3 i (Nat.zero_le _) hi;exact ⟨q, by rw [Lib.cell_of_heap h1]; exact q1, Nat.le_trans hB q3, q4⟩
theorem R2n.keep {w w' : World} {B m n : Nat} {v : Value} {F : Nat -> Nat -> Bool} (h : R2n w B v m n F) (hk : ∀ k, B <= k -> k < w.heap.size -> w'.heap[k]? = w.heap[k]?) (hs : w.heap.size <= w'.heap.size) : R2n w' B v m n F := by
 obtain ⟨r, h1, h2, h3, h4⟩ := h;refine ⟨r, h1, h2, Nat.lt_of_lt_of_le h3 hs, fun i hi => ?_⟩;obtain ⟨q, q1, q2, q3⟩ := h4 i hi;refine ⟨q, ?_, q2, q3.keep (hk q q2 q3.lt)⟩;rw [<- q1];simp only [World.cell?];rw [hk r h2 h3]
theorem R2n.read {w : World} {B m n : Nat} {v : Value} {F : Nat -> Nat -> Bool} (h : R2n w B v m n F) : R2 w v m n F := by
 obtain ⟨r, h1, h2, h3, h4⟩ := h;refine ⟨r, m, h1, Nat.le_refl _, h3, fun i hi => ?_⟩;obtain ⟨q, q1, q2, q3⟩ := h4 i hi;exact ⟨q, q1, q3⟩
theorem R2.row {w : World} {r cap m n : Nat} {F : Nat -> Nat -> Bool} (h : R2 w (.slice (some ⟨r, 0, none⟩) m cap) m n F) {i : Nat} (hi : i < m) : ∃ q, w.cell? ⟨r, i, none⟩ = some (SL q n) /\ RB w q n (F i) := by
 obtain ⟨r', cap', h1, h2, h3, h4⟩ := h;simp only [Value.slice.injEq, Option.some.injEq, Addr.mk.injEq, and_true, true_and] at h1;obtain ⟨rfl, rfl⟩ := h1;exact h4 i hi
def accK (a : Nat -> Nat -> Bool) (cm : Bool) (f : Nat -> Bool) (p K : Nat) : Bool := (List.range K).any fun k => decide (p < k) && cm && a p k && f k
theorem acc_start (a : Nat -> Nat -> Bool) (cm : Bool) (f : Nat -> Bool) (p : Nat) : accK a cm f p (p + 1) = false := by
 unfold accK;rw [List.any_eq_false];intro k hk;have := List.mem_range.1 hk;rw [decide_eq_false (by omega)];simp
theorem acc_next (a : Nat -> Nat -> Bool) (f : Nat -> Bool) {p k : Nat} (h : p < k) : accK a true f p (k + 1) = (accK a true f p k || (a p k && f k)) := by
 unfold accK;rw [List.range_succ, List.any_append];simp [h]
theorem acc_off (a : Nat -> Nat -> Bool) (f : Nat -> Bool) (p K : Nat) : accK a false f p K = false := by
 unfold accK;rw [List.any_eq_false];intro k hk;simp
def stF (a : Nat -> Nat -> Bool) (mn mx : Int) (j : Nat) (c p : Nat) : Bool := stC a mn mx j (j + 2) (j + 2 - c) p
theorem stF_at (a : Nat -> Nat -> Bool) (mn mx : Int) (j c : Nat) (hc : c <= j + 2) : stF a mn mx j c j = (decide (mn <= (c : Int)) || a j j) := by
 unfold stF;cases h : j + 2 - c with
 | zero =>
  (have : c = j + 2 := by omega);subst this;simp [stC]
 | succ u =>
  unfold stC;rw [if_pos rfl, show j + 2 - (u + 1) = c by omega]
theorem stF_else (a : Nat -> Nat -> Bool) (mn mx : Int) (j c p : Nat) (hc : c <= j + 2) (hp : p ≠ j) : stF a mn mx j c p = accK a (decide (c < j + 2) && (decide (mx = -1) || decide ((c : Int) < mx))) (stF a mn mx j (c + 1)) p (j + 1) := by
 show stC a mn mx j (j + 2) (j + 2 - c) p = _;cases h : j + 2 - c with
 | zero =>
  (have : c = j + 2 := by omega);subst this;rw [decide_eq_false (by omega : ¬ j + 2 < j + 2), Bool.false_and, acc_off];simp [stC, hp]
 | succ u =>
  rw [stC, if_neg hp, decide_eq_true (by omega : c < j + 2), Bool.true_and];unfold accK stF;rw [show j + 2 - (u + 1) = c by omega, show j + 2 - (c + 1) = u by omega]
theorem nv_cells {w : World} {g : Nat} {nd : Nd} {t : TypeId} (h : w.heap[g]? = some (.cells (NC nd) t (0, 0))) : w.cell? ⟨g, 7, none⟩ = some (E nd.mn) /\ w.cell? ⟨g, 8, none⟩ = some (E nd.mx) := ⟨(Lib.cell_of_heap h 7).trans rfl, (Lib.cell_of_heap h 8).trans rfl⟩
theorem steps_any (nd : Nd) (A : Nat -> Nat -> Bool) (av : Value) (M : Nat) (j : Nat) (hj : j <= 100) (w : World) (hA : R2 w av M M A) (hM : j < M) :
  Calls Tryz.prog 60 #[NV nd, av, E (j : Nat)] w fun e w' => ∃ r, e = .returned (SL r (j + 3)) /\ R2n w' w.heap.size (SL r (j + 3)) (j + 3) (j + 1) (stF A nd.mn nd.mx j) /\ Below w.heap.size w w' := by
 obtain ⟨ra, capa, rfl, hcapa, hra, hrows⟩ := hA;have HRA := Lib.hid (And.intro hra hcapa);have HRW := Lib.hid hrows;have HJ := Lib.hid (And.intro hj hM);(have hmk := fun (n : Nat) (hn : n <= 1000000) (W : World) => make_row n hn W);have hmk1 : ∀ W : World, (Instr.makeSlice 108 (.int .i64 ((j : Int) + 1)) (.int .i64 ((j : Int) + 1))).run Tryz.prog W = .ok (SL W.heap.size (j + 1)) (W.alloc (.cells (bcn (j + 1) fun _ => false) 4)) := fun W => by
  have := make_row (j + 1) (by omega) W
  rwa [show ((j + 1 : Nat) : Int) = (j : Int) + 1 from by omega] at this
 have hmk3 : ∀ W : World, (Instr.makeSlice 107 (.int .i64 ((j : Int) + 2 + 1)) (.int .i64 ((j : Int) + 2 + 1))).run Tryz.prog W = .ok (SL W.heap.size (j + 3)) (W.alloc (.cells (nilRow (j + 3)) 108)) := fun W => by
  have := make_rows (j + 3) (by omega) W
  rwa [show ((j + 3 : Nat) : Int) = (j : Int) + 2 + 1 from by omega] at this
 (have hw2 : IntKind.i64.wrap ((j : Int) + 2) = (j : Int) + 2 := by rw [IntKind.wrap_i64]; omega);(have hw3 : IntKind.i64.wrap ((j : Int) + 2 + 1) = (j : Int) + 2 + 1 := by rw [IntKind.wrap_i64]; omega);(have hw1 : IntKind.i64.wrap ((j : Int) + 1) = (j : Int) + 1 := by rw [IntKind.wrap_i64]; omega);clear hmk hrows hra hcapa;go_enter Tryz.func60, Tryz.ntmps60;go_wp2;obtain ⟨W1, hW1⟩ : ∃ W1, w.alloc (.cells (NC nd) 60) = W1 := ⟨_, rfl⟩;(have hs1 : W1.heap.size = w.heap.size + 1 := by rw [<- hW1]; simp);have HB1 := Lib.hid (show Below w.heap.size w W1 from by rw [<- hW1]; exact (Below.refl _ _).alloc (Nat.le_refl _) _);have HBX := Lib.hid (show W1.heap[w.heap.size]? = some (.cells (NC nd) 60 (0, 0)) from by rw [<- hW1]; exact heap_alloc_new _ _);obtain ⟨F, hF⟩ : ∃ F, stF A nd.mn nd.mx j = F := ⟨_, rfl⟩;have HFj := Lib.hid (show ∀ c, c <= j + 2 -> F c j = (decide (nd.mn <= (c : Int)) || A j j) from fun c hc => by rw [<- hF]; exact stF_at A nd.mn nd.mx j c hc);have HFe := Lib.hid (show ∀ c p, c <= j + 2 -> p ≠ j -> F c p = accK A (decide (c < j + 2) && (decide (nd.mx = -1) || decide ((c : Int) < nd.mx))) (F (c + 1)) p (j + 1) from fun c p hc hp => by rw [<- hF]; exact stF_else A nd.mn nd.mx j c p hc hp);have HFF := Lib.hid hF;have HR0 := Lib.hid (show R2m W1 (W1.alloc (.cells (nilRow (j + 3)) 108)) W1.heap.size (j + 3) (j + 1) (j + 3) F from r2m_start _ _ _);have HRW2 := Lib.hid (fun (wr : World) (hb : Below W1.heap.size W1 wr) (p : Nat) (hp : p < M) => show ∃ qa, wr.cell? ⟨ra, p, none⟩ = some (SL qa M) /\ RB wr qa M (A p) /\ qa < W1.heap.size from by
  obtain ⟨qa, h1, h2⟩ := HRW.out p hp;have hb2 := HB1.out.trans (hb.mono HB1.out.size);exact ⟨qa, (hb2.cell HRA.out.1).trans h1, h2.keep (hb2.block qa h2.lt), Nat.lt_of_lt_of_le h2.lt HB1.out.size⟩)
 have HBX2 := Lib.hid (fun (wr : World) (hb : Below W1.heap.size W1 wr) => nv_cells ((hb.block w.heap.size (by rw [hs1]; omega)).trans HBX.out));have HBL := Lib.hid (show w.heap.size < W1.heap.size /\ ra < W1.heap.size from by have := HRA.out.1; omega);rw [hW1];rw [<- hs1];obtain ⟨b3, hb3⟩ : ∃ b3, w.heap.size = b3 := ⟨_, rfl⟩;rw [hb3] at HBX2 HBL ⊢;clear hW1 hs1 hF hb3 HRW hj hM;go_loopw [9] (fun cv wr => ∃ C : Nat, C <= j + 3 /\ cv = .int .i64 ((C : Int) - 1) /\ Hid (R2m W1 wr W1.heap.size (j + 3) (j + 1) C F)) (fun cv _ => (intOf cv + 1).toNat);(case atStart => exact ⟨j + 3, Nat.le_refl _, by congr 1; omega, HR0⟩);case round =>
  clear HR0;obtain ⟨C, hC, rfl, HR⟩ := hrel;by_cases hC0 : 0 < C
  ·
   obtain ⟨c, rfl⟩ : ∃ c, C = c + 1 := ⟨C - 1, by omega⟩;rw [show (((c + 1 : Nat) : Int) - 1) = (c : Int) from by omega];(have hc0 : (0 : Int) <= (c : Int) := by omega);(have hc1 : (c : Int) < (j : Int) + 3 := by omega);(have hc1n : c < j + 3 := by omega);(have hwc : IntKind.i64.wrap ((c : Int) - 1) = (c : Int) - 1 := by rw [IntKind.wrap_i64]; have := HJ.out; omega);(have hwc1 : IntKind.i64.wrap ((c : Int) + 1) = (c : Int) + 1 := by rw [IntKind.wrap_i64]; have := HJ.out; omega);obtain ⟨cs, g1, g2, g3⟩ := HR.out.row;have ha : (wr.alloc (.cells (bcn (j + 1) fun _ => false) 4)).heap[W1.heap.size]? = some (.cells cs 108 (0, 0)) := (Below.heap_alloc _ _ _ (lt_heap' g1)).trans g1;obtain ⟨z, hz⟩ : ∃ z, cs[c]? = some z := ⟨cs[c]'(by omega), Array.getElem?_eq_getElem (by omega)⟩;(have hcc : (wr.alloc (.cells (bcn (j + 1) fun _ => false) 4)).cell? ⟨W1.heap.size, c, none⟩ = some z := by rw [Lib.cell_of_heap ha]; exact hz);(have hff : (wr.alloc (.cells (bcn (j + 1) fun _ => false) 4)).frozen? ⟨W1.heap.size, c, none⟩ = false := by simp [World.frozen?, ha]);have hlay := HR.out.lay hc1n (fun _ => false);have HQ0 := Lib.hid (show W1.heap.size <= wr.heap.size from HR.out.bel.size);have HQ1 := Lib.hid (show W1.heap.size ≠ wr.heap.size from by have := lt_heap' g1; omega);have HC := Lib.hid hc1n;clear g1 g2 g3 ha hz hC hC0;go_wp2;generalize hW2 : World.setCell _ _ _ = W2 at hlay ⊢;clear hcc hff hW2;generalize hq : wr.heap.size = q at hlay HQ0 HQ1 ⊢;obtain ⟨l1, l2, l3, l4⟩ := hlay;have HL1 := Lib.hid l1;have HL3 := Lib.hid l3;have HL4 := Lib.hid l4;have HBW := Lib.hid l1.bel;have HG0 := Lib.hid (l2.congr (g := fun i => decide (j + 1 <= i) && F c i) (fun i hi => by rw [decide_eq_false (by omega)]; rfl));clear l1 l2 l3 l4 hq HR;go_loopw [10] (fun pv wr => ∃ P : Nat, P <= j + 1 /\ pv = .int .i64 ((P : Int) - 1) /\ Hid (Rk W2 q wr) /\ Hid (RB wr q (j + 1) (fun i => decide (P <= i) && F c i))) (fun pv _ => (intOf pv + 1).toNat);(case atStart => exact ⟨j + 1, Nat.le_refl _, by congr 1; omega, Lib.hid (Rk.refl _ _), HG0⟩);case round =>
    clear HG0;obtain ⟨P, hP, rfl, HK, HG⟩ := hrel;by_cases hP0 : 0 < P
    ·
     obtain ⟨p, rfl⟩ : ∃ p, P = p + 1 := ⟨P - 1, by omega⟩;rw [show (((p + 1 : Nat) : Int) - 1) = (p : Int) from by omega];(have hp0 : (0 : Int) <= (p : Int) := by omega);(have hpj : p <= j := by omega);(have hp1 : (p : Int) < (j : Int) + 1 := by omega);(have hwp : IntKind.i64.wrap ((p : Int) - 1) = (p : Int) - 1 := by rw [IntKind.wrap_i64]; have := HJ.out; omega);(have hwp1 : IntKind.i64.wrap ((p : Int) + 1) = (p : Int) + 1 := by rw [IntKind.wrap_i64]; have := HJ.out; omega);have HPJ := Lib.hid hpj;have HBR := Lib.hid (HBW.out.trans (HK.out.below HQ0.out));by_cases hpe : p = j
     ·
      (have hq1 : ((p : Int) == (j : Int)) = true := by rw [hpe]; simp);have h1 := HK.out.cell HQ1.out HL3.out;have h2 := HG.out.cell (i := p) (by omega);have h3 := HG.out.fz p;obtain ⟨qa, h4, h5, _⟩ := HRW2.out _ HBR.out j HJ.out.2;have h6 := h5.cell (i := j) HJ.out.2;have h7 := (HBX2.out _ HBR.out).1;(have hjM : (j : Int) < (M : Int) := by have := HJ.out; omega);(have hj0 : (0 : Int) <= (j : Int) := by omega);have hFv := HFj.out c (by omega);have HPE := Lib.hid hpe;have HNX := Lib.hid (fun (v : Bool) (hv : v = F c j) => HG.out.put (k := p) (v := v) (g := fun i => decide (p <= i) && F c i) (fun i hi => by
       by_cases e : i = p
       · rw [if_pos e, e, decide_eq_true (Nat.le_refl p), Bool.true_and, hv, hpe]
       · rw [if_neg e]; congr 1; rw [decide_eq_decide]; omega))
      by_cases hmn : nd.mn <= (c : Int)
      · have hmd := decide_eq_true hmn;rw [decide_eq_true hmn, Bool.true_or] at hFv;have HQ := Lib.hid (HNX.out true hFv.symm);clear hpj hP hP0 hpe h5 hFv;go_wp2;go_region;go_wp2;go_roundw;(case rel => exact ⟨p, by have := HPJ.out; omega, rfl, Lib.hid ((HK.out.set _ _).drew), HQ⟩);case measure => simp [intOf]
      ·
       have hmd := decide_eq_false hmn;cases hAj : A j j with
       | true =>
        rw [hAj] at h6 hFv;rw [Bool.or_true] at hFv;have HQ := Lib.hid (HNX.out true hFv.symm);clear hpj hP hP0 hpe h5 hFv hAj;go_wp2;go_region;go_wp2;go_roundw;(case rel => exact ⟨p, by have := HPJ.out; omega, rfl, Lib.hid ((HK.out.set _ _).drew), HQ⟩);case measure => simp [intOf]
       | false =>
        rw [hAj] at h6 hFv;rw [Bool.or_false, decide_eq_false hmn] at hFv;have HQ := Lib.hid (HNX.out false hFv.symm);clear hpj hP hP0 hpe h5 hFv hAj;go_wp2;go_region;go_wp2;go_roundw;(case rel => exact ⟨p, by have := HPJ.out; omega, rfl, Lib.hid ((HK.out.set _ _).drew), HQ⟩);case measure => simp [intOf]
     ·
      (have hq1 : ((p : Int) == (j : Int)) = false := by rw [beq_eq_false_iff_ne]; omega);have HPL := Lib.hid (show p < j from by omega);have hFe := HFe.out c p (by omega) hpe;(have hjp : (p : Int) + 1 <= (j : Int) := by omega);clear hpe hpj hP hP0;by_cases hc2 : c < j + 2
      ·
       (have hc2i : (c : Int) < (j : Int) + 2 := by omega);have HCL := Lib.hid hc2;rw [decide_eq_true hc2, Bool.true_and] at hFe;by_cases hmx : nd.mx = -1
       ·
        (have hm1 : (nd.mx == -1) = true := by rw [hmx]; rfl);rw [decide_eq_true hmx, Bool.true_or] at hFe;have HFV := Lib.hid hFe;clear hFe hmx hc2
        skip
        go_wp2;go_loopw [11] (fun kv wr3 => ∃ K : Nat, p + 1 <= K /\ K <= j + 1 /\ kv = .int .i64 (K : Nat) /\ Hid (Rk W2 q wr3) /\ Hid (RB wr3 q (j + 1) (fun i => if i = p then accK A true (F (c + 1)) p K else (decide (p + 1 <= i) && F c i)))) (fun kv _ => j + 1 - (intOf kv).toNat);case atStart => exact ⟨p + 1, Nat.le_refl _, by omega, by congr 1, HK, Lib.hid (HG.out.congr (fun i hi => by
         by_cases e : i = p
         · rw [if_pos e, acc_start, e, decide_eq_false (by omega), Bool.false_and]
         · rw [if_neg e]))⟩
        case round =>
         clear HK HG HBR;obtain ⟨K, hK1, hK2, rfl, HK, HG⟩ := hrel;have HBR := Lib.hid (HBW.out.trans (HK.out.below HQ0.out));by_cases hKj : K <= j
         ·
          (have hkj : (K : Int) <= (j : Int) := by omega);(have hK0 : (0 : Int) <= (K : Int) := by omega);(have hKn : (K : Int) < (j : Int) + 1 := by omega);(have hKM : (K : Int) < (M : Int) := by have := HJ.out; omega);(have hpM : (p : Int) < (M : Int) := by have := HJ.out; have := HPL.out; omega);(have hwK : IntKind.i64.wrap ((K : Int) + 1) = (K : Int) + 1 := by rw [IntKind.wrap_i64]; have := HJ.out; omega);(have hc13 : (c : Int) + 1 < (j : Int) + 3 := by have := HCL.out; omega);(have hc10 : (0 : Int) <= (c : Int) + 1 := by omega);have h1 := HK.out.cell HQ1.out HL3.out;have h2 := HG.out.cell (i := p) (by have := HPL.out; omega);rw [if_pos rfl] at h2;have h3 := HG.out.fz p;obtain ⟨qa, h4, h5, _⟩ := HRW2.out _ HBR.out p (by have := HJ.out; have := HPL.out; omega);have h6 := h5.cell (i := K) (by have := HJ.out; omega);have h7 := (HBX2.out _ HBR.out).2;obtain ⟨cs2, g1, g2, g3⟩ := HL1.out.row;obtain ⟨q1, k1, k2, k3, k4⟩ := g3 (c + 1) (Nat.le_refl _) (by have := HCL.out; omega);(have k5 : W2.cell? ⟨W1.heap.size, c + 1, none⟩ = some (SL q1 (j + 1)) := by rw [Lib.cell_of_heap g1]; exact k1);have k6 := HL4.out (c + 1) (Nat.lt_succ_self c) (by have := HCL.out; omega) q1 k5;have h8 := HK.out.cell HQ1.out k5;have h9 := (k4.keep (HK.out.far q1 k6)).cell (i := K) (by omega);have HKB := Lib.hid (show p + 1 <= K /\ K <= j from ⟨hK1, hKj⟩);have hnx := acc_next A (F (c + 1)) (show p < K by omega);have HNX := Lib.hid (fun (v : Bool) (hv : v = accK A true (F (c + 1)) p (K + 1)) => HG.out.put (k := p) (v := v) (g := fun i => if i = p then accK A true (F (c + 1)) p (K + 1) else (decide (p + 1 <= i) && F c i)) (fun i hi => by
           by_cases e : i = p
           · rw [if_pos e, if_pos e, hv]
           · rw [if_neg e, if_neg e, if_neg e]))
          clear h5 g1 g2 g3 k1 k2 k3 k4 k5 k6 hK1 hK2 hKj;cases hacc : accK A true (F (c + 1)) p K with
          | true =>
           rw [hacc] at h2 hnx;rw [Bool.true_or] at hnx;have HQ := Lib.hid (HNX.out true hnx.symm);clear hnx hacc;go_wp2;go_region;go_wp2;go_roundw;(case rel => exact ⟨K + 1, by have := HKB.out; omega, by have := HKB.out; omega, by go_num, Lib.hid ((HK.out.set _ _).drew), HQ⟩);case measure => have := HKB.out; simp [intOf]; omega
          | false =>
           rw [hacc] at h2 hnx;rw [Bool.false_or] at hnx;cases hA : A p K with
           | false =>
            rw [hA] at h6 hnx;rw [Bool.false_and] at hnx;have HQ := Lib.hid (HNX.out false hnx.symm);clear hnx hacc hA;go_wp2;go_region;go_wp2;go_roundw;(case rel => exact ⟨K + 1, by have := HKB.out; omega, by have := HKB.out; omega, by go_num, Lib.hid ((HK.out.set _ _).drew), HQ⟩);case measure => have := HKB.out; simp [intOf]; omega
           | true =>
            rw [hA] at h6 hnx;rw [Bool.true_and] at hnx;cases hf : F (c + 1) K with
            | false =>
             rw [hf] at h9 hnx;have HQ := Lib.hid (HNX.out false hnx.symm);clear hnx hacc hA hf;go_wp2;go_region;go_wp2;go_roundw;(case rel => exact ⟨K + 1, by have := HKB.out; omega, by have := HKB.out; omega, by go_num, Lib.hid ((HK.out.set _ _).drew), HQ⟩);case measure => have := HKB.out; simp [intOf]; omega
            | true =>
             rw [hf] at h9 hnx;have HQ := Lib.hid (HNX.out true hnx.symm);clear hnx hacc hA hf;go_wp2;go_region;go_wp2;go_roundw;(case rel => exact ⟨K + 1, by have := HKB.out; omega, by have := HKB.out; omega, by go_num, Lib.hid ((HK.out.set _ _).drew), HQ⟩);case measure => have := HKB.out; simp [intOf]; omega
         ·
          (obtain rfl : K = j + 1 := by omega);(have hkj : ¬ ((j + 1 : Nat) : Int) <= (j : Int) := by omega);have HN := Lib.hid (HG.out.congr (g := fun i => decide (p <= i) && F c i) (fun i hi => by
           by_cases e : i = p
           · rw [if_pos e, e, decide_eq_true (Nat.le_refl p), Bool.true_and, HFV.out]
           · rw [if_neg e]; congr 1; rw [decide_eq_decide]; omega))
          clear hK1 hK2 hKj;go_wp2;go_roundw;(case rel => exact ⟨p, by have := HPL.out; omega, rfl, HK, HN⟩);case measure => simp [intOf]
       ·
        (have hm1 : (nd.mx == -1) = false := by rw [beq_eq_false_iff_ne]; exact hmx);rw [decide_eq_false hmx, Bool.false_or] at hFe;by_cases hcm : (c : Int) < nd.mx
        ·
         have hcd := decide_eq_true hcm;rw [hcd] at hFe;have HFV := Lib.hid hFe;clear hFe hmx hc2
         skip
         go_wp2;go_loopw [11] (fun kv wr3 => ∃ K : Nat, p + 1 <= K /\ K <= j + 1 /\ kv = .int .i64 (K : Nat) /\ Hid (Rk W2 q wr3) /\ Hid (RB wr3 q (j + 1) (fun i => if i = p then accK A true (F (c + 1)) p K else (decide (p + 1 <= i) && F c i)))) (fun kv _ => j + 1 - (intOf kv).toNat);case atStart => exact ⟨p + 1, Nat.le_refl _, by omega, by congr 1, HK, Lib.hid (HG.out.congr (fun i hi => by
          by_cases e : i = p
          · rw [if_pos e, acc_start, e, decide_eq_false (by omega), Bool.false_and]
          · rw [if_neg e]))⟩
         case round =>
          clear HK HG HBR;obtain ⟨K, hK1, hK2, rfl, HK, HG⟩ := hrel;have HBR := Lib.hid (HBW.out.trans (HK.out.below HQ0.out));by_cases hKj : K <= j
          ·
           (have hkj : (K : Int) <= (j : Int) := by omega);(have hK0 : (0 : Int) <= (K : Int) := by omega);(have hKn : (K : Int) < (j : Int) + 1 := by omega);(have hKM : (K : Int) < (M : Int) := by have := HJ.out; omega);(have hpM : (p : Int) < (M : Int) := by have := HJ.out; have := HPL.out; omega);(have hwK : IntKind.i64.wrap ((K : Int) + 1) = (K : Int) + 1 := by rw [IntKind.wrap_i64]; have := HJ.out; omega);(have hc13 : (c : Int) + 1 < (j : Int) + 3 := by have := HCL.out; omega);(have hc10 : (0 : Int) <= (c : Int) + 1 := by omega);have h1 := HK.out.cell HQ1.out HL3.out;have h2 := HG.out.cell (i := p) (by have := HPL.out; omega);rw [if_pos rfl] at h2;have h3 := HG.out.fz p;obtain ⟨qa, h4, h5, _⟩ := HRW2.out _ HBR.out p (by have := HJ.out; have := HPL.out; omega);have h6 := h5.cell (i := K) (by have := HJ.out; omega);have h7 := (HBX2.out _ HBR.out).2;obtain ⟨cs2, g1, g2, g3⟩ := HL1.out.row;obtain ⟨q1, k1, k2, k3, k4⟩ := g3 (c + 1) (Nat.le_refl _) (by have := HCL.out; omega);(have k5 : W2.cell? ⟨W1.heap.size, c + 1, none⟩ = some (SL q1 (j + 1)) := by rw [Lib.cell_of_heap g1]; exact k1);have k6 := HL4.out (c + 1) (Nat.lt_succ_self c) (by have := HCL.out; omega) q1 k5;have h8 := HK.out.cell HQ1.out k5;have h9 := (k4.keep (HK.out.far q1 k6)).cell (i := K) (by omega);have HKB := Lib.hid (show p + 1 <= K /\ K <= j from ⟨hK1, hKj⟩);have hnx := acc_next A (F (c + 1)) (show p < K by omega);have HNX := Lib.hid (fun (v : Bool) (hv : v = accK A true (F (c + 1)) p (K + 1)) => HG.out.put (k := p) (v := v) (g := fun i => if i = p then accK A true (F (c + 1)) p (K + 1) else (decide (p + 1 <= i) && F c i)) (fun i hi => by
            by_cases e : i = p
            · rw [if_pos e, if_pos e, hv]
            · rw [if_neg e, if_neg e, if_neg e]))
           clear h5 g1 g2 g3 k1 k2 k3 k4 k5 k6 hK1 hK2 hKj;cases hacc : accK A true (F (c + 1)) p K with
           | true =>
            rw [hacc] at h2 hnx;rw [Bool.true_or] at hnx;have HQ := Lib.hid (HNX.out true hnx.symm);clear hnx hacc;go_wp2;go_region;go_wp2;go_roundw;(case rel => exact ⟨K + 1, by have := HKB.out; omega, by have := HKB.out; omega, by go_num, Lib.hid ((HK.out.set _ _).drew), HQ⟩);case measure => have := HKB.out; simp [intOf]; omega
           | false =>
            rw [hacc] at h2 hnx;rw [Bool.false_or] at hnx;cases hA : A p K with
            | false =>
             rw [hA] at h6 hnx;rw [Bool.false_and] at hnx;have HQ := Lib.hid (HNX.out false hnx.symm);clear hnx hacc hA;go_wp2;go_region;go_wp2;go_roundw;(case rel => exact ⟨K + 1, by have := HKB.out; omega, by have := HKB.out; omega, by go_num, Lib.hid ((HK.out.set _ _).drew), HQ⟩);case measure => have := HKB.out; simp [intOf]; omega
            | true =>
             rw [hA] at h6 hnx;rw [Bool.true_and] at hnx;cases hf : F (c + 1) K with
             | false =>
              rw [hf] at h9 hnx;have HQ := Lib.hid (HNX.out false hnx.symm);clear hnx hacc hA hf;go_wp2;go_region;go_wp2;go_roundw;(case rel => exact ⟨K + 1, by have := HKB.out; omega, by have := HKB.out; omega, by go_num, Lib.hid ((HK.out.set _ _).drew), HQ⟩);case measure => have := HKB.out; simp [intOf]; omega
             | true =>
              rw [hf] at h9 hnx;have HQ := Lib.hid (HNX.out true hnx.symm);clear hnx hacc hA hf;go_wp2;go_region;go_wp2;go_roundw;(case rel => exact ⟨K + 1, by have := HKB.out; omega, by have := HKB.out; omega, by go_num, Lib.hid ((HK.out.set _ _).drew), HQ⟩);case measure => have := HKB.out; simp [intOf]; omega
          ·
           (obtain rfl : K = j + 1 := by omega);(have hkj : ¬ ((j + 1 : Nat) : Int) <= (j : Int) := by omega);have HN := Lib.hid (HG.out.congr (g := fun i => decide (p <= i) && F c i) (fun i hi => by
            by_cases e : i = p
            · rw [if_pos e, e, decide_eq_true (Nat.le_refl p), Bool.true_and, HFV.out]
            · rw [if_neg e]; congr 1; rw [decide_eq_decide]; omega))
           clear hK1 hK2 hKj;go_wp2;go_roundw;(case rel => exact ⟨p, by have := HPL.out; omega, rfl, HK, HN⟩);case measure => simp [intOf]
        ·
         have hcd := decide_eq_false hcm;rw [hcd] at hFe;have HFV := Lib.hid hFe;clear hFe hmx hc2
         skip
         go_wp2;go_loopw [11] (fun kv wr3 => ∃ K : Nat, p + 1 <= K /\ K <= p + 1 /\ kv = .int .i64 (K : Nat) /\ Hid (Rk W2 q wr3) /\ Hid (RB wr3 q (j + 1) (fun i => if i = p then accK A false (F (c + 1)) p K else (decide (p + 1 <= i) && F c i)))) (fun kv _ => j + 1 - (intOf kv).toNat);case atStart => exact ⟨p + 1, Nat.le_refl _, by omega, by congr 1, HK, Lib.hid (HG.out.congr (fun i hi => by
          by_cases e : i = p
          · rw [if_pos e, acc_start, e, decide_eq_false (by omega), Bool.false_and]
          · rw [if_neg e]))⟩
         case round =>
          clear HK HG;obtain ⟨K, hK1, hK2, rfl, HK, HG⟩ := hrel;(obtain rfl : K = p + 1 := by omega);have h7 := (HBX2.out _ (HBW.out.trans (HK.out.below HQ0.out))).2;have HN := Lib.hid (HG.out.congr (g := fun i => decide (p <= i) && F c i) (fun i hi => by
           by_cases e : i = p
           · rw [if_pos e, e, decide_eq_true (Nat.le_refl p), Bool.true_and, HFV.out, acc_off, acc_off]
           · rw [if_neg e]; congr 1; rw [decide_eq_decide]; omega))
          (have hkj : ((p + 1 : Nat) : Int) <= (j : Int) := by have := HPL.out; omega);clear hK1 hK2;go_wp2;go_roundw;(case rel => exact ⟨p, by have := HPL.out; omega, rfl, HK, HN⟩);case measure => simp [intOf]
      ·
       (have hc2i : ¬ (c : Int) < (j : Int) + 2 := by omega);rw [decide_eq_false hc2, Bool.false_and] at hFe;have HFV := Lib.hid hFe;clear hFe hc2
       skip
       go_wp2;go_loopw [11] (fun kv wr3 => ∃ K : Nat, p + 1 <= K /\ K <= p + 1 /\ kv = .int .i64 (K : Nat) /\ Hid (Rk W2 q wr3) /\ Hid (RB wr3 q (j + 1) (fun i => if i = p then accK A false (F (c + 1)) p K else (decide (p + 1 <= i) && F c i)))) (fun kv _ => j + 1 - (intOf kv).toNat);case atStart => exact ⟨p + 1, Nat.le_refl _, by omega, by congr 1, HK, Lib.hid (HG.out.congr (fun i hi => by
        by_cases e : i = p
        · rw [if_pos e, acc_start, e, decide_eq_false (by omega), Bool.false_and]
        · rw [if_neg e]))⟩
       case round =>
        clear HK HG;obtain ⟨K, hK1, hK2, rfl, HK, HG⟩ := hrel;(obtain rfl : K = p + 1 := by omega);have HN := Lib.hid (HG.out.congr (g := fun i => decide (p <= i) && F c i) (fun i hi => by
         by_cases e : i = p
         · rw [if_pos e, e, decide_eq_true (Nat.le_refl p), Bool.true_and, HFV.out, acc_off, acc_off]
         · rw [if_neg e]; congr 1; rw [decide_eq_decide]; omega))
        (have hkj : ((p + 1 : Nat) : Int) <= (j : Int) := by have := HPL.out; omega);clear hK1 hK2;go_wp2;go_roundw;(case rel => exact ⟨p, by have := HPL.out; omega, rfl, HK, HN⟩);case measure => simp [intOf]
    · (obtain rfl : P = 0 := by omega);(have hn0 : ¬ (0 : Int) <= ((0 : Nat) : Int) - 1 := by omega);have HR2 := Lib.hid (HL1.out.put HL3.out (Ne.symm HQ1.out) HQ0.out HL4.out HK.out (HG.out.congr (g := F c) (fun i hi => by simp)));go_wp2;go_roundw;(case rel => exact ⟨c, by have := HC.out; omega, rfl, HR2⟩);case measure => simp [intOf]
  · (obtain rfl : C = 0 := by omega);(have hn0 : ¬ (0 : Int) <= ((0 : Nat) : Int) - 1 := by omega);go_wp2;go_ret;exact ⟨_, rfl, by rw [HFF.out]; exact HR.out.done HB1.out.size, HB1.out.trans (HR.out.bel.mono HB1.out.size)⟩
end Go.Proofs.YtgaiknjmbingjaaGreatDoor.Mt
