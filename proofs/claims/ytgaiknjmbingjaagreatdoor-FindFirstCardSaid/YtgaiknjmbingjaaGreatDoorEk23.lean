/- The texts FnI FnA FnF MtO MtL0. -/
import Derived.Maps.OwnIn
import Derived.Test.YtgaiknjmbingjaaGreatDoorEk22
set_option linter.unusedVariables false
set_option linter.unusedSimpArgs false
set_option maxHeartbeats 6400000
set_option maxRecDepth 100000
namespace Go.Proofs.YtgaiknjmbingjaaGreatDoor.Mt
open Go.RowKit Go.Shelf
open Rx
open Go.Proofs.YtgaiknjmbingjaaGreatDoor.Fn
attribute [local go_sem] Oper.semAt_some
section
variable {F : Fence} {n : Nat} {P : Program} {ops : Array Oper} {Q : Exit -> Act -> World -> Prop} {a : Act} {w : World} {rest : List Oper} {o : Oper}
theorem inStore_row (hgd : o.guard = none) (ty : TypeId) (x y : Operand) (ho : o.op = .store ty x y)
  (g : Nat) (cells : Array Value) (hx : a.eval x = .pointer (some ⟨g, 0, none⟩)) (hy : a.eval y = .agg cells)
  (t : TypeId) (old : Array Value) (hg : w.heap[g]? = some (.cells old t (0, 0))) (hi : (P.info? ty).map (·.size) = some cells.size)
  (hold : old.size = cells.size) (h1 : cells.all (·.oneCell') = true)
  (h : wpListIn F n P ops Q rest (a.put o.dst undef) (w.setRow g cells)) : wpListIn F n P ops Q (o :: rest) a w := by
 (refine wpListIn_plain hgd fun K hK => ?_);unfold Oper.wpIn;refine ⟨by simp [Oper.about, ho], ?_⟩;rw [Oper.semAt_plain F _ _ (by rw [ho]; intro c hc'; cases hc')];unfold execOp;simp only [ho, hx, hy, Instr.storeAt, Instr.sureAddr, Sem.run_bind, Sem.run_pure, Result.andThen_ok, run_storeVar_row w g t ty old cells hg hi hold h1];exact hK _ _ h
theorem inLoad_row (hgd : o.guard = none) (ty : TypeId) (x : Operand) (ho : o.op = .load ty x)
  (g : Nat) (hx : a.eval x = .pointer (some ⟨g, 0, none⟩)) (t : TypeId) (cs : Array Value) (fr : Nat × Nat) (d : TypeDesc) (hg : w.heap[g]? = some (.cells cs t fr))
  (hu : P.underlying ty = some d) (hd : (match d with | .struct _ | .array _ _ => true | _ => false) = true) (hi : (P.info? ty).map (·.size) = some cs.size)
  (h : wpListIn F n P ops Q rest (a.put o.dst (.agg cs)) w) : wpListIn F n P ops Q (o :: rest) a w := by
 (refine wpListIn_plain hgd fun K hK => ?_);unfold Oper.wpIn;refine ⟨by simp [Oper.about, ho], ?_⟩;rw [Oper.semAt_plain F _ _ (by rw [ho]; intro c hc'; cases hc')];unfold execOp;simp only [ho, hx, Instr.loadAt, Instr.sureAddr, Sem.run_bind, Sem.run_pure, Result.andThen_ok, run_loadVar_row w g t ty cs fr d hg hu hd hi];exact hK _ _ h
end
theorem grown_none {W W' : World} (hb : Below W.heap.size W W') : W.grownBy W' none := ⟨hb.os, hb.tape, hb.output, hb.size, fun k hk _ => hb.block k hk⟩
def dl (a b : Int) : Nat := if a = b then 0 else 1
theorem dl_le (a b : Int) : dl a b <= 1 := by unfold dl; split <;> omega
theorem dl_self (a : Int) : dl a a = 0 := by unfold dl; rw [if_pos rfl]
theorem dl_ne {a b : Int} (h : a ≠ b) : dl a b = 1 := by unfold dl; rw [if_neg h]
theorem finds_stops (hna : NoneOk) (n : Nat) (hn : 2 <= n) (ao : Option Addr) (nn cc : Nat) (T : List UInt8) (hT : T.length <= 100000) (F : Nat -> Option Caps) (hF : FOk T.length F) (bt bl : Nat) (w : World) (Kp : World -> World -> Prop) (Ft : World -> Prop)
  (hfact : ∀ W, Below w.heap.size w W -> Ft W) (hFb : ∀ W W', Ft W -> Below W.heap.size W W' -> Ft W') (hFK : ∀ W W', Kp W W' -> Ft W -> Ft W')
  (hFt : ∀ W, Ft W -> LongOk W (.slice ao nn cc) T F /\ Boxed W bt 9 (S T) /\ Boxed W bl 22 (.slice ao nn cc))
  (hnew : ∀ W (cs : Array Value) W', Ft W -> Kp (W.alloc (.cells cs 27)) W' -> W'.heap[W.heap.size]? = some (.cells cs 27 (0, 0))) :
  SeqStopsK Fence.wide n Tryz.prog 38 #[PT bt, PT bl] (fun c : Caps => #[CV c]) Kp (fun xs => xs = allF F T.length) (fun _ => True) (2 * (T.length + 1) + 1) w := fun l J Jx W hW hJ hJx hY h0 => by
 have HFT0 := Lib.hid (hfact W hW);have HJ0 := Lib.hid h0;have HT := Lib.hid hT;have HFO := Lib.hid hF;have HJA := Lib.hid hJ;have HYL := Lib.hid hY;have HFB := Lib.hid hFb;have HFK := Lib.hid hFK;have HFT := Lib.hid hFt;have HNW := Lib.hid hnew;clear hfact h0 hT hF hJ hY hFb hFK hFt hnew hJx;refine callsIn_of_wp Tryz.func38 rfl trivial ?_ rfl;simp only [Tryz.ntmps38, List.size_toArray, List.length_cons, List.length_nil, Nat.reduceAdd, Nat.reduceSub, Array.replicate_succ, Array.replicate_zero, List.push_toArray, List.append_toArray, List.nil_append, List.cons_append];gi_wp2
 gi_loopw [4, 5] (fun lv iv wr => ∃ la i f : Nat, lv = .int .i64 ((la : Int) - 1) /\ iv = .int .i64 (i : Nat) /\ la <= T.length + 1 /\ i <= T.length + 1 /\ muF T.length la i <= f /\ Hid (Ft wr) /\ ∃ pre : List Caps, Hid (pre ++ finF F T.length f la i = allF F T.length) /\ Hid (J pre wr)) (fun lv iv _ => 2 * (T.length + 1 - (intOf iv).toNat) + dl (intOf lv) (intOf iv))
 (case atStart => exact ⟨0, 0, 2 * (T.length + 1) + 1, rfl, rfl, by omega, by omega, by unfold muF; split <;> omega, HFT0, [], Lib.hid rfl, HJ0⟩);case round =>
  clear HFT0 HJ0;obtain ⟨la, i, f, rfl, rfl, hla, hi, hmu, HF, pre, HP, HJ⟩ := hrel;have HMU := Lib.hid hmu;have HLA := Lib.hid hla;obtain ⟨hlo, ht1, ht2⟩ := HFT.out _ HF.out;have c1 := ht1.cell;have c2 := ht2.cell;have HLO := Lib.hid hlo;clear hlo ht1 ht2;by_cases hlt : i <= T.length
  ·
   obtain ⟨f, rfl⟩ : ∃ f', f = f' + 1 := ⟨f - 1, by unfold muF at hmu; omega⟩;have hst : finF F T.length (f + 1) la i = match firstF F T.length i with
     | none => []
     | some c => if to0 c = from0 c /\ from0 c + 1 = la then finF F T.length f la la else c :: finF F T.length f (to0 c + 1) (to0 c) := rfl
   (have hle : (i : Int) <= (T.length : Int) := by omega);have HLT := Lib.hid hlt;clear hlt hla hi hmu;cases hR : firstF F T.length i with
   | none =>
    rw [hR] at hst;have HST := Lib.hid hst;have HFI := Lib.hid (first_from hna (.slice ao nn cc) T HT.out F _ HLO.out (i : Nat) i (Or.inr rfl) (by have := HLT.out; have := HT.out; omega) none hR.symm);clear hst hR HLO;gi_wp2;refine ⟨trivial, fun h => (by cases h), ?_⟩;refine (callsIn_wide.2 HFI.out).mono ?_;rintro e w3 ⟨he, hb⟩;rw [show ansC none = .tuple #[CV nones, .bool false] from rfl] at he;subst he;have HJ3 := Lib.hid (HJA.out _ _ _ none HJ.out (grown_none hb) (by simp));clear c1 c2 hb
    gi_wp2_with (refine inStore_row rfl 27 (.tmp 6) (.tmp 17) rfl _ (CC nones) rfl rfl _ CZ (heap_alloc_new _ _) (by kernel_rfl) rfl (cc_one nones) ?_; simp only [Act.put, List.setIfInBounds_toArray, List.set_cons_zero, List.set_cons_succ]; rw [box_laid]; have HJ4 := Lib.hid (HJA.out _ _ _ none HJ3.out (World.grownBy_alloc _ (.cells (CC nones) 27) none) (by simp)); clear HJ3; generalize World.alloc _ _ = W4 at HJ4 ⊢)
    refine bodyPost_ret (results_none rfl _ _ _) rfl ?_;refine ⟨⟨_, rfl⟩, .inl ⟨_, ?_, HJ4.out⟩⟩;have := HP.out;rw [HST.out, List.append_nil] at this;exact this
   | some c =>
    rw [hR] at hst;have HST := Lib.hid hst;have HFI := Lib.hid (first_from hna (.slice ao nn cc) T HT.out F _ HLO.out (i : Nat) i (Or.inr rfl) (by have := HLT.out; have := HT.out; omega) (some c) hR.symm);have HMS := Lib.hid (fun q => mu_skip HFO.out hR HMU.out q);have HMN := Lib.hid (fun q => mu_next HFO.out hR HMU.out q);obtain ⟨g1, g2, g3, hcaps, hgr, g4, g5⟩ := first_at HFO.out hR;have HAT := Lib.hid (show i <= from0 c /\ from0 c <= to0 c /\ to0 c <= T.length from ⟨g1, g4, g5⟩);(have hok : CapOk T.length (some (from0 c, to0 c)) := by rw [<- hgr]; exact hcaps.at 0);have HN9 := Lib.hid (show T.length <= 999999999 from by have := HT.out; omega);have HGR := Lib.hid hgr;have HLEN := Lib.hid (fun W => len_cap HN9.out hok W);have HFRM := Lib.hid (fun W => from_cap HN9.out hok W);have HTO := Lib.hid (fun W => to_cap HN9.out hok W);clear g1 g2 g3 hcaps hgr g4 g5 hok hst hR HLO;have hst2 := HST.out;have hms2 := HMS.out;have hmn2 := HMN.out;have hat2 := HAT.out;have hgr2 := HGR.out;have hl2 := HLEN.out;have hf2 := HFRM.out;have ht2 := HTO.out;clear HST HMS HMN HAT HGR HLEN HFRM HTO;obtain ⟨A, hA⟩ : ∃ A, from0 c = A := ⟨_, rfl⟩;obtain ⟨B, hB⟩ : ∃ B, to0 c = B := ⟨_, rfl⟩;simp only [hA, hB] at hst2 hms2 hmn2 hat2 hgr2 hl2 hf2 ht2;have HST := Lib.hid hst2;have HMS := Lib.hid hms2;have HMN := Lib.hid hmn2;have HAT := Lib.hid hat2;have HGR := Lib.hid hgr2;have HLEN := Lib.hid hl2;have HFRM := Lib.hid hf2;have HTO := Lib.hid ht2;clear hA hB hst2 hms2 hmn2 hat2 hgr2 hl2 hf2 ht2;gi_wp2;refine ⟨trivial, fun h => (by cases h), ?_⟩;refine (callsIn_wide.2 HFI.out).mono ?_;rintro e w3 ⟨he, hb⟩;rw [show ansC (some c) = .tuple #[CV c, .bool true] from rfl] at he;subst he;have HJ3 := Lib.hid (HJA.out _ _ _ none HJ.out (grown_none hb) (by simp));have HF3 := Lib.hid (HFB.out _ _ HF.out hb);clear c1 c2 hb;(have hwl : IntKind.i64.wrap ((la : Int) - 1 + 1) = (la : Int) := by rw [IntKind.wrap_i64]; have := HLA.out; have := HT.out; omega);(have hwl2 : IntKind.i64.wrap (la : Int) = (la : Int) := by rw [IntKind.wrap_i64]; have := HLA.out; have := HT.out; omega);by_cases hsk : B = A /\ A + 1 = la
    ·
     (have hz : (((B - A : Nat) : Int) == 0) = true := by rw [beq_iff_eq]; omega);(have hq : ((A : Int) == (la : Int) - 1) = true := by rw [beq_iff_eq]; omega);have HSK := Lib.hid hsk;clear hsk
     gi_wp2_with (refine inStore_row rfl 27 (.tmp 6) (.tmp 17) rfl _ (CC c) rfl rfl _ CZ (heap_alloc_new _ _) (by kernel_rfl) rfl (cc_one c) ?_; simp only [Act.put, List.setIfInBounds_toArray, List.set_cons_zero, List.set_cons_succ]; rw [box_laid]; have HJ4 := Lib.hid (HJA.out _ _ _ none HJ3.out (World.grownBy_alloc _ (.cells (CC c) 27) none) (by simp)); have HF4 := Lib.hid (HFB.out _ _ HF3.out ((Below.refl _ _).alloc (Nat.le_refl _) (.cells (CC c) 27))); have HX4 := Lib.hid (heap_alloc_new w3 (.cells (CC c) 27)); have HNK := Lib.hid (fun W' => HNW.out w3 (CC c) W' HF3.out); generalize World.alloc _ _ = W4 at HJ4 HF4 HX4 HNK ⊢; have cx := cap_cell HX4.out (n := 0) (by decide); rw [HGR.out] at cx)
     refine ⟨trivial, fun h => (by cases h), ?_⟩;refine (callsIn_wide.2 (HLEN.out _)).mono ?_;rintro e w5 ⟨rfl, rfl⟩;gi_wp2;refine ⟨trivial, fun h => (by cases h), ?_⟩;refine (callsIn_wide.2 (HFRM.out _)).mono ?_;rintro e w5 ⟨rfl, rfl⟩;gi_wp2;go_roundw;(case rel => exact ⟨la, la, f, rfl, rfl, HLA.out, HLA.out, HMS.out HSK.out, HF4, pre, Lib.hid (by rw [<- HP.out, HST.out, if_pos HSK.out]), HJ4⟩);case measure =>
      have := HAT.out;have := HLT.out;have := HSK.out;simp only [intOf, Int.toNat_natCast];have h1 := dl_le ((la : Int) - 1) (la : Int);omega
    ·
     have hno := hsk;have HLN := Lib.hid (show pre.length < 2 * (T.length + 1) + 1 from by
      have h1 := fin_len F T.length (2 * (T.length + 1) + 1) 0 0;have h2 := congrArg List.length HP.out;rw [HST.out, if_neg hno, List.length_append, List.length_cons] at h2;unfold allF at h2;omega)
     by_cases he : B = A
     ·
      (have hz : (((B - A : Nat) : Int) == 0) = true := by rw [beq_iff_eq]; omega);(have hq : ((A : Int) == (la : Int) - 1) = false := by rw [beq_eq_false_iff_ne]; omega);clear hsk he
      gi_wp2_with (refine inStore_row rfl 27 (.tmp 6) (.tmp 17) rfl _ (CC c) rfl rfl _ CZ (heap_alloc_new _ _) (by kernel_rfl) rfl (cc_one c) ?_; simp only [Act.put, List.setIfInBounds_toArray, List.set_cons_zero, List.set_cons_succ]; rw [box_laid]; have HJ4 := Lib.hid (HJA.out _ _ _ none HJ3.out (World.grownBy_alloc _ (.cells (CC c) 27) none) (by simp)); have HF4 := Lib.hid (HFB.out _ _ HF3.out ((Below.refl _ _).alloc (Nat.le_refl _) (.cells (CC c) 27))); have HX4 := Lib.hid (heap_alloc_new w3 (.cells (CC c) 27)); have HNK := Lib.hid (fun W' => HNW.out w3 (CC c) W' HF3.out); generalize World.alloc _ _ = W4 at HJ4 HF4 HX4 HNK ⊢; have cx := cap_cell HX4.out (n := 0) (by decide); rw [HGR.out] at cx)
      refine ⟨trivial, fun h => (by cases h), ?_⟩;refine (callsIn_wide.2 (HLEN.out _)).mono ?_;rintro e w5 ⟨rfl, rfl⟩;gi_wp2;refine ⟨trivial, fun h => (by cases h), ?_⟩;refine (callsIn_wide.2 (HFRM.out _)).mono ?_;rintro e w5 ⟨rfl, rfl⟩;obtain ⟨fn, tmps, assign, body, hy, hYR⟩ := HYL.out pre c W4 HJ4.out HLN.out
      gi_wp2_with (refine inLoad_row rfl 27 (.tmp 6) rfl w3.heap.size rfl _ (CC c) (0, 0) _ HX4.out Tryz.underlying27 rfl (by kernel_rfl) ?_; simp only [Act.put, List.setIfInBounds_toArray, List.set_cons_zero, List.set_cons_succ])
      refine ⟨fun h => (by cases h), hYR.mono ?_⟩;clear hy hYR;rintro e W' (⟨rfl, hJ', hk'⟩ | ⟨rfl, hJx'⟩)
      ·
       have HF5 := Lib.hid (HFK.out _ _ hk' HF4.out);have hx5 := cap_cell (HNK.out _ hk') (n := 0) (by decide);rw [HGR.out] at hx5;have HJ5 := Lib.hid hJ';clear cx hJ' hk';gi_wp2;refine ⟨trivial, fun h => (by cases h), ?_⟩;refine (callsIn_wide.2 (HTO.out _)).mono ?_;rintro e w5 ⟨rfl, rfl⟩;gi_wp2;go_roundw;(case rel => exact ⟨B + 1, B, f, by rw [show (((B + 1 : Nat) : Int) - 1) = (B : Int) from by omega], rfl, by have := HAT.out; omega, by have := HAT.out; omega, HMN.out hno, HF5, pre ++ [c], Lib.hid (by rw [<- HP.out, HST.out, if_neg hno]; simp), HJ5⟩);case measure =>
        have := HAT.out;have := HLT.out;simp only [intOf, Int.toNat_natCast];rw [dl_self];by_cases hla : (la : Int) - 1 = (i : Int)
        · omega
        · rw [dl_ne hla];omega
      · clear cx;gi_wp2;refine bodyPost_ret (results_none rfl _ _ _) rfl ?_;exact ⟨⟨_, rfl⟩, .inr ⟨_, trivial, hJx'⟩⟩
     ·
      (have hz : (((B - A : Nat) : Int) == 0) = false := by rw [beq_eq_false_iff_ne]; have := HAT.out; omega);clear hsk he
      gi_wp2_with (refine inStore_row rfl 27 (.tmp 6) (.tmp 17) rfl _ (CC c) rfl rfl _ CZ (heap_alloc_new _ _) (by kernel_rfl) rfl (cc_one c) ?_; simp only [Act.put, List.setIfInBounds_toArray, List.set_cons_zero, List.set_cons_succ]; rw [box_laid]; have HJ4 := Lib.hid (HJA.out _ _ _ none HJ3.out (World.grownBy_alloc _ (.cells (CC c) 27) none) (by simp)); have HF4 := Lib.hid (HFB.out _ _ HF3.out ((Below.refl _ _).alloc (Nat.le_refl _) (.cells (CC c) 27))); have HX4 := Lib.hid (heap_alloc_new w3 (.cells (CC c) 27)); have HNK := Lib.hid (fun W' => HNW.out w3 (CC c) W' HF3.out); generalize World.alloc _ _ = W4 at HJ4 HF4 HX4 HNK ⊢; have cx := cap_cell HX4.out (n := 0) (by decide); rw [HGR.out] at cx)
      refine ⟨trivial, fun h => (by cases h), ?_⟩;refine (callsIn_wide.2 (HLEN.out _)).mono ?_;rintro e w5 ⟨rfl, rfl⟩;gi_wp2;refine ⟨trivial, ?_⟩;obtain ⟨fn, tmps, assign, body, hy, hYR⟩ := HYL.out pre c W4 HJ4.out HLN.out
      gi_wp2_with (refine inLoad_row rfl 27 (.tmp 6) rfl w3.heap.size rfl _ (CC c) (0, 0) _ HX4.out Tryz.underlying27 rfl (by kernel_rfl) ?_; simp only [Act.put, List.setIfInBounds_toArray, List.set_cons_zero, List.set_cons_succ])
      refine ⟨fun h => (by cases h), hYR.mono ?_⟩;clear hy hYR;rintro e W' (⟨rfl, hJ', hk'⟩ | ⟨rfl, hJx'⟩)
      ·
       have HF5 := Lib.hid (HFK.out _ _ hk' HF4.out);have hx5 := cap_cell (HNK.out _ hk') (n := 0) (by decide);rw [HGR.out] at hx5;have HJ5 := Lib.hid hJ';clear cx hJ' hk';gi_wp2;refine ⟨trivial, fun h => (by cases h), ?_⟩;refine (callsIn_wide.2 (HTO.out _)).mono ?_;rintro e w5 ⟨rfl, rfl⟩;gi_wp2;go_roundw;(case rel => exact ⟨B + 1, B, f, by rw [show (((B + 1 : Nat) : Int) - 1) = (B : Int) from by omega], rfl, by have := HAT.out; omega, by have := HAT.out; omega, HMN.out hno, HF5, pre ++ [c], Lib.hid (by rw [<- HP.out, HST.out, if_neg hno]; simp), HJ5⟩);case measure =>
        have := HAT.out;have := HLT.out;simp only [intOf, Int.toNat_natCast];rw [dl_self];by_cases hla : (la : Int) - 1 = (i : Int)
        · omega
        · rw [dl_ne hla];omega
      · clear cx;gi_wp2;refine bodyPost_ret (results_none rfl _ _ _) rfl ?_;exact ⟨⟨_, rfl⟩, .inr ⟨_, trivial, hJx'⟩⟩
  ·
   (have hle : ¬ (i : Int) <= (T.length : Int) := by omega);have HEND := Lib.hid (show finF F T.length f la i = [] from by
    cases f with
    | zero => rfl
    | succ f => unfold finF; rw [first_end F (by omega)])
   clear hlt hla hi hmu HLO;gi_wp2;go_end0;have hp := HP.out;rw [HEND.out, List.append_nil] at hp;exact ⟨⟨_, rfl⟩, .inl (by rw [<- hp]; exact HJ.out)⟩
attribute [local go_sem] Oper.semAt_some
def flC (l : List Caps) : List Value := l.flatMap fun c => (CC c).toList
theorem flC_append (l m : List Caps) : flC (l ++ m) = flC l ++ flC m := by unfold flC; rw [List.flatMap_append]
theorem flC_one (c : Caps) : flC [c] = (CC c).toList := by simp [flC]
theorem infoC : (Tryz.prog.info? 27).map (fun i => (i.zero, i.size, i.bytes)) = some (some (.agg CZ), 10, 160) := by kernel_rfl
theorem boxed_one {W : World} {B : Nat} {t : TypeId} {v v' : Value} (h : Boxed W B t v) (h' : Boxed W B t v') : v = v' := by
 have := (show W.heap[B]? = _ from h).symm.trans h';simpa using this
structure Kc (n0 B : Nat) (W W' : World) : Prop where
 bel : Below n0 W W'
 row : ∀ v, Boxed W B 37 v -> (∀ k o, W.heap[k]? = some o -> o.isCells = true -> k ≠ B -> some k ≠ v.ownBlock -> W'.heap[k]? = some o) /\
  ∃ v', Boxed W' B 37 v' /\ ∀ g, v'.ownBlock = some g -> v.ownBlock = some g \/ (W.heap.size <= g /\ g < W'.heap.size)
theorem Kc.trans {n0 B : Nat} {X Y Z : World} (h : Kc n0 B X Y) (k : Kc n0 B Y Z) : Kc n0 B X Z := by
 refine ⟨h.bel.trans k.bel, fun v hv => ?_⟩;obtain ⟨h1, v', h2, h3⟩ := h.row v hv;obtain ⟨k1, v'', k2, k3⟩ := k.row v' h2;refine ⟨fun i o hi ho hB hn => k1 i o (h1 i o hi ho hB hn) ho hB (fun e => ?_), v'', k2, fun g hg => ?_⟩
 ·
  rcases h3 i e.symm with q | ⟨q, _⟩
  · exact hn q.symm
  · have := lt_heap' hi; omega
 ·
  rcases k3 g hg with q | ⟨q1, q2⟩
  ·
   rcases h3 g q with r | ⟨r1, r2⟩
   · exact .inl r
   · exact .inr ⟨r1, Nat.lt_of_lt_of_le r2 k.bel.size⟩
  · exact .inr ⟨Nat.le_trans h.bel.size q1, q2⟩
theorem Kc.of_below {n0 B : Nat} {W W' : World} (h0 : n0 <= W.heap.size) (h : Below W.heap.size W W') : Kc n0 B W W' :=
 ⟨h.mono h0, fun v hv => ⟨fun k o hk _ _ _ => (h.block k (lt_heap' hk)).trans hk, v, (h.block B hv.lt).trans hv, fun g hg => .inl hg⟩⟩
theorem Kc.putObj {n0 B : Nat} {w : World} (hn : n0 <= w.heap.size) (W : World) (l : Nat) (o o' : Obj) (hl : w.heap.size <= l) (h : W.heap[l]? = some o) (hc : o.isCells = false) (hw : o.isWalk = false) : Kc n0 B W (W.putObj l o') := by
 refine ⟨belowK_b hn W l o o' hl h hc hw, fun v hv => ⟨fun k x hk hx _ _ => ?_, v, ?_, fun g hg => .inl hg⟩⟩
 · (have hne : l ≠ k := by rintro rfl; rw [h] at hk; cases hk; rw [hc] at hx; cases hx);exact (World.putObj_heap_other (Ne.symm hne)).trans hk
 · (have hne : l ≠ B := by rintro rfl; rw [show W.heap[l]? = _ from hv] at h; cases h; cases hc);exact (World.putObj_heap_other (Ne.symm hne)).trans hv
structure Fc (w : World) (v : Value) (T : List UInt8) (W : World) : Prop where
 bel : Below w.heap.size w W
 t : Boxed W (w.heap.size + 1 + 1) 9 (S T)
 l : Boxed W (w.heap.size + 1) 22 v
 o : ∃ x, Boxed W w.heap.size 37 x /\ ∀ g, x.ownBlock = some g -> g < W.heap.size /\ g ≠ w.heap.size + 1 /\ g ≠ w.heap.size + 1 + 1
theorem Fc.below {w : World} {v : Value} {T : List UInt8} {W W' : World} (h : Fc w v T W) (hb : Below W.heap.size W W') : Fc w v T W' := by
 obtain ⟨x, h1, h2⟩ := h.o;exact ⟨h.bel.trans (hb.mono h.bel.size), (hb.block _ h.t.lt).trans h.t, (hb.block _ h.l.lt).trans h.l, x, (hb.block _ h1.lt).trans h1, fun g hg => ⟨Nat.lt_of_lt_of_le (h2 g hg).1 hb.size, (h2 g hg).2⟩⟩
theorem Fc.kept {w : World} {v : Value} {T : List UInt8} {W W' : World} (h : Fc w v T W) (hk : Kc w.heap.size w.heap.size W W') : Fc w v T W' := by
 obtain ⟨x, h1, h2⟩ := h.o;obtain ⟨k1, x', k2, k3⟩ := hk.row x h1;refine ⟨h.bel.trans hk.bel, k1 _ _ h.t rfl (by omega) (fun e => (h2 _ e.symm).2.2 rfl), k1 _ _ h.l rfl (by omega) (fun e => (h2 _ e.symm).2.1 rfl), x', k2, fun g hg => ?_⟩;rcases k3 g hg with q | ⟨q1, q2⟩
 · exact ⟨Nat.lt_of_lt_of_le (h2 g q).1 hk.bel.size, (h2 g q).2⟩
 · have := h.t.lt;exact ⟨q2, by omega, by omega⟩
theorem Fc.fresh {w : World} {v : Value} {T : List UInt8} {W W' : World} {cs : Array Value} (h : Fc w v T W) (hk : Kc w.heap.size w.heap.size (W.alloc (.cells cs 27)) W') : W'.heap[W.heap.size]? = some (.cells cs 27 (0, 0)) := by
 obtain ⟨x, h1, h2⟩ := h.o;refine (hk.row x (h1.alloc _)).1 _ _ (heap_alloc_new W _) rfl (by have := h1.lt; omega) (fun e => ?_);have := (h2 _ e.symm).1;omega
theorem boxed_from {β : Type} {B k : Nat} {t : TypeId} {v : Value} : OwnFrom B (fun (_ : β) W => Boxed W k t v) := fun s X Y row hv hg hr => hv.kept hg (fun e => by
 obtain ⟨_, o, ho, hc⟩ := hr k e.symm;rw [show X.heap[k]? = _ from hv] at ho;cases ho;cases hc)
theorem cells_from {β : Type} {B k : Nat} {cs : Array Value} {t : TypeId} : OwnFrom B (fun (_ : β) W => W.heap[k]? = some (.cells cs t (0, 0))) := fun s X Y row hv hg hr => (hg.block k (lt_heap' hv) (fun e => by
 obtain ⟨_, o, ho, hc⟩ := hr k e.symm;rw [hv] at ho;cases ho;cases hc)).trans hv
theorem fc_start (w : World) (v : Value) (T : List UInt8) : Fc w v T (((w.alloc (.cells #[.slice none 0 0] 37)).alloc (.cells #[v] 22)).alloc (.cells #[S T] 9)) := by
 have b0 := Boxed.new w 37 (.slice none 0 0);have b1 := Boxed.new (w.alloc (.cells #[.slice none 0 0] 37)) 22 v;have b2 := Boxed.new ((w.alloc (.cells #[.slice none 0 0] 37)).alloc (.cells #[v] 22)) 9 (S T);rw [World.size_alloc] at b1;rw [World.size_alloc, World.size_alloc] at b2;refine ⟨(((Below.refl _ w).alloc (Nat.le_refl _) _).alloc (by simp) _).alloc (by simp; omega) _, b2, b1.alloc _, .slice none 0 0, (b0.alloc _).alloc _, fun g hg => by cases hg⟩
theorem results_box {fn : Func} {p : Tmp} {ty : TypeId} (h : fn.results = #[.cell p ty]) {tmps : Array Value} {w : World} {B n cap : Nat} {ao : Option Addr} (hp : tmps.getD p undef = PT B) (hv : Boxed w B ty (.slice ao n cap)) (hty : ty = 37) :
  (results fn tmps).run Tryz.prog w = .ok (.slice ao n cap) w := by
 subst hty;have hc := hv.cell;(have hp' : tmps[p]?.getD undef = PT B := by simpa using hp);simp only [results, h];simp [hp', asAddr];go_simp
theorem kc_append {n0 B : Nat} {W w1 : World} {v v' : Value} {tmp : Obj} (hv : Boxed W B 37 v) (hgrow : (W.alloc tmp).grownBy w1 v.ownBlock) (hat : v'.ownBlock = v.ownBlock \/ v'.ownBlock = some (W.alloc tmp).heap.size)
  (hv2 : Boxed (w1.setCell ⟨B, 0, none⟩ v') B 37 v') (hbel : Below n0 W (w1.setCell ⟨B, 0, none⟩ v')) (hlt : ∀ g, v'.ownBlock = some g -> g < (w1.setCell ⟨B, 0, none⟩ v').heap.size) : Kc n0 B W (w1.setCell ⟨B, 0, none⟩ v') :=
 ⟨hbel, fun u hu => by
  obtain rfl := boxed_one hv hu;refine ⟨fun k o hk hc hB hn => ?_, v', hv2, fun g hg => ?_⟩
  · have hl := lt_heap' hk;exact (Below.heap_setCell w1 ⟨B, 0, none⟩ v' k hB).trans ((hgrow.block k (by simp; omega) hn).trans ((Below.heap_alloc W tmp k hl).trans hk))
  ·
   rcases hat with q | q
   · exact .inl (by rw [<- q]; exact hg)
   · rw [hg] at q;have e := Option.some.inj q;rw [World.size_alloc] at e;exact .inr ⟨by omega, hlt g hg⟩⟩
theorem own_lt {w : World} {B e n z : Nat} {v : Value} {xs : List Value} (h : w.ownsRow B e z v n xs) : ∀ g, v.ownBlock = some g -> g < w.heap.size := by
 intro g hg;rcases h.2 with ⟨rfl, _⟩ | ⟨g', cap, cur, rfl, _, hgb, _⟩
 · cases hg
 · (have : g' = g := by simpa [Value.ownBlock] using hg);subst this;exact lt_heap' hgb
theorem news_caps (W : World) (x : Caps) : ∀ j u, (CC x).toList[j]? = some u -> (W.alloc (.cells (CC x) 27)).cell? ((⟨W.heap.size, 0, none⟩ : Addr).add j) = some u := by
 intro j u hj;rw [Addr.add_lit, Lib.cell_of_heap (heap_alloc_new _ _), Nat.zero_add];simpa using hj
theorem ones_caps (x : Caps) : ∀ u ∈ (CC x).toList, u.oneCell' = true := fun u hu => by
 have h := cc_one x;rw [<- Array.all_toList, List.all_eq_true] at h;exact h u hu
theorem finds_any (ao : Option Addr) (nn cc : Nat) (T : List UInt8) (w : World) :
  Calls Tryz.prog 22 #[.slice ao nn cc, S T] w fun e w' => e = .returned (.func (.func 38) #[] #[PT (w.heap.size + 1), PT w.heap.size]) /\ w' = (w.alloc (.cells #[.slice ao nn cc] 22)).alloc (.cells #[S T] 9) := by
 go_enter Tryz.func22, Tryz.ntmps22;go_wp2;go_ret;exact ⟨by simp, rfl⟩
def AllAns (w : World) (l : List Caps) (e : Ending) (w' : World) : Prop := ∃ v, e = .returned v /\ w'.ownsRow w.heap.size 27 10 v l.length (flC l) /\ Below w.heap.size w w'
theorem all_in (hna : NoneOk) (ao : Option Addr) (nn cc : Nat) (T : List UInt8) (hT : T.length <= 100000) (F : Nat -> Option Caps) (hF : FOk T.length F) (w : World) (hlo : LongOk w (.slice ao nn cc) T F) :
  CallsIn Fence.wide 6 Tryz.prog 12 #[.slice ao nn cc, S T] w (AllAns w (allF F T.length)) := by
 obtain ⟨i0, hi, hz0, hz1, hz2⟩ := info_parts infoC;refine callsIn_of_wp_marks Tryz.func12 rfl trivial ?_ rfl;simp only [Tryz.ntmps12, List.size_toArray, List.length_cons, List.length_nil, Nat.reduceAdd, Nat.reduceSub, Array.replicate_succ, Array.replicate_zero, List.push_toArray, List.append_toArray, List.nil_append, List.cons_append];have HLO := Lib.hid hlo;have HF := Lib.hid hF;have HT := Lib.hid hT;clear hlo hF hT;gi_wp2;refine ⟨trivial, ?_⟩;refine (callsIn_wide.2 (finds_any ao nn cc T _)).mono ?_;rintro e w2 ⟨rfl, hw2⟩;gi_wp2;have HFc := Lib.hid (fc_start w (.slice ao nn cc) T);rw [<- hw2] at HFc ⊢;have HSZ := Lib.hid (show w2.heap.size = w.heap.size + 1 + 1 + 1 from by rw [hw2]; simp);have HB0 := Lib.hid (show Boxed w2 w.heap.size 37 (.slice none 0 0) from by rw [hw2]; exact ((Boxed.new w 37 (.slice none 0 0)).alloc _).alloc _);clear hw2;refine wpIn_rangeFunc_ownH rfl (by omega) (gf := 38) (lb := #[PT (w.heap.size + 1 + 1), PT (w.heap.size + 1)]) rfl trivial (enters_of Tryz.func38 (by kernel_rfl) rfl)
  (finds_stops hna 5 (by omega) ao nn cc T HT.out F HF.out (w.heap.size + 1 + 1) (w.heap.size + 1) w2 (Kc w.heap.size w.heap.size) (Fc w (.slice ao nn cc) T) (fun W hW => HFc.out.below hW) (fun W W' h hb => h.below hb) (fun W W' hk h => h.kept hk) (fun W h => ⟨HLO.out.below h.bel, h.t, h.l⟩) (fun W cs W' h hk => h.fresh hk))
  (fun h k => h.trans k) (Kc.putObj (w := w2) (by rw [HSZ.out]; omega)) (Below.refl _ _) (fun _ => rfl)
  (fun (pre : List Caps) W => (∃ x, Boxed W w.heap.size 37 x /\ W.ownsRow w.heap.size 27 10 x pre.length (flC pre) /\ True) /\ Below w.heap.size w W /\ Boxed W (w.heap.size + 1 + 1) 9 (S T) /\ Boxed W (w.heap.size + 1) 22 (.slice ao nn cc))
  (fun _ _ _ => False)
  (OwnFrom.and (Own.from (holdsRow_own w.heap.size w.heap.size 37 27 10 (fun (pre : List Caps) => pre.length) flC (fun (pre : List Caps) v => True)) _) (OwnFrom.and (ownFrom_below (Nat.le_refl _) (by rw [HSZ.out]; omega)) (OwnFrom.and boxed_from boxed_from)))
  (fun _ _ _ _ _ hs _ _ => hs)
  ⟨⟨_, HB0.out, World.ownsRow_nil _ _ _ _, trivial⟩, HFc.out.bel, HFc.out.t, HFc.out.l⟩
  (fun x a' W => ∃ b, a' = { tmps := #[.slice ao nn cc, S T, undef, undef, .pointer (some ⟨w.heap.size, 0, none⟩), PT b, .slice ao nn cc, S T, .func (.func 38) #[] #[PT (w.heap.size + 1 + 1), PT (w.heap.size + 1)], CV x, undef, undef, undef, undef, undef], defers := [] } /\ CB W b x)
  (fun x a' s X Y row ⟨b, e, hb⟩ hg hr => ⟨b, e, cells_from s X Y row hb hg hr⟩)
  ?assign ?body ?done ?stop
 case assign =>
  intro l pre x W K hI hK;have hII := hI
  gi_wp2_with (refine inStore_row rfl 27 (.tmp 5) (.tmp 9) rfl _ (CC x) rfl rfl _ CZ (heap_alloc_new _ _) (by kernel_rfl) rfl (cc_one x) ?_; simp only [Act.put, List.setIfInBounds_toArray, List.set_cons_zero, List.set_cons_succ]; rw [box_laid])
  refine hK _ _ ((KeepsOthers.alloc W _).from _) (Kc.of_below hI.2.1.size ((Below.refl _ W).alloc (Nat.le_refl _) _)) ?_ ⟨W.heap.size, rfl, heap_alloc_new _ _⟩;obtain ⟨⟨y, y1, y2, y3⟩, y4, y5, y6⟩ := hI;exact ⟨⟨y, y1.alloc _, y2.alloc _, trivial⟩, y4.trans (((Below.refl _ W).alloc (Nat.le_refl _) _).mono y4.size), y5.alloc _, y6.alloc _⟩
 case body =>
  rintro l pre x a' W hlD _ ⟨⟨v, hv, hrow, _⟩, hB, ht, hl⟩ ⟨b, rfl, hb⟩ hlt;have hc := hv.cell;have hN := HT.out
  gi_wp2_with (first
   | (refine inLoad_row rfl 27 (.tmp 5) rfl b rfl _ (CC x) (0, 0) _ hb Tryz.underlying27 rfl (by kernel_rfl) ?_; simp only [Act.put, List.setIfInBounds_toArray, List.set_cons_zero, List.set_cons_succ])
   | (gi_at_builtin; refine wpListIn_append_own_at _ rfl _ _ 37 rfl w.heap.size 27 i0 (.agg CZ) 10 160 Tryz.underlying37 hi hz0 hz1 hz2 rfl (by decide) _ _ _ rfl (hrow.alloc _) ⟨W.heap.size, 0, none⟩ 1 1 (CC x).toList rfl rfl (news_caps W x) (ones_caps x) (by unfold maxLen; omega) (by omega) (by have := hB.size; simp; omega) ?_; intro v' w1 hown' hgrow _ hat; obtain ⟨g', cap', rfl⟩ := ownsRow_succ hown'; obtain ⟨hv1, hv2, hr2, hk2, hb2⟩ := hv.appended (by decide) hrow hB.size (Nat.le_refl _) hown' hgrow; have hc1 := hv1.cell; have hf1 := hv1.frozen))
  have HK := kc_append hv hgrow hat hv2 hb2 (own_lt hr2);refine ⟨hk2.from _, HK, ⟨_, hv2, by simpa [flC_append, flC_one] using hr2⟩, hB.trans hb2, (HK.row _ hv).1 _ _ ht rfl (by omega) (ht.not_row (by decide) hrow), (HK.row _ hv).1 _ _ hl rfl (by omega) (hl.not_row (by decide) hrow)⟩
 case done =>
  rintro D ys W hD rfl ⟨⟨v, hv, hrow, _⟩, hB, ht, hl⟩ hK;(have hDB : D ≠ w.heap.size := by have := HSZ.out; omega);obtain ⟨ao', n', c', rfl⟩ : ∃ ao' n' c', v = .slice ao' n' c' := by
   rcases own_forms hrow with ⟨rfl, _⟩ | ⟨g, cap, rfl, _⟩
   · exact ⟨_, _, _, rfl⟩
   · exact ⟨_, _, _, rfl⟩
  have hc := hv.cell;have hf := hv.frozen;gi_wp2;have hK2 := (Below.heap_setCell W ⟨w.heap.size, 0, none⟩ (.slice ao' n' c') D hDB).trans hK;have hv2 := hv.set (.slice ao' n' c');have hr2 := hrow.kept (grownBy_setCell' W w.heap.size (.slice ao' n' c')) (.inr (hv.not_row (by decide) hrow).symm);have hB2 : Below w.heap.size w (W.setCell ⟨w.heap.size, 0, none⟩ (.slice ao' n' c')) := hB.setCell (Nat.le_refl _) _;refine ⟨by simp, .inl ⟨_, _, rfl, run_takeDeferred hK2, ?_⟩⟩;exact ⟨_, results_box rfl rfl ((World.putObj_heap_other (Ne.symm hDB)).trans hv2) rfl, _, rfl, ownsRow_putObj hr2 _ hK2 rfl, hB2.trans (belowK_b (w := w) (Nat.le_refl _) _ D _ _ (by have := HSZ.out; omega) hK2 rfl rfl)⟩
 case stop =>
  rintro D c pre W _ _ h _;exact h.elim
theorem all_any (hna : NoneOk) (ao : Option Addr) (nn cc : Nat) (T : List UInt8) (hT : T.length <= 100000) (F : Nat -> Option Caps) (hF : FOk T.length F) (w : World) (hlo : LongOk w (.slice ao nn cc) T F) :
  Calls Tryz.prog 12 #[.slice ao nn cc, S T] w (AllAns w (allF F T.length)) :=
 callsIn_wide.1 (all_in hna ao nn cc T hT F hF w hlo)
theorem flC_cons (c : Caps) (l : List Caps) : flC (c :: l) = (CC c).toList ++ flC l := by unfold flC; rw [List.flatMap_cons]
theorem flC_get : ∀ (l : List Caps) (i : Nat) (h : i < l.length) (r : Nat), r < 10 -> (flC l)[i * 10 + r]? = (CC l[i])[r]?
 | [], i, h, r, hr => by simp at h
 | c :: l, 0, h, r, hr => by
  rw [flC_cons, List.getElem?_append_left (by simp; omega)];simp
 | c :: l, i + 1, h, r, hr => by
  rw [flC_cons, List.getElem?_append_right (by simp; omega), show (i + 1) * 10 + r - (CC c).toList.length = i * 10 + r from by simp; omega];rw [flC_get l i (by simpa using h) r hr];simp
def CsIn (w : World) (ae : Option Addr) (l : List Caps) : Prop := ∀ i (hi : i < l.length), ∃ g, ae = some ⟨g, 0, none⟩ /\ w.cell? ⟨g, i * 10, none⟩ = some (capV (gr l[i] 0)) /\ w.rangeAt g (i * 10) (CC l[i]).toList
theorem caps_form {w : World} {B : Nat} {v : Value} {l : List Caps} (h : w.ownsRow B 27 10 v l.length (flC l)) : ∃ ae cap, v = .slice ae l.length cap /\ l.length <= cap /\ CsIn w ae l := by
 rcases own_forms h with ⟨rfl, h0⟩ | ⟨g, cap, rfl, hc⟩
 · exact ⟨none, 0, by rw [h0], by omega, fun i hi => by omega⟩
 ·
  have hcell : ∀ i (hi : i < l.length) r, r < 10 -> w.cell? ⟨g, i * 10 + r, none⟩ = (CC l[i])[r]? := fun i hi r hr => by
   rw [h.cellAt (i * 10 + r) (by omega), flC_get l i hi r hr]
  refine ⟨_, cap, rfl, hc, fun i hi => ⟨g, rfl, ?_, fun j u hj => ?_⟩⟩
  · have := hcell i hi 0 (by omega);rw [Nat.add_zero] at this;rw [this];simp
  ·
   have hl : j < 10 := by
    have := (List.getElem?_eq_some_iff.1 hj).1;simpa using this
   rw [hcell i hi j hl];simpa using hj
theorem CsIn.below {w w' : World} {ae : Option Addr} {l : List Caps} (h : CsIn w ae l) (hb : Below w.heap.size w w') : CsIn w' ae l := fun i hi => by
 obtain ⟨g, h1, h2, h3⟩ := h i hi;exact ⟨g, h1, (hb.cell (lt_cell h2)).trans h2, fun j u hj => (hb.cell (lt_cell (h3 j u hj))).trans (h3 j u hj)⟩
open Rx.Tr
open St (Wf word mem SV SV_eq)
structure WF (X : Par) (pr : Nat -> Prop) (w wr : World) : Prop where
 mm : MM X pr wr
 rs : wr.heap[w.heap.size]? = some (.cells CZ 27 (0, 0))
 km : Km X w wr
 base : X.w0.heap.size <= w.heap.size
section
variable {X : Par} {pr : Nat -> Prop} {w wr w' : World}
theorem wf_start (hM : MM X pr w) : WF X pr w (w.alloc (.cells CZ 27)) :=
 have hb := (Below.refl w.heap.size w).alloc (Nat.le_refl _) (.cells CZ 27)
 ⟨hM.below hb, heap_alloc_new _ _, Km.of_below hb, hM.bel.size⟩
theorem WF.call (h : WF X pr w wr) (hm : MM X pr w') (hk : Km X wr w') : WF X pr w w' := ⟨hm, mm_keep h.mm hk h.rs, h.km.trans hk, h.base⟩
theorem WF.below (h : WF X pr w wr) (hb : Below wr.heap.size wr w') : WF X pr w w' := h.call (h.mm.below hb) (Km.of_below hb)
theorem WF.zero (h : WF X pr w wr) : WF X pr w (wr.alloc (.cells CZ 27)) /\ (wr.alloc (.cells CZ 27)).heap[wr.heap.size]? = some (.cells CZ 27 (0, 0)) /\ w.heap.size < wr.heap.size :=
 ⟨h.below ((Below.refl _ _).alloc (Nat.le_refl _) _), heap_alloc_new _ _, lt_heap' h.rs⟩
theorem WF.other (h : WF X pr w wr) {g : Nat} {cs : Array Value} {t : TypeId} {fr : Nat × Nat} (ht1 : t ≠ 4) (ht2 : t ≠ 99) (hg : wr.heap[g]? = some (.cells cs t fr)) (hlt : w.heap.size < g) (hs : wr.heap.size <= w'.heap.size) (hk : ∀ k, k < wr.heap.size -> k ≠ g -> w'.heap[k]? = wr.heap[k]?) (hb : Below X.w0.heap.size wr w') : WF X pr w w' :=
 ⟨h.mm.other ht1 ht2 hg hs hk (h.mm.bel.trans hb), (hk _ (lt_heap' h.rs) (by omega)).trans h.rs, ⟨Nat.le_trans h.km.size hs, fun k h1 h2 h3 => (hk k (Nat.lt_of_lt_of_le h1 h.km.size) (by omega)).trans (h.km.keep k h1 h2 h3)⟩, h.base⟩
theorem WF.fill (h : WF X pr w wr) {gx : Nat} (hg : wr.heap[gx]? = some (.cells CZ 27 (0, 0))) (hlt : w.heap.size < gx) (x : Caps) : WF X pr w (wr.setRow gx (CC x)) /\ CB (wr.setRow gx (CC x)) gx x :=
 ⟨h.other (by decide) (by decide) hg hlt (by simp) (fun q _ hq => setRow_other _ _ _ _ hq) (below_setRow (Below.refl _ _) (by have := h.base; omega) _), setRow_heap _ _ _ _ _ _ hg⟩
theorem WF.putc (h : WF X pr w wr) {g : Nat} {a : Caps} (hg : CB wr g a) (ha : a.length = 10) (hlt : w.heap.size < g) {n : Nat} (hn : n < 10) (x : Cap) : WF X pr w (wr.setCell ⟨g, n, none⟩ (capV x)) /\ CB (wr.setCell ⟨g, n, none⟩ (capV x)) g (a.set n x) := by
 refine ⟨h.other (by decide) (by decide) hg hlt (by simp) (fun k _ hk => Below.heap_setCell wr ⟨g, n, none⟩ _ k hk) ((Below.refl _ _).setCell (by show X.w0.heap.size <= g; have := h.base; omega) _), ?_⟩;have := Go.Joins.block_setCell hg (i := n) (capV x);rw [cc_set ha hn] at this;exact this
theorem WF.kept (h : WF X pr w wr) {gx : Nat} {cs : Array Value} {t : TypeId} {fr : Nat × Nat} (hg : wr.heap[gx]? = some (.cells cs t fr)) (hk : Km X wr w') : w'.heap[gx]? = some (.cells cs t fr) := mm_keep h.mm hk hg
theorem WF.ret (h : WF X pr w wr) (a : Caps) : (wr.setRow w.heap.size (CC a)).heap[w.heap.size]? = some (.cells (CC a) 27 (0, 0)) /\ MM X pr (wr.setRow w.heap.size (CC a)) /\ Km X w (wr.setRow w.heap.size (CC a)) := by
 (have hk : ∀ k, k < wr.heap.size -> k ≠ w.heap.size -> (wr.setRow w.heap.size (CC a)).heap[k]? = wr.heap[k]? := fun k _ hk => setRow_other _ _ _ _ hk);exact ⟨setRow_heap _ _ _ _ _ _ h.rs, h.mm.other (by decide) (by decide) h.rs (by simp) hk (h.mm.bel.trans (below_setRow (Below.refl _ _) h.base _)), ⟨by simpa using h.km.size, fun k h1 h2 h3 => (hk k (Nat.lt_of_lt_of_le h1 h.km.size) (by omega)).trans (h.km.keep k h1 h2 h3)⟩⟩
end
def WS (X : Par) (w' : World) : Prop := w'.heap[X.bm]? = some (.cells #[X.v, S X.T, .bool X.refs, .map (some X.b1), .map (some X.b2)] 99 (0, 0))
theorem whole_any (X : Par) (hX : X.Ok) (pr : Nat -> Prop) (i j : Nat) (hij : i <= j) (hj : j <= X.N) (w : World) (hM : MM X pr w) (nb no cap : Nat) (hv : X.v = .slice (some ⟨nb, no, none⟩) X.l.length cap) (hn : 0 < X.l.length) (hn2 : X.l.length <= 1000) (hfw : FitOk X X.t (X.l.length - 1)) (R : Option Caps) (hR : R = wholeP X.T X.t i j) :
  Calls Tryz.prog 32 #[PT X.bm, E (i : Nat), E (j : Nat)] w fun e w' => e = .returned (ansC R) /\ MM X pr w' /\ Km X w w' := by
 have HF := Hd hfw;have HRR := Hd hR;have HIJ := Hd (An hij hj);have HS := Hd (wf_start hM);have hlen := hX.len;have hof := (fun W => of_cap hij (by omega : j <= 999999999) W);obtain ⟨cxa, cxb, hcx⟩ : ∃ p q, capV (some (i, j)) = .complex .f64 p q := ⟨_, _, rfl⟩;rw [hcx] at hof;have HCX := Hd hcx;have HOF := Hd hof;obtain ⟨n1, hn1⟩ : ∃ n1, X.l.length - 1 = n1 := ⟨_, rfl⟩;(have hwn : IntKind.i64.wrap ((X.l.length : Int) - 1) = (n1 : Int) := by rw [IntKind.wrap_i64]; omega);rw [hn1] at HF;have HNA := Hd (fun W => none_any W);have hc0 := hM.facts.1;rw [hv] at hc0;have HV := Hd hv;clear hR hij hj hM hlen hof hcx hn1 hX hn hn2 hc0 hfw;go_enter Tryz.func32, Tryz.ntmps32;go_wp2;have HD := Hd (HS.out.below (Below.refl _ _).drew);(refine Tk.g (fun w' => WS X w') (by exact HD.out.mm.hb) fun hH => ?_);clear HS;generalize World.drew _ = W2 at HD hH ⊢;refine Tk.t 0 ?_;refine Tk.t 1 ?_;refine Tk.t 2 ?_;refine Tk.t 3 ?_;refine Tk.t 4 (hy := by (intro wv hSw; (try dsimp only at hSw); obtain ⟨p0, p1, p2, p3, p4⟩ := mm_cells hSw; rw [HV.out] at p0; go_simp) <;> with_reducible rfl) ?_;refine Tk.t 5 ?_;refine Tk.t 6 ?_;refine Tk.t 7 ?_;refine Tk.t 8 ?_;cases hf : fitP X.T X.t i j nones with
 | none =>
  refine Tk.y 9 14 (fun K hK => ?st9_1) (fun K hK => ?st14_1);case st9_1 =>
   go_simp
   (go_at_call 19; refine (HNA.out _).mono ?_; rintro e w1 ⟨rfl, hb⟩; have HX1_9 := Hd (HD.out.below hb); clear hb)
   have hws := HX1_9.out.mm.hb;(refine hK.out _ _ (by exact hws) fun hH => Tk.w ?_);clear hws;clear hK K;refine Tk.y 10 14 (fun K hK => ?st10_2) (fun K hK => ?st14_2);case st10_2 =>
    go_simp
    (go_at_call 54; have hq := HF.out _ i j nones _ HIJ.out.1 HIJ.out.2 (caps_none _) HX1_9.out.mm; refine hq.mono ?_; clear hq; rintro e w2 ⟨a1, b1, rfl, hl, hm, hk⟩; rw [hf] at hl; obtain ⟨hca, hb1⟩ := hl; subst hb1; have HCA := Hd hca; have HX2_10 := Hd (HX1_9.out.call hm hk); clear hca hm hk)
    have hws := HX2_10.out.mm.hb;(refine hK.out _ _ (by exact hws) fun hH => Tk.w ?_);clear hws;clear hK K;refine Tk.t 11 ?_;refine Tk.t 12 ?_;refine Tk.t 13 ?_;refine Tk.o 14 (fun K hK => ?st14_3);case st14_3 =>
     go_simp;obtain ⟨f1, f2, f3⟩ := HX2_10.out.zero;have HX3_14 := Hd f1;have HZ := Hd (An f2 f3);clear f1 f2 f3;have hws := HX3_14.out.mm.hb;(refine hK.out _ _ (by exact hws) fun hH => Tk.w ?_);clear hws;clear hK K;generalize World.alloc _ _ = V3 at HX3_14 HZ hH ⊢;refine Tk.o 15 (fun K hK => ?_);refine ssM 8 22 a1 HZ.out.1 ?_;obtain ⟨f1, f2⟩ := HX3_14.out.fill HZ.out.1 HZ.out.2 a1;have HX4 := Hd f1;have HB := Hd (An f2 HZ.out.2);clear f1 f2 HZ HX3_14;generalize World.setRow _ _ _ = W5 at HX4 HB ⊢;have hws := HX4.out.mm.hb;(refine hK.out _ _ (by exact hws) fun hH => Tk.w ?_);clear hws;clear hK K;refine Tk.t 16 ?_;refine Tk.d ?_;clear hH;go_wp2_with (first
      | (go_at_call 19; refine (HNA.out _).mono ?_; rintro e w3 ⟨rfl, hb⟩; have HE := Hd (HX4.out.below hb); clear hb)
      | (refine stM 6 26 nones HE.out.rs ?_; obtain ⟨r1, r2, r3⟩ := HE.out.ret nones; have HR := Hd (An r1 (An r2 r3)); clear r1 r2 r3 HE; generalize World.setRow _ _ _ = W9 at HR ⊢))
     refine bodyPost_ret (res_caps rfl rfl HR.out.1 rfl) rfl ?_;refine ⟨?_, HR.out.2.1, HR.out.2.2⟩;rw [HRR.out, wholeP, hf];rfl
   case st14_2 =>
    go_simp;obtain ⟨f1, f2, f3⟩ := HX1_9.out.zero;have HX2_14 := Hd f1;have HZ := Hd (An f2 f3);clear f1 f2 f3;have hws := HX2_14.out.mm.hb;(refine hK.out _ _ (by exact hws) fun hH => Tk.w ?_);clear hws;clear hK K;generalize World.alloc _ _ = V2 at HX2_14 HZ hH ⊢;refine Tk.o 10 (fun K hK => ?st10_5);case st10_5 =>
     go_simp
     (go_at_call 54; have hq := HF.out _ i j nones _ HIJ.out.1 HIJ.out.2 (caps_none _) HX2_14.out.mm; refine hq.mono ?_; clear hq; rintro e w5 ⟨a1, b1, rfl, hl, hm, hk⟩; rw [hf] at hl; obtain ⟨hca, hb1⟩ := hl; subst hb1; have HCA := Hd hca; have HX5_10 := Hd (HX2_14.out.call hm hk); have hzz := HX2_14.out.kept HZ.out.1 hk; have hz2 := HZ.out.2; clear HZ; have HZ := Hd (An hzz hz2); clear hzz hz2; clear hca hm hk)
     have hws := HX5_10.out.mm.hb;(refine hK.out _ _ (by exact hws) fun hH => Tk.w ?_);clear hws;clear hK K;refine Tk.t 11 ?_;refine Tk.t 12 ?_;refine Tk.t 13 ?_;refine Tk.o 15 (fun K hK => ?_);refine ssM 8 22 a1 HZ.out.1 ?_;obtain ⟨f1, f2⟩ := HX5_10.out.fill HZ.out.1 HZ.out.2 a1;have HX6 := Hd f1;have HB := Hd (An f2 HZ.out.2);clear f1 f2 HZ HX5_10;generalize World.setRow _ _ _ = W5 at HX6 HB ⊢;have hws := HX6.out.mm.hb;(refine hK.out _ _ (by exact hws) fun hH => Tk.w ?_);clear hws;clear hK K;refine Tk.t 16 ?_;refine Tk.d ?_;clear hH;go_wp2_with (first
      | (go_at_call 19; refine (HNA.out _).mono ?_; rintro e w3 ⟨rfl, hb⟩; have HE := Hd (HX6.out.below hb); clear hb)
      | (refine stM 6 26 nones HE.out.rs ?_; obtain ⟨r1, r2, r3⟩ := HE.out.ret nones; have HR := Hd (An r1 (An r2 r3)); clear r1 r2 r3 HE; generalize World.setRow _ _ _ = W9 at HR ⊢))
     refine bodyPost_ret (res_caps rfl rfl HR.out.1 rfl) rfl ?_;refine ⟨?_, HR.out.2.1, HR.out.2.2⟩;rw [HRR.out, wholeP, hf];rfl
  case st14_1 =>
   go_simp;obtain ⟨f1, f2, f3⟩ := HD.out.zero;have HX1_14 := Hd f1;have HZ := Hd (An f2 f3);clear f1 f2 f3;have hws := HX1_14.out.mm.hb;(refine hK.out _ _ (by exact hws) fun hH => Tk.w ?_);clear hws;clear hK K;generalize World.alloc _ _ = V1 at HX1_14 HZ hH ⊢;refine Tk.o 9 (fun K hK => ?st9_7);case st9_7 =>
    go_simp
    (go_at_call 19; refine (HNA.out _).mono ?_; rintro e w7 ⟨rfl, hb⟩; have HX7_9 := Hd (HX1_14.out.below hb); have hzz := (hb.block _ (lt_heap' HZ.out.1)).trans HZ.out.1; have hz2 := HZ.out.2; clear HZ; have HZ := Hd (An hzz hz2); clear hzz hz2; clear hb)
    have hws := HX7_9.out.mm.hb;(refine hK.out _ _ (by exact hws) fun hH => Tk.w ?_);clear hws;clear hK K;refine Tk.o 10 (fun K hK => ?st10_8);case st10_8 =>
     go_simp
     (go_at_call 54; have hq := HF.out _ i j nones _ HIJ.out.1 HIJ.out.2 (caps_none _) HX7_9.out.mm; refine hq.mono ?_; clear hq; rintro e w8 ⟨a1, b1, rfl, hl, hm, hk⟩; rw [hf] at hl; obtain ⟨hca, hb1⟩ := hl; subst hb1; have HCA := Hd hca; have HX8_10 := Hd (HX7_9.out.call hm hk); have hzz := HX7_9.out.kept HZ.out.1 hk; have hz2 := HZ.out.2; clear HZ; have HZ := Hd (An hzz hz2); clear hzz hz2; clear hca hm hk)
     have hws := HX8_10.out.mm.hb;(refine hK.out _ _ (by exact hws) fun hH => Tk.w ?_);clear hws;clear hK K;refine Tk.t 11 ?_;refine Tk.t 12 ?_;refine Tk.t 13 ?_;refine Tk.o 15 (fun K hK => ?_);refine ssM 8 22 a1 HZ.out.1 ?_;obtain ⟨f1, f2⟩ := HX8_10.out.fill HZ.out.1 HZ.out.2 a1;have HX9 := Hd f1;have HB := Hd (An f2 HZ.out.2);clear f1 f2 HZ HX8_10;generalize World.setRow _ _ _ = W5 at HX9 HB ⊢;have hws := HX9.out.mm.hb;(refine hK.out _ _ (by exact hws) fun hH => Tk.w ?_);clear hws;clear hK K;refine Tk.t 16 ?_;refine Tk.d ?_;clear hH;go_wp2_with (first
      | (go_at_call 19; refine (HNA.out _).mono ?_; rintro e w3 ⟨rfl, hb⟩; have HE := Hd (HX9.out.below hb); clear hb)
      | (refine stM 6 26 nones HE.out.rs ?_; obtain ⟨r1, r2, r3⟩ := HE.out.ret nones; have HR := Hd (An r1 (An r2 r3)); clear r1 r2 r3 HE; generalize World.setRow _ _ _ = W9 at HR ⊢))
     refine bodyPost_ret (res_caps rfl rfl HR.out.1 rfl) rfl ?_;refine ⟨?_, HR.out.2.1, HR.out.2.2⟩;rw [HRR.out, wholeP, hf];rfl
 | some a0 =>
  refine Tk.y 9 14 (fun K hK => ?st9_10) (fun K hK => ?st14_10);case st9_10 =>
   go_simp
   (go_at_call 19; refine (HNA.out _).mono ?_; rintro e w10 ⟨rfl, hb⟩; have HX10_9 := Hd (HD.out.below hb); clear hb)
   have hws := HX10_9.out.mm.hb;(refine hK.out _ _ (by exact hws) fun hH => Tk.w ?_);clear hws;clear hK K;refine Tk.y 10 14 (fun K hK => ?st10_11) (fun K hK => ?st14_11);case st10_11 =>
    go_simp
    (go_at_call 54; have hq := HF.out _ i j nones _ HIJ.out.1 HIJ.out.2 (caps_none _) HX10_9.out.mm; refine hq.mono ?_; clear hq; rintro e w11 ⟨a1, b1, rfl, hl, hm, hk⟩; rw [hf] at hl; obtain ⟨hca, hb1, ha1⟩ := hl; subst hb1; subst ha1; have HCA := Hd hca; have HX11_10 := Hd (HX10_9.out.call hm hk); clear hca hm hk)
    have hws := HX11_10.out.mm.hb;(refine hK.out _ _ (by exact hws) fun hH => Tk.w ?_);clear hws;clear hK K;refine Tk.t 11 ?_;refine Tk.t 12 ?_;refine Tk.t 13 ?_;refine Tk.o 14 (fun K hK => ?st14_12);case st14_12 =>
     go_simp;obtain ⟨f1, f2, f3⟩ := HX11_10.out.zero;have HX12_14 := Hd f1;have HZ := Hd (An f2 f3);clear f1 f2 f3;have hws := HX12_14.out.mm.hb;(refine hK.out _ _ (by exact hws) fun hH => Tk.w ?_);clear hws;clear hK K;generalize World.alloc _ _ = V12 at HX12_14 HZ hH ⊢;refine Tk.o 15 (fun K hK => ?_);refine ssM 8 22 a1 HZ.out.1 ?_;obtain ⟨f1, f2⟩ := HX12_14.out.fill HZ.out.1 HZ.out.2 a1;have HX13 := Hd f1;have HB := Hd (An f2 HZ.out.2);clear f1 f2 HZ HX12_14;generalize World.setRow _ _ _ = W5 at HX13 HB ⊢;have hws := HX13.out.mm.hb;(refine hK.out _ _ (by exact hws) fun hH => Tk.w ?_);clear hws;clear hK K;refine Tk.t 16 ?_;refine Tk.d ?_;clear hH;have HG := Hd HB.out.2;have hcl := cap_cell HB.out.1 (n := 0) (by decide);(have hfz : W5.frozen? ⟨w11.heap.size, 0, none⟩ = false := by simp [World.frozen?, HB.out.1]);have hst := store_complex Tryz.prog W5 (w11.heap.size) 0 cxa cxb hcl hfz;obtain ⟨hp1, hp2⟩ := HX13.out.putc HB.out.1 HCA.out.len HG.out (n := 0) (by decide) (some (i, j));obtain ⟨a2, ha2⟩ : ∃ a2, a2 = a1.set 0 (some (i, j)) := ⟨_, rfl⟩;rw [<- ha2] at hp2;rw [HCX.out] at hp1 hp2;have HA2 := Hd ha2;have HS5 := Hd hp1;have HB5 := Hd hp2;clear hp1 hp2 ha2 HX13 HB;go_wp2_with (first
      | (go_at_call 55; refine (HOF.out W5).mono ?_; rintro e w6 ⟨rfl, rfl⟩)
      | (refine ldM 8 HB5.out ?_)
      | (refine stM 6 34 a2 HS5.out.rs ?_; obtain ⟨r1, r2, r3⟩ := HS5.out.ret a2; have HR := Hd (An r1 (An r2 r3)); clear r1 r2 r3 HS5; generalize World.setRow _ _ _ = W9 at HR ⊢))
     refine bodyPost_ret (res_caps rfl rfl HR.out.1 rfl) rfl ?_;refine ⟨?_, HR.out.2.1, HR.out.2.2⟩;rw [HRR.out, wholeP, hf, HA2.out];rfl
   case st14_11 =>
    go_simp;obtain ⟨f1, f2, f3⟩ := HX10_9.out.zero;have HX11_14 := Hd f1;have HZ := Hd (An f2 f3);clear f1 f2 f3;have hws := HX11_14.out.mm.hb;(refine hK.out _ _ (by exact hws) fun hH => Tk.w ?_);clear hws;clear hK K;generalize World.alloc _ _ = V11 at HX11_14 HZ hH ⊢;refine Tk.o 10 (fun K hK => ?st10_14);case st10_14 =>
     go_simp
     (go_at_call 54; have hq := HF.out _ i j nones _ HIJ.out.1 HIJ.out.2 (caps_none _) HX11_14.out.mm; refine hq.mono ?_; clear hq; rintro e w14 ⟨a1, b1, rfl, hl, hm, hk⟩; rw [hf] at hl; obtain ⟨hca, hb1, ha1⟩ := hl; subst hb1; subst ha1; have HCA := Hd hca; have HX14_10 := Hd (HX11_14.out.call hm hk); have hzz := HX11_14.out.kept HZ.out.1 hk; have hz2 := HZ.out.2; clear HZ; have HZ := Hd (An hzz hz2); clear hzz hz2; clear hca hm hk)
     have hws := HX14_10.out.mm.hb;(refine hK.out _ _ (by exact hws) fun hH => Tk.w ?_);clear hws;clear hK K;refine Tk.t 11 ?_;refine Tk.t 12 ?_;refine Tk.t 13 ?_;refine Tk.o 15 (fun K hK => ?_);refine ssM 8 22 a1 HZ.out.1 ?_;obtain ⟨f1, f2⟩ := HX14_10.out.fill HZ.out.1 HZ.out.2 a1;have HX15 := Hd f1;have HB := Hd (An f2 HZ.out.2);clear f1 f2 HZ HX14_10;generalize World.setRow _ _ _ = W5 at HX15 HB ⊢;have hws := HX15.out.mm.hb;(refine hK.out _ _ (by exact hws) fun hH => Tk.w ?_);clear hws;clear hK K;refine Tk.t 16 ?_;refine Tk.d ?_;clear hH;have HG := Hd HB.out.2;have hcl := cap_cell HB.out.1 (n := 0) (by decide);(have hfz : W5.frozen? ⟨w10.heap.size, 0, none⟩ = false := by simp [World.frozen?, HB.out.1]);have hst := store_complex Tryz.prog W5 (w10.heap.size) 0 cxa cxb hcl hfz;obtain ⟨hp1, hp2⟩ := HX15.out.putc HB.out.1 HCA.out.len HG.out (n := 0) (by decide) (some (i, j));obtain ⟨a2, ha2⟩ : ∃ a2, a2 = a1.set 0 (some (i, j)) := ⟨_, rfl⟩;rw [<- ha2] at hp2;rw [HCX.out] at hp1 hp2;have HA2 := Hd ha2;have HS5 := Hd hp1;have HB5 := Hd hp2;clear hp1 hp2 ha2 HX15 HB;go_wp2_with (first
      | (go_at_call 55; refine (HOF.out W5).mono ?_; rintro e w6 ⟨rfl, rfl⟩)
      | (refine ldM 8 HB5.out ?_)
      | (refine stM 6 34 a2 HS5.out.rs ?_; obtain ⟨r1, r2, r3⟩ := HS5.out.ret a2; have HR := Hd (An r1 (An r2 r3)); clear r1 r2 r3 HS5; generalize World.setRow _ _ _ = W9 at HR ⊢))
     refine bodyPost_ret (res_caps rfl rfl HR.out.1 rfl) rfl ?_;refine ⟨?_, HR.out.2.1, HR.out.2.2⟩;rw [HRR.out, wholeP, hf, HA2.out];rfl
  case st14_10 =>
   go_simp;obtain ⟨f1, f2, f3⟩ := HD.out.zero;have HX10_14 := Hd f1;have HZ := Hd (An f2 f3);clear f1 f2 f3;have hws := HX10_14.out.mm.hb;(refine hK.out _ _ (by exact hws) fun hH => Tk.w ?_);clear hws;clear hK K;generalize World.alloc _ _ = V10 at HX10_14 HZ hH ⊢;refine Tk.o 9 (fun K hK => ?st9_16);case st9_16 =>
    go_simp
    (go_at_call 19; refine (HNA.out _).mono ?_; rintro e w16 ⟨rfl, hb⟩; have HX16_9 := Hd (HX10_14.out.below hb); have hzz := (hb.block _ (lt_heap' HZ.out.1)).trans HZ.out.1; have hz2 := HZ.out.2; clear HZ; have HZ := Hd (An hzz hz2); clear hzz hz2; clear hb)
    have hws := HX16_9.out.mm.hb;(refine hK.out _ _ (by exact hws) fun hH => Tk.w ?_);clear hws;clear hK K;refine Tk.o 10 (fun K hK => ?st10_17);case st10_17 =>
     go_simp
     (go_at_call 54; have hq := HF.out _ i j nones _ HIJ.out.1 HIJ.out.2 (caps_none _) HX16_9.out.mm; refine hq.mono ?_; clear hq; rintro e w17 ⟨a1, b1, rfl, hl, hm, hk⟩; rw [hf] at hl; obtain ⟨hca, hb1, ha1⟩ := hl; subst hb1; subst ha1; have HCA := Hd hca; have HX17_10 := Hd (HX16_9.out.call hm hk); have hzz := HX16_9.out.kept HZ.out.1 hk; have hz2 := HZ.out.2; clear HZ; have HZ := Hd (An hzz hz2); clear hzz hz2; clear hca hm hk)
     have hws := HX17_10.out.mm.hb;(refine hK.out _ _ (by exact hws) fun hH => Tk.w ?_);clear hws;clear hK K;refine Tk.t 11 ?_;refine Tk.t 12 ?_;refine Tk.t 13 ?_;refine Tk.o 15 (fun K hK => ?_);refine ssM 8 22 a1 HZ.out.1 ?_;obtain ⟨f1, f2⟩ := HX17_10.out.fill HZ.out.1 HZ.out.2 a1;have HX18 := Hd f1;have HB := Hd (An f2 HZ.out.2);clear f1 f2 HZ HX17_10;generalize World.setRow _ _ _ = W5 at HX18 HB ⊢;have hws := HX18.out.mm.hb;(refine hK.out _ _ (by exact hws) fun hH => Tk.w ?_);clear hws;clear hK K;refine Tk.t 16 ?_;refine Tk.d ?_;clear hH;have HG := Hd HB.out.2;have hcl := cap_cell HB.out.1 (n := 0) (by decide);(have hfz : W5.frozen? ⟨W2.heap.size, 0, none⟩ = false := by simp [World.frozen?, HB.out.1]);have hst := store_complex Tryz.prog W5 (W2.heap.size) 0 cxa cxb hcl hfz;obtain ⟨hp1, hp2⟩ := HX18.out.putc HB.out.1 HCA.out.len HG.out (n := 0) (by decide) (some (i, j));obtain ⟨a2, ha2⟩ : ∃ a2, a2 = a1.set 0 (some (i, j)) := ⟨_, rfl⟩;rw [<- ha2] at hp2;rw [HCX.out] at hp1 hp2;have HA2 := Hd ha2;have HS5 := Hd hp1;have HB5 := Hd hp2;clear hp1 hp2 ha2 HX18 HB;go_wp2_with (first
      | (go_at_call 55; refine (HOF.out W5).mono ?_; rintro e w6 ⟨rfl, rfl⟩)
      | (refine ldM 8 HB5.out ?_)
      | (refine stM 6 34 a2 HS5.out.rs ?_; obtain ⟨r1, r2, r3⟩ := HS5.out.ret a2; have HR := Hd (An r1 (An r2 r3)); clear r1 r2 r3 HS5; generalize World.setRow _ _ _ = W9 at HR ⊢))
     refine bodyPost_ret (res_caps rfl rfl HR.out.1 rfl) rfl ?_;refine ⟨?_, HR.out.2.1, HR.out.2.2⟩;rw [HRR.out, wholeP, hf, HA2.out];rfl
theorem look_0 (X : Par) (hX : X.Ok) (ia : Nat) (pr : Nat -> Prop) (i j : Nat) (c : Caps) (w : World) (hij : i <= j) (hj : j <= X.N) (hc : CapsOk X.N c) (hM : MM X pr w) (nb no cap : Nat) (hv : X.v = .slice (some ⟨nb, no, none⟩) X.l.length cap) (hil : ia < X.l.length) (z : List Nat) (a b : Nat) (mn mx : Int) (m : Nat) (hN : NCell w nb (no + ia * 10) ⟨0, z, (a : Nat), (b : Nat), mn, mx, (m : Nat)⟩) (R : Option Caps) (hR : R = (if i = j then some c else none)) :
  Calls Tryz.prog 80 #[PT X.bm, E (ia : Nat), E (i : Nat), E (j : Nat), CV c] w (FitAns X pr w R) := by
 obtain ⟨c0, c1, c2, c3, c4⟩ := hM.facts;rw [hv] at c0;obtain ⟨q0, q1, q2, q3, q4, q5, q6, q7, q8, q9⟩ := hN;have hbm := lt_heap' hM.hb;(have hbm2 : X.bm < w.heap.size + 1 := by omega);(have hbm3 : X.bm < w.heap.size + 1 + 1 := by omega);have hnb : nb < w.heap.size := lt_cell q0;(have hnb2 : nb < w.heap.size + 1 := by omega);(have hnb3 : nb < w.heap.size + 1 + 1 := by omega);(have ha0 : (0 : Int) <= (ia : Int) := by omega);(have ha1 : (ia : Int) < (X.l.length : Int) := by omega);have HT := Hd (lf_start hM c ⟨0, z, (a : Nat), (b : Nat), mn, mx, (m : Nat)⟩);have HC := Hd hc;have HRR := Hd hR;clear hR;have hlen := hX.len;have HLEN := Hd hlen;clear hlen hM hX hc;go_enter Tryz.func80, Tryz.ntmps80;rw [show Code.region 2 = Fz 2 from rfl];go_wp2;refine at_world (p := fun W => LF X pr w c ⟨0, z, (a : Nat), (b : Nat), mn, mx, (m : Nat)⟩ W) HT.out (fun W hW => ?_);have HS := Hd hW;clear hW HT c0 c1 c2 c3 c4 q0 q1 q2 q3 q4 q5 q6 q7 q8 q9 hbm hbm2 hbm3 hnb hnb2 hnb3 ha0 ha1;rw [show Fz 2 = Code.region 2 from rfl];obtain ⟨x0, x1, x2, x3, x4, x5, x6, x7, x8, x9⟩ := node_cells HS.out.nb;(try dsimp only at x0 x1 x2 x3 x4 x5 x6 x7 x8 x9);obtain ⟨m0, m1, m2, m3, m4⟩ := HS.out.tf.mm.facts;go_wp2_with (first
  | (refine ldM 9 HS.out.tf.bx ?_)
  | (refine stM 10 180 c HS.out.tf.rs ?_; obtain ⟨r1, r2, r3⟩ := HS.out.tf.ret c; have HR := Hd (An r1 (An r2 r3)); clear r1 r2 r3 HS; generalize World.setRow _ _ _ = W9 at HR ⊢))
 refine bodyPost_ret (res_caps rfl rfl HR.out.1 rfl) rfl ?_;refine ⟨c, _, rfl, ?_, HR.out.2.1, HR.out.2.2⟩;refine ⟨HC.out, ?_⟩;rw [HRR.out];by_cases e : i = j
 · rw [if_pos e]; simp [e]
 · rw [if_neg e]; simp [e]; (try omega)
theorem look_2 (X : Par) (hX : X.Ok) (ia : Nat) (pr : Nat -> Prop) (i j : Nat) (c : Caps) (w : World) (hij : i <= j) (hj : j <= X.N) (hc : CapsOk X.N c) (hM : MM X pr w) (nb no cap : Nat) (hv : X.v = .slice (some ⟨nb, no, none⟩) X.l.length cap) (hil : ia < X.l.length) (z : List Nat) (a b : Nat) (mn mx : Int) (m : Nat) (hN : NCell w nb (no + ia * 10) ⟨2, z, (a : Nat), (b : Nat), mn, mx, (m : Nat)⟩) (R : Option Caps) (hR : R = (if j = 0 then some c else none)) :
  Calls Tryz.prog 80 #[PT X.bm, E (ia : Nat), E (i : Nat), E (j : Nat), CV c] w (FitAns X pr w R) := by
 obtain ⟨c0, c1, c2, c3, c4⟩ := hM.facts;rw [hv] at c0;obtain ⟨q0, q1, q2, q3, q4, q5, q6, q7, q8, q9⟩ := hN;have hbm := lt_heap' hM.hb;(have hbm2 : X.bm < w.heap.size + 1 := by omega);(have hbm3 : X.bm < w.heap.size + 1 + 1 := by omega);have hnb : nb < w.heap.size := lt_cell q0;(have hnb2 : nb < w.heap.size + 1 := by omega);(have hnb3 : nb < w.heap.size + 1 + 1 := by omega);(have ha0 : (0 : Int) <= (ia : Int) := by omega);(have ha1 : (ia : Int) < (X.l.length : Int) := by omega);have HT := Hd (lf_start hM c ⟨2, z, (a : Nat), (b : Nat), mn, mx, (m : Nat)⟩);have HC := Hd hc;have HRR := Hd hR;clear hR;have hlen := hX.len;have HLEN := Hd hlen;clear hlen hM hX hc;go_enter Tryz.func80, Tryz.ntmps80;rw [show Code.region 2 = Fz 2 from rfl];go_wp2;refine at_world (p := fun W => LF X pr w c ⟨2, z, (a : Nat), (b : Nat), mn, mx, (m : Nat)⟩ W) HT.out (fun W hW => ?_);have HS := Hd hW;clear hW HT c0 c1 c2 c3 c4 q0 q1 q2 q3 q4 q5 q6 q7 q8 q9 hbm hbm2 hbm3 hnb hnb2 hnb3 ha0 ha1;rw [show Fz 2 = Code.region 2 from rfl];obtain ⟨x0, x1, x2, x3, x4, x5, x6, x7, x8, x9⟩ := node_cells HS.out.nb;(try dsimp only at x0 x1 x2 x3 x4 x5 x6 x7 x8 x9);obtain ⟨m0, m1, m2, m3, m4⟩ := HS.out.tf.mm.facts;go_wp2_with (first
  | (refine ldM 9 HS.out.tf.bx ?_)
  | (refine stM 10 51 c HS.out.tf.rs ?_; obtain ⟨r1, r2, r3⟩ := HS.out.tf.ret c; have HR := Hd (An r1 (An r2 r3)); clear r1 r2 r3 HS; generalize World.setRow _ _ _ = W9 at HR ⊢))
 refine bodyPost_ret (res_caps rfl rfl HR.out.1 rfl) rfl ?_;refine ⟨c, _, rfl, ?_, HR.out.2.1, HR.out.2.2⟩;refine ⟨HC.out, ?_⟩;rw [HRR.out];by_cases e : j = 0
 · rw [if_pos e]; simp [e]
 · rw [if_neg e]; simp [e]; (try omega)
end Go.Proofs.YtgaiknjmbingjaaGreatDoor.Mt
