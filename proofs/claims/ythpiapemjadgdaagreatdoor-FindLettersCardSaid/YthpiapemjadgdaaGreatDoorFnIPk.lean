/- Finds: the iterator's contract. -/
import Derived.Test.YthpiapemjadgdaaGreatDoorFnWPk
import Derived.Test.YthpiapemjadgdaaGreatDoorFnVPk
import Derived.RangeFuncBox
import Derived.Maps.AppendAt
import Derived.Maps.OwnIn
import Derived.LoopIn
import Derived.LoopNIn
import Derived.TacticsInMore
import Derived.RangeFuncBound
import Derived.RangeFuncCalls
import Derived.RangeFuncLeaves
import Derived.RangeFuncNested
import Derived.OwnWalkIn
namespace Go.Proofs.YthpiapemjadgdaaGreatDoor.Mt
open Go.RowKit Go.Shelf
open Go.Proofs.YthpiapemjadgdaaGreatDoor.Rx
open Go.Proofs.YthpiapemjadgdaaGreatDoor.Fn
set_option linter.unusedVariables false
set_option linter.unusedSimpArgs false
attribute [local go_sem] Oper.semAt_some
section
variable {F : Fence} {n : Nat} {P : Program} {ops : Array Oper} {Q : Exit → Act → World → Prop} {a : Act} {w : World} {rest : List Oper} {o : Oper}
/-- A row is laid, within a fence. -/
theorem inStore_row (hgd : o.guard = none) (ty : TypeId) (x y : Operand) (ho : o.op = .store ty x y)
    (g : Nat) (cells : Array Value) (hx : a.eval x = .pointer (some ⟨g, 0, none⟩)) (hy : a.eval y = .agg cells)
    (t : TypeId) (old : Array Value) (hg : w.heap[g]? = some (.cells old t (0, 0))) (hi : (P.info? ty).map (·.size) = some cells.size)
    (hold : old.size = cells.size) (h1 : cells.all (·.oneCell') = true)
    (h : wpListIn F n P ops Q rest (a.put o.dst undef) (w.setRow g cells)) : wpListIn F n P ops Q (o :: rest) a w := by
  refine wpListIn_plain hgd fun K hK => ?_
  unfold Oper.wpIn
  refine ⟨by simp [Oper.about, ho], ?_⟩
  rw [Oper.semAt_plain F _ _ (by rw [ho]; intro c hc'; cases hc')]
  unfold execOp
  simp only [ho, hx, hy, Instr.storeAt, Instr.sureAddr, Sem.run_bind, Sem.run_pure, Result.andThen_ok, run_storeVar_row w g t ty old cells hg hi hold h1]
  exact hK _ _ h
/-- A row is loaded, within a fence. -/
theorem inLoad_row (hgd : o.guard = none) (ty : TypeId) (x : Operand) (ho : o.op = .load ty x)
    (g : Nat) (hx : a.eval x = .pointer (some ⟨g, 0, none⟩)) (t : TypeId) (cs : Array Value) (fr : Nat × Nat) (d : TypeDesc) (hg : w.heap[g]? = some (.cells cs t fr))
    (hu : P.underlying ty = some d) (hd : (match d with | .struct _ | .array _ _ => true | _ => false) = true) (hi : (P.info? ty).map (·.size) = some cs.size)
    (h : wpListIn F n P ops Q rest (a.put o.dst (.agg cs)) w) : wpListIn F n P ops Q (o :: rest) a w := by
  refine wpListIn_plain hgd fun K hK => ?_
  unfold Oper.wpIn
  refine ⟨by simp [Oper.about, ho], ?_⟩
  rw [Oper.semAt_plain F _ _ (by rw [ho]; intro c hc'; cases hc')]
  unfold execOp
  simp only [ho, hx, Instr.loadAt, Instr.sureAddr, Sem.run_bind, Sem.run_pure, Result.andThen_ok, run_loadVar_row w g t ty cs fr d hg hu hd hi]
  exact hK _ _ h
end
theorem grown_none {W W' : World} (hb : Below W.heap.size W W') : W.grownBy W' none := ⟨hb.os, hb.tape, hb.output, hb.size, fun k hk _ => hb.block k hk⟩
/-- Whether two numbers are apart. -/
def dl (a b : Int) : Nat := if a = b then 0 else 1
theorem dl_le (a b : Int) : dl a b ≤ 1 := by unfold dl; split <;> omega
theorem dl_self (a : Int) : dl a a = 0 := by unfold dl; rw [if_pos rfl]
theorem dl_ne {a b : Int} (h : a ≠ b) : dl a b = 1 := by unfold dl; rw [if_neg h]
set_option maxRecDepth 100000 in
set_option maxHeartbeats 6400000 in
theorem finds_stops (hna : NoneOk) (n : Nat) (hn : 2 ≤ n) (ao : Option Addr) (nn cc : Nat) (T : List UInt8) (hT : T.length ≤ 100000) (F : Nat → Option Caps) (hF : FOk T.length F) (bt bl : Nat) (w : World) (Kp : World → World → Prop) (Ft : World → Prop)
    (hfact : ∀ W, Below w.heap.size w W → Ft W) (hFb : ∀ W W', Ft W → Below W.heap.size W W' → Ft W') (hFK : ∀ W W', Kp W W' → Ft W → Ft W')
    (hFt : ∀ W, Ft W → LongOk W (.slice ao nn cc) T F ∧ Boxed W bt 9 (S T) ∧ Boxed W bl 22 (.slice ao nn cc))
    (hnew : ∀ W (cs : Array Value) W', Ft W → Kp (W.alloc (.cells cs 27)) W' → W'.heap[W.heap.size]? = some (.cells cs 27 (0, 0))) :
    SeqStopsK Fence.wide n Tryz.prog 67 #[PT bt, PT bl] (fun c : Caps => #[CV c]) Kp (fun xs => xs = allF F T.length) (fun _ => True) (2 * (T.length + 1) + 1) w := fun l J Jx W hW hJ hJx hY h0 => by
  have HFT0 := Lib.hid (hfact W hW)
  have HJ0 := Lib.hid h0
  have HT := Lib.hid hT
  have HFO := Lib.hid hF
  have HJA := Lib.hid hJ
  have HYL := Lib.hid hY
  have HFB := Lib.hid hFb
  have HFK := Lib.hid hFK
  have HFT := Lib.hid hFt
  have HNW := Lib.hid hnew
  clear hfact h0 hT hF hJ hY hFb hFK hFt hnew hJx
  refine callsIn_of_wp Tryz.func67 rfl trivial ?_ rfl
  simp only [Tryz.ntmps67, List.size_toArray, List.length_cons, List.length_nil, Nat.reduceAdd, Nat.reduceSub, Array.replicate_succ, Array.replicate_zero, List.push_toArray, List.append_toArray, List.nil_append, List.cons_append]
  gi_wp2
  gi_loopw [4, 5] (fun lv iv wr => ∃ la i f : Nat, lv = .int .i64 ((la : Int) - 1) ∧ iv = .int .i64 (i : Nat) ∧ la ≤ T.length + 1 ∧ i ≤ T.length + 1 ∧ mu T.length la i ≤ f ∧ Hid (Ft wr) ∧ ∃ pre : List Caps, Hid (pre ++ finF F T.length f la i = allF F T.length) ∧ Hid (J pre wr)) (fun lv iv _ => 2 * (T.length + 1 - (intOf iv).toNat) + dl (intOf lv) (intOf iv))
  case atStart => exact ⟨0, 0, 2 * (T.length + 1) + 1, rfl, rfl, by omega, by omega, by unfold mu; split <;> omega, HFT0, [], Lib.hid rfl, HJ0⟩
  case round =>
    clear HFT0 HJ0
    obtain ⟨la, i, f, rfl, rfl, hla, hi, hmu, HF, pre, HP, HJ⟩ := hrel
    have HMU := Lib.hid hmu
    have HLA := Lib.hid hla
    obtain ⟨hlo, ht1, ht2⟩ := HFT.out _ HF.out
    have c1 := ht1.cell
    have c2 := ht2.cell
    have HLO := Lib.hid hlo
    clear hlo ht1 ht2
    by_cases hlt : i ≤ T.length
    · obtain ⟨f, rfl⟩ : ∃ f', f = f' + 1 := ⟨f - 1, by unfold mu at hmu; omega⟩
      have hst : finF F T.length (f + 1) la i = match firstF F T.length i with
          | none => []
          | some c => if to0 c = from0 c ∧ from0 c + 1 = la then finF F T.length f la la else c :: finF F T.length f (to0 c + 1) (to0 c) := rfl
      have hle : (i : Int) ≤ (T.length : Int) := by omega
      have HLT := Lib.hid hlt
      clear hlt hla hi hmu
      cases hR : firstF F T.length i with
      | none =>
        rw [hR] at hst
        have HST := Lib.hid hst
        have HFI := Lib.hid (first_from hna (.slice ao nn cc) T HT.out F _ HLO.out (i : Nat) i (Or.inr rfl) (by have := HLT.out; have := HT.out; omega) none hR.symm)
        clear hst hR HLO
        gi_wp2
        refine ⟨trivial, fun h => (by cases h), ?_⟩
        refine (callsIn_wide.2 HFI.out).mono ?_
        rintro e w3 ⟨he, hb⟩
        rw [show ansC none = .tuple #[CV nones, .bool false] from rfl] at he
        subst he
        have HJ3 := Lib.hid (HJA.out _ _ _ none HJ.out (grown_none hb) (by simp))
        clear c1 c2 hb
        gi_wp2_with (refine inStore_row rfl 27 (.tmp 6) (.tmp 17) rfl _ (CC nones) rfl rfl _ CZ (heap_alloc_new _ _) (by kernel_rfl) rfl (cc_one nones) ?_; simp only [Act.put, List.setIfInBounds_toArray, List.set_cons_zero, List.set_cons_succ]; rw [box_laid]; have HJ4 := Lib.hid (HJA.out _ _ _ none HJ3.out (World.grownBy_alloc _ (.cells (CC nones) 27) none) (by simp)); clear HJ3; generalize World.alloc _ _ = W4 at HJ4 ⊢)
        refine bodyPost_ret (results_none rfl _ _ _) rfl ?_
        refine ⟨⟨_, rfl⟩, .inl ⟨_, ?_, HJ4.out⟩⟩
        have := HP.out
        rw [HST.out, List.append_nil] at this
        exact this
      | some c =>
        rw [hR] at hst
        have HST := Lib.hid hst
        have HFI := Lib.hid (first_from hna (.slice ao nn cc) T HT.out F _ HLO.out (i : Nat) i (Or.inr rfl) (by have := HLT.out; have := HT.out; omega) (some c) hR.symm)
        have HMS := Lib.hid (fun q => mu_skip HFO.out hR HMU.out q)
        have HMN := Lib.hid (fun q => mu_next HFO.out hR HMU.out q)
        obtain ⟨g1, g2, g3, hcaps, hgr, g4, g5⟩ := first_at HFO.out hR
        have HAT := Lib.hid (show i ≤ from0 c ∧ from0 c ≤ to0 c ∧ to0 c ≤ T.length from ⟨g1, g4, g5⟩)
        have hok : CapOk T.length (some (from0 c, to0 c)) := by rw [← hgr]; exact hcaps.at 0
        have HN9 := Lib.hid (show T.length ≤ 999999999 from by have := HT.out; omega)
        have HGR := Lib.hid hgr
        have HLEN := Lib.hid (fun W => len_cap HN9.out hok W)
        have HFRM := Lib.hid (fun W => from_cap HN9.out hok W)
        have HTO := Lib.hid (fun W => to_cap HN9.out hok W)
        clear g1 g2 g3 hcaps hgr g4 g5 hok hst hR HLO
        have hst2 := HST.out
        have hms2 := HMS.out
        have hmn2 := HMN.out
        have hat2 := HAT.out
        have hgr2 := HGR.out
        have hl2 := HLEN.out
        have hf2 := HFRM.out
        have ht2 := HTO.out
        clear HST HMS HMN HAT HGR HLEN HFRM HTO
        obtain ⟨A, hA⟩ : ∃ A, from0 c = A := ⟨_, rfl⟩
        obtain ⟨B, hB⟩ : ∃ B, to0 c = B := ⟨_, rfl⟩
        simp only [hA, hB] at hst2 hms2 hmn2 hat2 hgr2 hl2 hf2 ht2
        have HST := Lib.hid hst2
        have HMS := Lib.hid hms2
        have HMN := Lib.hid hmn2
        have HAT := Lib.hid hat2
        have HGR := Lib.hid hgr2
        have HLEN := Lib.hid hl2
        have HFRM := Lib.hid hf2
        have HTO := Lib.hid ht2
        clear hA hB hst2 hms2 hmn2 hat2 hgr2 hl2 hf2 ht2
        gi_wp2
        refine ⟨trivial, fun h => (by cases h), ?_⟩
        refine (callsIn_wide.2 HFI.out).mono ?_
        rintro e w3 ⟨he, hb⟩
        rw [show ansC (some c) = .tuple #[CV c, .bool true] from rfl] at he
        subst he
        have HJ3 := Lib.hid (HJA.out _ _ _ none HJ.out (grown_none hb) (by simp))
        have HF3 := Lib.hid (HFB.out _ _ HF.out hb)
        clear c1 c2 hb
        have hwl : IntKind.i64.wrap ((la : Int) - 1 + 1) = (la : Int) := by rw [IntKind.wrap_i64]; have := HLA.out; have := HT.out; omega
        have hwl2 : IntKind.i64.wrap (la : Int) = (la : Int) := by rw [IntKind.wrap_i64]; have := HLA.out; have := HT.out; omega
        by_cases hsk : B = A ∧ A + 1 = la
        · have hz : (((B - A : Nat) : Int) == 0) = true := by rw [beq_iff_eq]; omega
          have hq : ((A : Int) == (la : Int) - 1) = true := by rw [beq_iff_eq]; omega
          have HSK := Lib.hid hsk
          clear hsk
          gi_wp2_with (refine inStore_row rfl 27 (.tmp 6) (.tmp 17) rfl _ (CC c) rfl rfl _ CZ (heap_alloc_new _ _) (by kernel_rfl) rfl (cc_one c) ?_; simp only [Act.put, List.setIfInBounds_toArray, List.set_cons_zero, List.set_cons_succ]; rw [box_laid]; have HJ4 := Lib.hid (HJA.out _ _ _ none HJ3.out (World.grownBy_alloc _ (.cells (CC c) 27) none) (by simp)); have HF4 := Lib.hid (HFB.out _ _ HF3.out ((Below.refl _ _).alloc (Nat.le_refl _) (.cells (CC c) 27))); have HX4 := Lib.hid (heap_alloc_new w3 (.cells (CC c) 27)); have HNK := Lib.hid (fun W' => HNW.out w3 (CC c) W' HF3.out); generalize World.alloc _ _ = W4 at HJ4 HF4 HX4 HNK ⊢; have cx := cap_cell HX4.out (n := 0) (by decide); rw [HGR.out] at cx)
          refine ⟨trivial, fun h => (by cases h), ?_⟩
          refine (callsIn_wide.2 (HLEN.out _)).mono ?_
          rintro e w5 ⟨rfl, rfl⟩
          gi_wp2
          refine ⟨trivial, fun h => (by cases h), ?_⟩
          refine (callsIn_wide.2 (HFRM.out _)).mono ?_
          rintro e w5 ⟨rfl, rfl⟩
          gi_wp2
          go_roundw
          case rel => exact ⟨la, la, f, rfl, rfl, HLA.out, HLA.out, HMS.out HSK.out, HF4, pre, Lib.hid (by rw [← HP.out, HST.out, if_pos HSK.out]), HJ4⟩
          case measure =>
            have := HAT.out
            have := HLT.out
            have := HSK.out
            simp only [intOf, Int.toNat_natCast]
            have h1 := dl_le ((la : Int) - 1) (la : Int)
            omega
        · have hno := hsk
          have HLN := Lib.hid (show pre.length < 2 * (T.length + 1) + 1 from by
            have h1 := fin_len F T.length (2 * (T.length + 1) + 1) 0 0
            have h2 := congrArg List.length HP.out
            rw [HST.out, if_neg hno, List.length_append, List.length_cons] at h2
            unfold allF at h2
            omega)
          by_cases he : B = A
          · have hz : (((B - A : Nat) : Int) == 0) = true := by rw [beq_iff_eq]; omega
            have hq : ((A : Int) == (la : Int) - 1) = false := by rw [beq_eq_false_iff_ne]; omega
            clear hsk he
            gi_wp2_with (refine inStore_row rfl 27 (.tmp 6) (.tmp 17) rfl _ (CC c) rfl rfl _ CZ (heap_alloc_new _ _) (by kernel_rfl) rfl (cc_one c) ?_; simp only [Act.put, List.setIfInBounds_toArray, List.set_cons_zero, List.set_cons_succ]; rw [box_laid]; have HJ4 := Lib.hid (HJA.out _ _ _ none HJ3.out (World.grownBy_alloc _ (.cells (CC c) 27) none) (by simp)); have HF4 := Lib.hid (HFB.out _ _ HF3.out ((Below.refl _ _).alloc (Nat.le_refl _) (.cells (CC c) 27))); have HX4 := Lib.hid (heap_alloc_new w3 (.cells (CC c) 27)); have HNK := Lib.hid (fun W' => HNW.out w3 (CC c) W' HF3.out); generalize World.alloc _ _ = W4 at HJ4 HF4 HX4 HNK ⊢; have cx := cap_cell HX4.out (n := 0) (by decide); rw [HGR.out] at cx)
            refine ⟨trivial, fun h => (by cases h), ?_⟩
            refine (callsIn_wide.2 (HLEN.out _)).mono ?_
            rintro e w5 ⟨rfl, rfl⟩
            gi_wp2
            refine ⟨trivial, fun h => (by cases h), ?_⟩
            refine (callsIn_wide.2 (HFRM.out _)).mono ?_
            rintro e w5 ⟨rfl, rfl⟩
            obtain ⟨fn, tmps, assign, body, hy, hYR⟩ := HYL.out pre c W4 HJ4.out HLN.out
            gi_wp2_with (refine inLoad_row rfl 27 (.tmp 6) rfl w3.heap.size rfl _ (CC c) (0, 0) _ HX4.out Tryz.underlying27 rfl (by kernel_rfl) ?_; simp only [Act.put, List.setIfInBounds_toArray, List.set_cons_zero, List.set_cons_succ])
            refine ⟨fun h => (by cases h), hYR.mono ?_⟩
            clear hy hYR
            rintro e W' (⟨rfl, hJ', hk'⟩ | ⟨rfl, hJx'⟩)
            · have HF5 := Lib.hid (HFK.out _ _ hk' HF4.out)
              have hx5 := cap_cell (HNK.out _ hk') (n := 0) (by decide)
              rw [HGR.out] at hx5
              have HJ5 := Lib.hid hJ'
              clear cx hJ' hk'
              gi_wp2
              refine ⟨trivial, fun h => (by cases h), ?_⟩
              refine (callsIn_wide.2 (HTO.out _)).mono ?_
              rintro e w5 ⟨rfl, rfl⟩
              gi_wp2
              go_roundw
              case rel => exact ⟨B + 1, B, f, by rw [show (((B + 1 : Nat) : Int) - 1) = (B : Int) from by omega], rfl, by have := HAT.out; omega, by have := HAT.out; omega, HMN.out hno, HF5, pre ++ [c], Lib.hid (by rw [← HP.out, HST.out, if_neg hno]; simp), HJ5⟩
              case measure =>
                have := HAT.out
                have := HLT.out
                simp only [intOf, Int.toNat_natCast]
                rw [dl_self]
                by_cases hla : (la : Int) - 1 = (i : Int)
                · omega
                · rw [dl_ne hla]
                  omega
            · clear cx
              gi_wp2
              refine bodyPost_ret (results_none rfl _ _ _) rfl ?_
              exact ⟨⟨_, rfl⟩, .inr ⟨_, trivial, hJx'⟩⟩
          · have hz : (((B - A : Nat) : Int) == 0) = false := by rw [beq_eq_false_iff_ne]; have := HAT.out; omega
            clear hsk he
            gi_wp2_with (refine inStore_row rfl 27 (.tmp 6) (.tmp 17) rfl _ (CC c) rfl rfl _ CZ (heap_alloc_new _ _) (by kernel_rfl) rfl (cc_one c) ?_; simp only [Act.put, List.setIfInBounds_toArray, List.set_cons_zero, List.set_cons_succ]; rw [box_laid]; have HJ4 := Lib.hid (HJA.out _ _ _ none HJ3.out (World.grownBy_alloc _ (.cells (CC c) 27) none) (by simp)); have HF4 := Lib.hid (HFB.out _ _ HF3.out ((Below.refl _ _).alloc (Nat.le_refl _) (.cells (CC c) 27))); have HX4 := Lib.hid (heap_alloc_new w3 (.cells (CC c) 27)); have HNK := Lib.hid (fun W' => HNW.out w3 (CC c) W' HF3.out); generalize World.alloc _ _ = W4 at HJ4 HF4 HX4 HNK ⊢; have cx := cap_cell HX4.out (n := 0) (by decide); rw [HGR.out] at cx)
            refine ⟨trivial, fun h => (by cases h), ?_⟩
            refine (callsIn_wide.2 (HLEN.out _)).mono ?_
            rintro e w5 ⟨rfl, rfl⟩
            gi_wp2
            refine ⟨trivial, ?_⟩
            obtain ⟨fn, tmps, assign, body, hy, hYR⟩ := HYL.out pre c W4 HJ4.out HLN.out
            gi_wp2_with (refine inLoad_row rfl 27 (.tmp 6) rfl w3.heap.size rfl _ (CC c) (0, 0) _ HX4.out Tryz.underlying27 rfl (by kernel_rfl) ?_; simp only [Act.put, List.setIfInBounds_toArray, List.set_cons_zero, List.set_cons_succ])
            refine ⟨fun h => (by cases h), hYR.mono ?_⟩
            clear hy hYR
            rintro e W' (⟨rfl, hJ', hk'⟩ | ⟨rfl, hJx'⟩)
            · have HF5 := Lib.hid (HFK.out _ _ hk' HF4.out)
              have hx5 := cap_cell (HNK.out _ hk') (n := 0) (by decide)
              rw [HGR.out] at hx5
              have HJ5 := Lib.hid hJ'
              clear cx hJ' hk'
              gi_wp2
              refine ⟨trivial, fun h => (by cases h), ?_⟩
              refine (callsIn_wide.2 (HTO.out _)).mono ?_
              rintro e w5 ⟨rfl, rfl⟩
              gi_wp2
              go_roundw
              case rel => exact ⟨B + 1, B, f, by rw [show (((B + 1 : Nat) : Int) - 1) = (B : Int) from by omega], rfl, by have := HAT.out; omega, by have := HAT.out; omega, HMN.out hno, HF5, pre ++ [c], Lib.hid (by rw [← HP.out, HST.out, if_neg hno]; simp), HJ5⟩
              case measure =>
                have := HAT.out
                have := HLT.out
                simp only [intOf, Int.toNat_natCast]
                rw [dl_self]
                by_cases hla : (la : Int) - 1 = (i : Int)
                · omega
                · rw [dl_ne hla]
                  omega
            · clear cx
              gi_wp2
              refine bodyPost_ret (results_none rfl _ _ _) rfl ?_
              exact ⟨⟨_, rfl⟩, .inr ⟨_, trivial, hJx'⟩⟩
    · have hle : ¬ (i : Int) ≤ (T.length : Int) := by omega
      have HEND := Lib.hid (show finF F T.length f la i = [] from by
        cases f with
        | zero => rfl
        | succ f => unfold finF; rw [first_end F (by omega)])
      clear hlt hla hi hmu HLO
      gi_wp2
      go_end0
      have hp := HP.out
      rw [HEND.out, List.append_nil] at hp
      exact ⟨⟨_, rfl⟩, .inl (by rw [← hp]; exact HJ.out)⟩
end Go.Proofs.YthpiapemjadgdaaGreatDoor.Mt
