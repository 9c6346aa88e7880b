/- TransInverse: the walk. -/
import Derived.Test.YtpgglnibfojdgaaDoorTrLay
namespace Go.Proofs.YtpgglnibfojdgaaDoor.Tr
open Go.RowKit Go.Shelf Bld
set_option linter.unusedVariables false
set_option linter.unusedSimpArgs false
theorem inverse_apply {f t : List UInt8} (hl : f.length = t.length) (hf : f.Nodup) (ht : t.Nodup) (s : List UInt8) (hs : ∀ b ∈ t, b ∈ f) :
    applyL (fun j => mapOf t f (UInt8.ofNat j)) (applyL (fun j => mapOf f t (UInt8.ofNat j)) s) = s := by
  unfold applyL
  rw [List.map_map]
  conv => rhs; rw [← List.map_id s]
  apply List.map_congr_left
  intro c _
  simp only [Function.comp, UInt8.ofNat_toNat, id]
  exact inverse hl hf ht hs c
theorem row_run {t : TypeId} (ht : Row t) {o : Oper} {a : Act} {w : World} {b : Nat} {f : MF} (x : Operand) (ho : o.op = .load t x) (hx : a.eval x = .pointer (some ⟨b, 0, none⟩)) (hg : MB w b t f) : (execOp a.eval o).run Tryd.prog w = .ok (.value (MV f)) w := by
  unfold execOp
  simp only [ho, hx, Instr.loadAt, Instr.sureAddr, Sem.run_bind, Sem.run_pure, Result.andThen_ok, run_loadVar_row w b t _ (rc f) (0, 0) (.array 256 5) hg ht.hu rfl (by rw [rc_size]; exact ht.hs)]
def Rs (b9 b7 : Nat) (n m : MF) (w0 w : World) : Prop := MB w b9 23 n ∧ MB w b7 23 m ∧ Below w0.heap.size w0 w
theorem rs_below {b9 b7 : Nat} {n m : MF} {w0 w w' : World} (h : MB w b9 23 n ∧ MB w b7 23 m ∧ Below w0.heap.size w0 w) (hb : Below w.heap.size w w') : MB w' b9 23 n ∧ MB w' b7 23 m ∧ Below w0.heap.size w0 w' :=
  ⟨(hb.block _ (lt_of_heap h.1)).trans h.1, (hb.block _ (lt_of_heap h.2.1)).trans h.2.1, h.2.2.trans (hb.mono h.2.2.size)⟩
theorem built_has (w : World) : (Instr.build 41 #[]).run Tryd.prog w = .ok (.agg (bc fun _ => false)) w := by
  have := run_build (P := Tryd.prog) w 41 #[] (Array.replicate 256 (.bool false)) (by kernel_rfl)
  rwa [show Array.replicate 256 (Value.bool false) = bc (fun _ => false) from by
    apply Array.ext
    · simp [bc_size]
    · intro i h1 h2; simp [bc]] at this
theorem bc_one (f : Nat → Bool) : (bc f).all (·.oneCell') = true := by
  rw [Array.all_eq_true_iff_forall_mem]
  intro v hv
  obtain ⟨j, _, rfl⟩ := Array.mem_map.1 hv
  rfl
theorem size_has : (Tryd.prog.info? 41).map (·.size) = some 256 := by kernel_rfl
theorem mkF_any (f t : List UInt8) : (∃ m, mkF f t = (m, 100)) ∨ (f.length = t.length ∧ f.Nodup) := by
  by_cases h : f.length = t.length
  · by_cases hn : f.Nodup
    · exact Or.inr ⟨h, hn⟩
    · exact Or.inl ⟨_, mkF_dup hn⟩
  · exact Or.inl ⟨_, mkF_len h⟩
set_option maxRecDepth 100000 in
set_option maxHeartbeats 1600000 in
theorem inverse_walk (f t s : List UInt8) (w : World) (hL : Lay w) (hm : f.length ≤ 9223372036854775807) (hm2 : t.length ≤ 9223372036854775807) (hm3 : s.length ≤ 9223372036854775807) :
    Calls Tryd.prog 6 #[S f, S t, S s] w fun e w' => e = .returned (.bool true) ∧ Below w.heap.size w w' := by
  have HL := Lib.hid hL
  clear hL
  by_cases h1 : (300 : Int) < f.length
  · go_enter Tryd.func6, Tryd.ntmps6
    go_wp2_with (go_at_call 9; refine (shown_any _ HL.out).mono ?_; rintro e w1 ⟨rfl, hb⟩)
    go_ret
    exact ⟨rfl, hb⟩
  by_cases h2 : (300 : Int) < s.length
  · go_enter Tryd.func6, Tryd.ntmps6
    go_wp2_with (go_at_call 9; refine (shown_any _ HL.out).mono ?_; rintro e w1 ⟨rfl, hb⟩)
    go_ret
    exact ⟨rfl, hb⟩
  have hz := rowP.hz
  rcases mkF_any f t with ⟨m, hmf⟩ | ⟨hl, hf⟩
  · obtain ⟨⟨n, x⟩, hmt⟩ : ∃ p, mkF t f = p := ⟨_, rfl⟩
    have HMf := Lib.hid hmf
    have HMt := Lib.hid hmt
    clear hmf hmt
    go_enter Tryd.func6, Tryd.ntmps6
    go_wp2_with (first
    | (go_at_call 9; refine (shown_any _ HL.out).mono ?_; rintro e w1 ⟨rfl, hb⟩; have HB1 := Lib.hid hb; clear hb)
    | (go_at_call 10; have hb0 := HB1.out; clear HB1; refine (make_any f t _ (by omega) (by omega)).mono ?_; rintro e w2 ⟨rfl, hb⟩; rw [HMf.out]; have hsc := run_storeCells_new (P := Tryd.prog) w2 23 (rc fun _ => 0) (rc m) (by rw [rc_size]; exact rowP.hs) (by rw [rc_size, rc_size]) (rc_one _); have hn := rc_size m
       have HG1 := Lib.hid (heap_alloc_new w2 (.cells (rc m) 23)); have HB2 := Lib.hid ((hb0.trans (hb.mono hb0.size)).alloc (Nat.le_trans hb0.size hb.size) (.cells (rc m) 23)); clear hb hb0)
    | (go_at_call 10; have hb0 := HB2.out; clear HB2 hsc hn; refine (make_any t f _ (by omega) (by omega)).mono ?_; rintro e w3 ⟨rfl, hb⟩; rw [HMt.out]; have hsc := run_storeCells_new (P := Tryd.prog) w3 23 (rc fun _ => 0) (rc n) (by rw [rc_size]; exact rowP.hs) (by rw [rc_size, rc_size]) (rc_one _); have hn := rc_size n
       have HG2 := Lib.hid (heap_alloc_new w3 (.cells (rc n) 23)); have HB3 := Lib.hid ((hb0.trans (hb.mono hb0.size)).alloc (Nat.le_trans hb0.size hb.size) (.cells (rc n) 23)); have HG1' := Lib.hid (alloc_raw ((hb.block _ (lt_of_heap HG1.out)).trans HG1.out) (.cells (rc n) 23)); have HLT := Lib.hid (Nat.lt_of_lt_of_le (lt_of_heap HG1.out) hb.size); clear HG1; clear hb hb0))
    go_ret
    exact ⟨rfl, HB3.out⟩
  rcases mkF_any t f with ⟨n, hmt⟩ | ⟨-, ht⟩
  · have HMf := Lib.hid (mkF_ok hl hf)
    have HMt := Lib.hid hmt
    clear hmt hf hl
    generalize (fun j => mapOf f t (UInt8.ofNat j)) = m at *
    go_enter Tryd.func6, Tryd.ntmps6
    go_wp2_with (first
    | (go_at_call 9; refine (shown_any _ HL.out).mono ?_; rintro e w1 ⟨rfl, hb⟩; have HB1 := Lib.hid hb; clear hb)
    | (go_at_call 10; have hb0 := HB1.out; clear HB1; refine (make_any f t _ (by omega) (by omega)).mono ?_; rintro e w2 ⟨rfl, hb⟩; rw [HMf.out]; have hsc := run_storeCells_new (P := Tryd.prog) w2 23 (rc fun _ => 0) (rc m) (by rw [rc_size]; exact rowP.hs) (by rw [rc_size, rc_size]) (rc_one _); have hn := rc_size m
       have HG1 := Lib.hid (heap_alloc_new w2 (.cells (rc m) 23)); have HB2 := Lib.hid ((hb0.trans (hb.mono hb0.size)).alloc (Nat.le_trans hb0.size hb.size) (.cells (rc m) 23)); clear hb hb0)
    | (go_at_call 10; have hb0 := HB2.out; clear HB2 hsc hn; refine (make_any t f _ (by omega) (by omega)).mono ?_; rintro e w3 ⟨rfl, hb⟩; rw [HMt.out]; have hsc := run_storeCells_new (P := Tryd.prog) w3 23 (rc fun _ => 0) (rc n) (by rw [rc_size]; exact rowP.hs) (by rw [rc_size, rc_size]) (rc_one _); have hn := rc_size n
       have HG2 := Lib.hid (heap_alloc_new w3 (.cells (rc n) 23)); have HB3 := Lib.hid ((hb0.trans (hb.mono hb0.size)).alloc (Nat.le_trans hb0.size hb.size) (.cells (rc n) 23)); have HG1' := Lib.hid (alloc_raw ((hb.block _ (lt_of_heap HG1.out)).trans HG1.out) (.cells (rc n) 23)); have HLT := Lib.hid (Nat.lt_of_lt_of_le (lt_of_heap HG1.out) hb.size); clear HG1; clear hb hb0))
    go_ret
    exact ⟨rfl, HB3.out⟩
  have HMf := Lib.hid (mkF_ok hl hf)
  have HMt := Lib.hid (mkF_ok hl.symm ht)
  have HINV := Lib.hid (inverse_apply hl hf ht s)
  clear hf ht hl
  generalize (fun j => mapOf f t (UInt8.ofNat j)) = m at *
  generalize (fun j => mapOf t f (UInt8.ofNat j)) = n at *
  have hbh := built_has
  have hzh := zero_had
  have hnh := bc_size fun _ => false
  go_enter Tryd.func6, Tryd.ntmps6
  rw [show Code.region 8 = Fz 8 from rfl]
  go_wp2_with (first
    | (go_at_call 9; refine (shown_any _ HL.out).mono ?_; rintro e w1 ⟨rfl, hb⟩; have HB1 := Lib.hid hb; clear hb)
    | (go_at_call 10; have hb0 := HB1.out; clear HB1; refine (make_any f t _ (by omega) (by omega)).mono ?_; rintro e w2 ⟨rfl, hb⟩; rw [HMf.out]; have hsc := run_storeCells_new (P := Tryd.prog) w2 23 (rc fun _ => 0) (rc m) (by rw [rc_size]; exact rowP.hs) (by rw [rc_size, rc_size]) (rc_one _); have hn := rc_size m
       have HG1 := Lib.hid (heap_alloc_new w2 (.cells (rc m) 23)); have HB2 := Lib.hid ((hb0.trans (hb.mono hb0.size)).alloc (Nat.le_trans hb0.size hb.size) (.cells (rc m) 23)); clear hb hb0)
    | (go_at_call 10; have hb0 := HB2.out; clear HB2 hsc hn; refine (make_any t f _ (by omega) (by omega)).mono ?_; rintro e w3 ⟨rfl, hb⟩; rw [HMt.out]; have hsc := run_storeCells_new (P := Tryd.prog) w3 23 (rc fun _ => 0) (rc n) (by rw [rc_size]; exact rowP.hs) (by rw [rc_size, rc_size]) (rc_one _); have hn := rc_size n
       have HG2 := Lib.hid (heap_alloc_new w3 (.cells (rc n) 23)); have HB3 := Lib.hid ((hb0.trans (hb.mono hb0.size)).alloc (Nat.le_trans hb0.size hb.size) (.cells (rc n) 23)); have HG1' := Lib.hid (alloc_raw ((hb.block _ (lt_of_heap HG1.out)).trans HG1.out) (.cells (rc n) 23)); have HLT := Lib.hid (Nat.lt_of_lt_of_le (lt_of_heap HG1.out) hb.size); clear HG1; clear hb hb0
       have hsch : (storeCells ⟨w3.heap.size + 1, 0, none⟩ (bc fun _ => false).toList 0).run Tryd.prog ((w3.alloc (.cells (rc n) 23)).alloc (.cells (bc fun _ => false) 41)) = .ok () ((w3.alloc (.cells (rc n) 23)).alloc (.cells (bc fun _ => false) 41)) := by
         have := run_storeCells_new (P := Tryd.prog) (w3.alloc (.cells (rc n) 23)) 41 (bc fun _ => false) (bc fun _ => false) (by rw [bc_size]; exact size_has) rfl (bc_one _)
         rwa [show (w3.alloc (.cells (rc n) 23)).heap.size = w3.heap.size + 1 from by simp] at this))
  rw [show Fz 8 = Code.region 8 from rfl]
  have HW : Hid (BB ((w3.alloc (.cells (rc n) 23)).alloc (.cells (bc fun _ => false) 41)) (w3.heap.size + 1) (hadK f 0)) := Lib.hid (by
    have e : (fun _ => false) = hadK f 0 := by funext j; simp [hadK]
    have := heap_alloc_new (w3.alloc (.cells (rc n) 23)) (.cells (bc fun _ => false) 41)
    rw [show (w3.alloc (.cells (rc n) 23)).heap.size = w3.heap.size + 1 from by simp] at this
    rw [BB, ← e]
    exact this)
  have HN := Lib.hid (alloc_raw HG2.out (.cells (bc fun _ => false) 41))
  have HM := Lib.hid (alloc_raw HG1'.out (.cells (bc fun _ => false) 41))
  have HB4 : Hid (Below w.heap.size w ((w3.alloc (.cells (rc n) 23)).alloc (.cells (bc fun _ => false) 41))) := Lib.hid (HB3.out.alloc HB3.out.size _)
  have HLW := Lib.hid (lt_of_heap HG2.out)
  have HLB : Hid (w.heap.size ≤ w3.heap.size + 1) := Lib.hid (by have := HB3.out.size; simpa using this)
  clear hsc hn hz hsch hnh hbh hzh HG2 HG1' HB3 HMf HMt
  generalize ((w3.alloc (.cells (rc n) 23)).alloc (.cells (bc fun _ => false) 41)) = W at *
  generalize w3.heap.size = b3 at *
  generalize w2.heap.size = b2 at *
  have HNE2 : b2 < b3 := HLT.out
  go_wp2
  go_loopw [12] (fun i wr => ∃ k : Nat, k ≤ f.length ∧ i = .int .i64 (k : Nat) ∧ Hid (BB wr (b3 + 1) (hadK f k)) ∧ Hid (MB wr b3 23 n ∧ MB wr b2 23 m ∧ Below w.heap.size w wr)) (fun i _ => f.length - (intOf i).toNat)
  case atStart => exact ⟨0, Nat.zero_le _, rfl, HW, Lib.hid ⟨HN.out, HM.out, HB4.out⟩⟩
  case round =>
    clear HW HN HM HB4
    obtain ⟨k, hk, rfl, HW, HR⟩ := hrel
    by_cases hlt : k < f.length
    · have hx : ((ByteArray.mk f.toArray)[k]'hlt) = f[k] := rfl
      have hb := UInt8.toNat_lt f[k]
      have hb' : ((f[k].toNat : Nat) : Int) < 256 := by omega
      have c4 := BB.cell HW.out hb
      have f4 := Lib.frozen_of_heap HW.out f[k].toNat
      have HW3 := Lib.hid (BB.put (v := true) HW.out (k := f[k].toNat) (fun i hi => hadK_succ hlt i hi))
      have HR3 := Lib.hid (And.intro (heap_set_other HR.out.1 (b := b3 + 1) (by omega) f[k].toNat (.bool true)) (And.intro (heap_set_other HR.out.2.1 (b := b3 + 1) (by omega) f[k].toNat (.bool true)) (HR.out.2.2.setCell (p := ⟨b3 + 1, f[k].toNat, none⟩) HLB.out (.bool true))))
      generalize hadK f k f[k].toNat = old2 at c4
      clear HW HR HNE2
      generalize f[k] = c at *
      go_wp2
      go_roundw
      case rel => exact ⟨k + 1, by omega, by go_num, HW3, HR3⟩
      case measure => simp [intOf]; omega
    · obtain rfl : k = f.length := by omega
      have hmem : ∀ x : UInt8, hadK f f.length x.toNat = decide (x ∈ f) := fun x => by unfold hadK; rw [UInt8.ofNat_toNat, List.take_length]
      have HMEM := Lib.hid hmem
      clear hmem
      generalize hadK f f.length = had at *
      clear hk hlt
      go_wp2
      go_loop [13] (fun i => ∃ k : Nat, k ≤ t.length ∧ i = .int .i64 (k : Nat) ∧ Hid (∀ b ∈ t.take k, b ∈ f)) (fun i => t.length - (intOf i).toNat)
      case atStart => exact ⟨0, Nat.zero_le _, rfl, Lib.hid (by simp)⟩
      case round =>
        obtain ⟨k, hk, rfl, HA⟩ := hrel
        by_cases hlt : k < t.length
        · have hx : ((ByteArray.mk t.toArray)[k]'hlt) = t[k] := rfl
          have hb := UInt8.toNat_lt t[k]
          have hb' : ((t[k].toNat : Nat) : Int) < 256 := by omega
          have c4 := BB.cell HW.out hb
          rw [HMEM.out] at c4
          by_cases hin : t[k] ∈ f
          · rw [decide_eq_true hin] at c4
            have HA2 : Hid (∀ b ∈ t.take (k + 1), b ∈ f) := Lib.hid (by
              intro b hb
              rw [List.take_succ_eq_append_getElem hlt, List.mem_append, List.mem_singleton] at hb
              rcases hb with hb | rfl
              · exact HA.out b hb
              · exact hin)
            clear hin HA
            generalize t[k] = c at *
            go_wp2
            go_round
            case rel => exact ⟨k + 1, by omega, by go_num, HA2⟩
            case measure => simp [intOf]; omega
          · rw [decide_eq_false hin] at c4
            clear hin HA HINV
            generalize t[k] = c at *
            go_wp2
            go_ret
            exact ⟨rfl, HR.out.2.2⟩
        · obtain rfl : k = t.length := by omega
          have HE := Lib.hid (HINV.out (by have := HA.out; rwa [List.take_length] at this))
          clear HINV HA hlt hk
          go_wp2
          refine wp_region_noPanic ?_
          refine wp_region_held_drew (S := fun w' => MB w' b3 23 n ∧ MB w' b2 23 m ∧ Below w.heap.size w w') (by kernel_rfl) ?_ (fun hHeld => ?_)
          · (try dsimp only); exact rs_below HR.out (Below.refl _ wr).drew
          refine wpAnyH_take (i := 0) (oi := ?o0) (v := MV n) ?hi0 (by kernel_rfl) (by kernel_rfl) (by kernel_rfl) (fun _ _ _ h => h) ?hy0 (by assumption) ?r0
          case hi0 => simp only [List.getElem?_toArray, List.getElem?_cons_succ, List.getElem?_cons_zero]; rfl
          case hy0 => exact Or.inl ⟨by rfl, fun w hSw => row_run rowP (.tmp 9) rfl rfl hSw.1⟩
          try simp only [Act.put, List.setIfInBounds_toArray, List.set_cons_zero, List.set_cons_succ]
          refine wpAnyH_take (i := 1) (oi := ?o1) (v := MV m) ?hi1 (by kernel_rfl) (by kernel_rfl) (by kernel_rfl) (fun _ _ _ h => h) ?hy1 (by assumption) ?r1
          case hi1 => simp only [List.getElem?_toArray, List.getElem?_cons_succ, List.getElem?_cons_zero]; rfl
          case hy1 => exact Or.inl ⟨by rfl, fun w hSw => row_run rowP (.tmp 7) rfl rfl hSw.2.1⟩
          try simp only [Act.put, List.setIfInBounds_toArray, List.set_cons_zero, List.set_cons_succ]
          refine wpAnyH_take (i := 2) (oi := ?o2) (v := ?v2) ?hi2 (by kernel_rfl) (by kernel_rfl) (by kernel_rfl) (fun _ _ _ h => h) ?hy2 (by assumption) ?r2
          case hi2 => simp only [List.getElem?_toArray, List.getElem?_cons_succ, List.getElem?_cons_zero]; rfl
          case hy2 => exact Or.inl ⟨by rfl, by (intro w hSw; (try dsimp only at hSw); go_simp) <;> with_reducible rfl⟩
          try simp only [Act.put, List.setIfInBounds_toArray, List.set_cons_zero, List.set_cons_succ]
          refine wpAnyH_take (i := 5) (oi := ?o5) (v := ?v5) ?hi5 (by kernel_rfl) (by kernel_rfl) (by kernel_rfl) (fun _ _ _ h => h) ?hy5 (by assumption) ?r5
          case hi5 => simp only [List.getElem?_toArray, List.getElem?_cons_succ, List.getElem?_cons_zero]; rfl
          case hy5 => exact Or.inl ⟨by rfl, by (intro w hSw; (try dsimp only at hSw); go_simp) <;> with_reducible rfl⟩
          try simp only [Act.put, List.setIfInBounds_toArray, List.set_cons_zero, List.set_cons_succ]
          refine wpAnyH_ready (rs := [3]) (by kernel_rfl) (by simp) ?_
          refine AllReadyH.cons (o := ?o3) ?hi3 (fun K hK => ?st3) AllReadyH.nil
          case hi3 => simp only [List.getElem?_toArray, List.getElem?_cons_succ, List.getElem?_cons_zero]; rfl
          go_simp
          (go_at_call 12; refine (apply_any m s _ (by omega)).mono ?_; rintro e w' ⟨rfl, hbl⟩)
          refine hK.out _ _ ?_ (fun hHeld => ?_)
          · (try dsimp only); (first | exact hHeld | exact rs_below hHeld hbl)
          clear hK K
          try simp only [Act.put, List.setIfInBounds_toArray, List.set_cons_zero, List.set_cons_succ]
          refine wpAnyH_ready (rs := [4]) (by kernel_rfl) (by simp) ?_
          refine AllReadyH.cons (o := ?o4) ?hi4 (fun K hK => ?st4) AllReadyH.nil
          case hi4 => simp only [List.getElem?_toArray, List.getElem?_cons_succ, List.getElem?_cons_zero]; rfl
          go_simp
          (go_at_call 12; refine (apply_any n _ _ (by simp [applyL]; omega)).mono ?_; rintro e w' ⟨rfl, hbl⟩)
          refine hK.out _ _ ?_ (fun hHeld => ?_)
          · (try dsimp only); (first | exact hHeld | exact rs_below hHeld hbl)
          clear hK K
          try simp only [Act.put, List.setIfInBounds_toArray, List.set_cons_zero, List.set_cons_succ]
          refine wpAnyH_take (i := 6) (oi := ?o6) (v := ?v6) ?hi6 (by kernel_rfl) (by kernel_rfl) (by kernel_rfl) (fun _ _ _ h => h) ?hy6 (by assumption) ?r6
          case hi6 => simp only [List.getElem?_toArray, List.getElem?_cons_succ, List.getElem?_cons_zero]; rfl
          case hy6 => exact Or.inl ⟨by rfl, by (intro w hSw; (try dsimp only at hSw); go_simp) <;> with_reducible rfl⟩
          try simp only [Act.put, List.setIfInBounds_toArray, List.set_cons_zero, List.set_cons_succ]
          refine wpAnyH_take (i := 7) (oi := ?o7) (v := ?v7) ?hi7 (by kernel_rfl) (by kernel_rfl) (by kernel_rfl) (fun _ _ _ h => h) ?hy7 (by assumption) ?r7
          case hi7 => simp only [List.getElem?_toArray, List.getElem?_cons_succ, List.getElem?_cons_zero]; rfl
          case hy7 => exact Or.inl ⟨by rfl, by (intro w hSw; (try dsimp only at hSw); go_simp) <;> with_reducible rfl⟩
          try simp only [Act.put, List.setIfInBounds_toArray, List.set_cons_zero, List.set_cons_succ]
          refine wpAnyH_done (by kernel_rfl) ?_ _
          refine NoPanic.normal ?_
          go_wp2
          go_ret
          exact ⟨by rw [HE.out]; exact ret1 (by simp), hHeld.2.2⟩
theorem transInverse_walk (f t s : ByteArray) (wf : f.size ≤ maxLen) (wt : t.size ≤ maxLen) (ws : s.size ≤ maxLen) (W : World) (hL : Lay W) :
    Calls Tryd.prog 6 #[.string f, .string t, .string s] W fun e w' => e = .returned (.bool true) ∧ Below W.heap.size W w' := by
  have h := inverse_walk f.data.toList t.data.toList s.data.toList W hL (len_str wf) (len_str wt) (len_str ws)
  rwa [S_mk, S_mk, S_mk] at h
end Go.Proofs.YtpgglnibfojdgaaDoor.Tr
