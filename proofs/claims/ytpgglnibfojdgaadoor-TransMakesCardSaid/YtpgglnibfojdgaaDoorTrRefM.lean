/- The reference's Same, Apply and Make: the walks. -/
import Derived.Test.YtpgglnibfojdgaaDoorTrRef
import Derived.DeepKeys
namespace Go.Proofs.YtpgglnibfojdgaaDoor.Tr
open Go.RowKit Go.Shelf Bld
set_option linter.unusedVariables false
set_option linter.unusedSimpArgs false
theorem mapM_all {α β : Type} (g : α → Option β) (h : α → β) : ∀ is : List α, (∀ i ∈ is, g i = some (h i)) → is.mapM g = some (is.map h)
  | [], _ => rfl
  | i :: r, hh => by
    rw [List.mapM_cons, hh i (by simp), mapM_all g h r (fun j hj => hh j (by simp [hj]))]
    rfl
theorem byteLit_wf (c : UInt8) : (Lit.int .u8 (c.toNat : Int)).wf = true := by
  have := UInt8.toNat_lt c
  simp [Lit.wf, IntKind.min, IntKind.max, IntKind.signed, IntKind.bits]; omega
theorem cellsM : Tryd.prog.cellsOf 23 = 256 := by kernel_rfl
theorem cellsY : Tryd.prog.cellsOf 5 = 1 := by kernel_rfl
theorem rc_list (f : MF) {i : Nat} (hi : i < 256) : ((rc f).toList.drop i).take 1 = [Value.int .u8 ((f i).toNat : Int)] := by
  have h := rc_at f hi
  have hl : i < (rc f).toList.length := by rw [Array.length_toList, rc_size]; exact hi
  rw [List.drop_eq_getElem_cons hl, List.take_succ_cons, List.take_zero]
  congr 1
  have : (rc f).toList[i]? = some (.int .u8 ((f i).toNat : Int)) := by rw [Array.getElem?_toList]; exact h
  rw [List.getElem?_eq_getElem hl] at this
  exact Option.some.inj this
theorem rc_lits (f : MF) : Tryd.prog.keyLits 2 23 (rc f).toList = some ((List.range 256).map fun i => [Lit.int .u8 ((f i).toNat : Int)]).flatten := by
  unfold Program.keyLits
  simp only [Tryd.underlying23, cellsM, cellsY, Array.length_toList, rc_size, if_true, Nat.mul_one]
  rw [mapM_all _ (fun i => [Lit.int .u8 ((f i).toNat : Int)])]
  · rfl
  · intro i hi
    rw [rc_list f (List.mem_range.1 hi)]
    unfold Program.keyLits
    simp only [Tryd.underlying5]
    rw [if_pos ⟨trivial, byteLit_wf (f i)⟩]
theorem run_eqM (f : MF) (w : World) : (Op.equalIn 10000 23 (MV f) (MV f)).run Tryd.prog w = .ok true w := by
  have hE := run_equalIn_deep (P := Tryd.prog) 9998 2 23 (by kernel_rfl)
  have hF : (MV f).formed Tryd.prog 23 = true := by
    simp only [Value.formed, Tryd.underlying23, rc_size, cellsM, beq_self_eq_true]
  obtain ⟨r, h1, h2⟩ := hE w 2 2 (MV f) (MV f) _ _ hF hF (rc_lits f) (rc_lits f)
  rw [h2.2 rfl] at h1
  exact h1
set_option maxRecDepth 100000 in
set_option maxHeartbeats 1600000 in
theorem refSame_any (w : World) : Calls Tryd.prog 15 #[] w fun e w' => e = .returned (MV idF) ∧ Below w.heap.size w w' := by
  have hz := rowR.hz
  have hbu := built_rmap
  have HR := Lib.hid (show MB ((w.alloc (Obj.cells (rc fun _ => 0) 28)).alloc (Obj.cells (rc fun _ => 0) 28)) w.heap.size 28 (sameK 0) from by
    have : rc (fun _ => 0) = rc (sameK 0) := rc_congr fun i _ => by simp [sameK]
    rw [this]; exact alloc_raw (heap_alloc_new _ _) _)
  have HM := Lib.hid (show MB ((w.alloc (Obj.cells (rc fun _ => 0) 28)).alloc (Obj.cells (rc fun _ => 0) 28)) (w.heap.size + 1) 28 (sameK 0) from by
    have : rc (fun _ => 0) = rc (sameK 0) := rc_congr fun i _ => by simp [sameK]
    rw [this]
    have := heap_alloc_new (w.alloc (Obj.cells (rc (sameK 0)) 28)) (Obj.cells (rc (sameK 0)) 28)
    rwa [show (w.alloc (Obj.cells (rc (sameK 0)) 28)).heap.size = w.heap.size + 1 from by simp] at this)
  have HB := Lib.hid (((Below.refl w.heap.size w).alloc (Nat.le_refl _) (Obj.cells (rc fun _ => 0) 28)).alloc (by simp) (Obj.cells (rc fun _ => 0) 28))
  have hsc : (storeCells ⟨w.heap.size + 1, 0, none⟩ (rc fun _ => 0).toList 0).run Tryd.prog ((w.alloc (Obj.cells (rc fun _ => 0) 28)).alloc (Obj.cells (rc fun _ => 0) 28)) = .ok () ((w.alloc (Obj.cells (rc fun _ => 0) 28)).alloc (Obj.cells (rc fun _ => 0) 28)) := by
    have := run_storeCells_new (P := Tryd.prog) (w.alloc (Obj.cells (rc fun _ => 0) 28)) 28 (rc fun _ => 0) (rc fun _ => 0) (by rw [rc_size]; exact rowR.hs) rfl (rc_one _)
    rwa [show (w.alloc (Obj.cells (rc fun _ => 0) 28)).heap.size = w.heap.size + 1 from by simp] at this
  have hn := rc_size fun _ => 0
  go_enter Tryd.func15, Tryd.ntmps15
  refine wp_seq_k fun K0 hK => ?_
  have HK0 := Lib.hid hK; clear hK
  go_wp2
  refine HK0.out _ _ ?_
  clear HK0 K0
  refine wp_seq_k fun K0 hK => ?_
  have HK0 := Lib.hid hK; clear hK
  go_wp2
  refine HK0.out _ _ ?_
  clear HK0 K0 hsc hn hz hbu
  generalize (w.alloc (Obj.cells (rc fun _ => 0) 28)).alloc (Obj.cells (rc fun _ => 0) 28) = W at *
  refine wp_seq_k fun K1 hK => ?_
  have HK := Lib.hid hK; clear hK
  go_wp2
  go_loopw [2] (fun i wr => ∃ k : Nat, k ≤ 256 ∧ i = .int .i64 (k : Nat) ∧ Hid (MB wr w.heap.size 28 (sameK 0)) ∧ Hid (MB wr (w.heap.size + 1) 28 (sameK k)) ∧ Hid (Below w.heap.size w wr)) (fun i _ => 256 - (intOf i).toNat)
  case atStart => exact ⟨0, by omega, rfl, HR, HM, HB⟩
  case round =>
    clear HR HM HB
    obtain ⟨k, hk, rfl, HR, HMk, HBk⟩ := hrel
    by_cases hlt : k < 256
    · have e : ((UInt8.ofNat k).toNat) = k := by
        have : (UInt8.ofNat k).toNat = k % 256 := rfl
        omega
      have c2 := HMk.out.cell (i := k) hlt
      have f2 := Lib.frozen_of_heap HMk.out k
      have HM2 := Lib.hid (MB.put (v := UInt8.ofNat k) (g := sameK (k + 1)) HMk.out (k := k) (fun i hi => by
        unfold sameK
        by_cases h1 : i = k
        · rw [if_pos h1, if_pos (by omega), h1]
        · rw [if_neg h1]
          by_cases h2 : i < k
          · rw [if_pos (by omega), if_pos h2]
          · rw [if_neg (by omega), if_neg h2]))
      rw [e] at HM2
      have HR2 := Lib.hid (heap_set_other HR.out (b := w.heap.size + 1) (by omega) k (.int .u8 ((k : Nat) : Int)))
      have HB2 := Lib.hid (HBk.out.setCell (p := ⟨w.heap.size + 1, k, none⟩) (Nat.le_succ _) (.int .u8 ((k : Nat) : Int)))
      have hm : ((k : Nat) : Int) % 256 = ((k : Nat) : Int) := by omega
      have hk' : ((k : Nat) : Int) < 256 := by omega
      generalize (sameK k k).toNat = old at c2
      clear e HMk HBk HR
      go_wp2
      go_roundw
      case rel => exact ⟨k + 1, by omega, by go_num, HR2, HM2, HB2⟩
      case measure => simp [intOf]; omega
    · obtain rfl : k = 256 := by omega
      have HI := Lib.hid (show MB wr (w.heap.size + 1) 28 idF from by
        have : rc (sameK 256) = rc idF := rc_congr fun i hi => by simp [sameK, idF, hi]
        rw [MB, ← this]; exact HMk.out)
      have HR3 := Lib.hid (heap_row_at HR.out (rc idF))
      have HB3 := Lib.hid (below_row HBk.out (Nat.le_refl _) (rc idF))
      go_wp2
      refine HK.out _ _ ?_
      clear HK
      refine wp_seq_k fun K3 hK => ?_
      refine tail_row rowR rfl rfl rfl rfl rfl rfl rfl rfl rfl rfl HI.out HR.out ?_
      refine wpList_nil ?_
      refine hK _ _ ?_
      go_wp2
      refine bodyPost_ret (v := MV idF) ?_ ?_ ?_
      · exact answer rowR rfl rfl HR3.out
      · rfl
      · exact ⟨rfl, HB3.out⟩
set_option maxRecDepth 100000 in
set_option maxHeartbeats 1600000 in
theorem refApply_any (f : MF) (s : List UInt8) (w : World) (hl : s.length ≤ 100000) :
    Calls Tryd.prog 13 #[MV f, S s] w fun e w' => e = .returned (S (applyL f s)) ∧ Below w.heap.size w w' := by
  have hn := rc_size f
  have HM0 := Lib.hid (heap_alloc_new w (.cells (rc f) 28))
  have HB0 := Lib.hid ((Below.refl w.heap.size w).alloc (Nat.le_refl _) (.cells (rc f) 28))
  have hz := rowR.hz
  have hsz : ∀ w, (sizeOf 28).run Tryd.prog w = .ok 256 w := by
    intro w
    have h := rowR.hs
    cases hi : Tryd.prog.info? 28 with
    | none => rw [hi] at h; cases h
    | some i => rw [hi] at h; simp [sizeOf, typeInfo, hi]; simpa using h
  have hag : ∀ w, (isAgg 28).run Tryd.prog w = .ok true w := fun w => by simp [isAgg, run_underlying rowR.hu]
  go_enter Tryd.func13, Tryd.ntmps13
  go_wp2
  clear hz hsz hag hn
  generalize w.alloc (.cells (rc f) 28) = W at *
  go_loopw [5, 6] (fun o i wr => ∃ k : Nat, k ≤ s.length ∧ i = .int .i64 (k : Nat) ∧ o = S (applyL f (s.take k)) ∧ Hid (MB wr w.heap.size 28 f) ∧ Hid (Below w.heap.size w wr)) (fun _ i _ => s.length - (intOf i).toNat)
  case atStart => exact ⟨0, Nat.zero_le _, rfl, rfl, HM0, HB0⟩
  case round =>
    clear HM0 HB0
    obtain ⟨k, hk, rfl, rfl, HM, HB⟩ := hrel
    by_cases hlt : k < s.length
    · have hx : ((ByteArray.mk s.toArray)[k]'hlt) = s[k] := rfl
      have hb := UInt8.toNat_lt s[k]
      have c3 := HM.out.cell hb
      have hb' : ((s[k].toNat : Nat) : Int) < 256 := by omega
      have cv := conv1 (f s[k].toNat)
      have HN : Hid (applyL f (s.take (k + 1)) = applyL f (s.take k) ++ [f s[k].toNat]) := Lib.hid (by
        rw [List.take_succ_eq_append_getElem hlt]; unfold applyL; rw [List.map_append]; rfl)
      have hol : (applyL f (s.take k)).length ≤ 100000 := by simp [applyL]; omega
      have ct := fun w => run_string_add_lists (P := Tryd.prog) w (applyL f (s.take k)) [f s[k].toNat] (by omega) (by simp)
      have HBA := Lib.hid (fun x => HB.out.alloc HB.out.size (.cells #[.int .u8 x] 5))
      have HMA := Lib.hid (fun x => alloc_raw HM.out (.cells #[.int .u8 x] 5))
      generalize applyL f (s.take k) = out at *
      generalize f s[k].toNat = d at *
      generalize s[k] = c at *
      clear HM HB
      go_wp2
      go_roundw
      case rel => exact ⟨k + 1, by omega, by go_num, by rw [HN.out], Lib.hid (HMA.out _), Lib.hid (HBA.out _)⟩
      case measure => simp [intOf]; omega
    · obtain rfl : k = s.length := by omega
      have HN : Hid (applyL f (s.take s.length) = applyL f s) := Lib.hid (by rw [List.take_length])
      rw [HN.out]
      obtain ⟨out, ho⟩ : ∃ out, applyL f s = out := ⟨_, rfl⟩
      rw [ho]
      have HO := Lib.hid ho
      clear ho HN
      go_wp2
      go_ret
      exact ⟨by rw [HO.out]; exact ret1 (by simp), HB.out⟩
theorem not_mem_take {f : List UInt8} {k : Nat} (h : k < f.length) (hno : ∀ j (hj : j < k), f[j]'(by omega) ≠ f[k]) : f[k] ∉ f.take k := by
  intro hm
  obtain ⟨j, hj, he⟩ := List.getElem_of_mem hm
  rw [List.getElem_take] at he
  exact hno j (by simp at hj; omega) he
set_option maxRecDepth 100000 in
set_option maxHeartbeats 1600000 in
theorem refMake_any (f t : List UInt8) (w : World) (hl : f.length ≤ 9223372036854775807) (hl2 : t.length ≤ 9223372036854775807) :
    Calls Tryd.prog 11 #[S f, S t] w fun e w' => e = .returned (.tuple #[MV (mkF f t).1, E (mkF f t).2]) ∧ Below w.heap.size w w' := by
  have hz := rowR.hz
  have hbu := built_rmap
  have HR0 := Lib.hid (show MB (w.alloc (.cells (rc fun _ => 0) 28)) w.heap.size 28 zeroF from heap_alloc_new _ _)
  have HB0 := Lib.hid ((Below.refl w.heap.size w).alloc (Nat.le_refl _) (.cells (rc fun _ => 0) 28))
  go_enter Tryd.func11, Tryd.ntmps11
  rw [show Code.region 2 = Fz 2 from rfl, show Code.region 13 = Fz 13 from rfl]
  go_wp2_with (go_at_call 15; refine (refSame_any _).mono ?_; rintro e w1 ⟨rfl, hb1⟩; have hsc := run_storeCells_new (P := Tryd.prog) w1 28 (rc fun _ => 0) (rc idF) (by rw [rc_size]; exact rowR.hs) (by rw [rc_size, rc_size]) (rc_one _); have hn := rc_size idF)
  rw [show Fz 2 = Code.region 2 from rfl]
  have hlt0 : w.heap.size < w1.heap.size := Nat.lt_of_lt_of_le (lt_of_heap HR0.out) hb1.size
  have HR1 : Hid (MB (w1.alloc (.cells (rc idF) 28)) w.heap.size 28 zeroF) :=
    Lib.hid (alloc_raw ((hb1.block _ (lt_of_heap HR0.out)).trans HR0.out) _)
  have HM1 : Hid (MB (w1.alloc (.cells (rc idF) 28)) w1.heap.size 28 (mapK f t 0)) :=
    Lib.hid (by
      have e : rc idF = rc (mapK f t 0) := rc_congr fun i _ => by simp [mapK, mapOf, idF]
      rw [MB, ← e]
      exact heap_alloc_new w1 _)
  have HB1 : Hid (Below w.heap.size w (w1.alloc (.cells (rc idF) 28))) :=
    Lib.hid ((HB0.out.trans (hb1.mono (by simp))).alloc (by omega) _)
  clear hb1 hsc hn HR0 HB0
  generalize hbm : w1.heap.size = bm at *
  generalize w1.alloc (.cells (rc idF) 28) = W1 at *
  clear hbm
  have hn := rc_size zeroF
  by_cases hne : f.length = t.length
  · have hneB : (((f.length : Nat) : Int) == ((t.length : Nat) : Int)) = true := by rw [beq_iff_eq]; omega
    have HNE := Lib.hid hne
    have HN0 : Hid ((f.take 0).Nodup) := Lib.hid (by simp)
    clear hne
    go_wp2
    go_loopw [7, 8] (fun i kk wr => ∃ k : Nat, k ≤ f.length ∧ i = .int .i64 (k : Nat) ∧ Hid (MB wr w.heap.size 28 zeroF) ∧ Hid (MB wr bm 28 (mapK f t k)) ∧ Hid (Below w.heap.size w wr) ∧ Hid ((f.take k).Nodup)) (fun i _ _ => f.length - (intOf i).toNat)
    case atStart => exact ⟨0, Nat.zero_le _, rfl, HR1, HM1, HB1, HN0⟩
    case round =>
      clear HR1 HM1 HB1 HN0
      obtain ⟨k, hk, rfl, HR, HM, HB, HN⟩ := hrel
      by_cases hlt : k < f.length
      · have hx : ((ByteArray.mk f.toArray)[k]'hlt) = f[k] := rfl
        have hlt2 : k < t.length := by rw [← HNE.out]; exact hlt
        have hx2 : ((ByteArray.mk t.toArray)[k]'hlt2) = t[k] := rfl
        have hb := UInt8.toNat_lt f[k]
        have hb' : ((f[k].toNat : Nat) : Int) < 256 := by omega
        have hI2 : ((k : Nat) : Int) < ((t.length : Nat) : Int) := by omega
        go_wp2
        go_loopw [8] (fun kk wr2 => ∃ j : Nat, j ≤ k ∧ kk = .int .i64 (j : Nat) ∧ Hid (∀ i (hi : i < j), i < k → ∀ hi2, f[i]'hi2 ≠ f[k]) ∧ Hid (MB wr2 w.heap.size 28 zeroF) ∧ Hid (MB wr2 bm 28 (mapK f t k)) ∧ Hid (Below w.heap.size w wr2)) (fun kk _ => k - (intOf kk).toNat)
        case atStart => exact ⟨0, Nat.zero_le _, rfl, Lib.hid (fun i hi => by omega), HR, HM, HB⟩
        case round =>
          clear HR HM HB
          obtain ⟨j, hj, rfl, HNO, HR, HM, HB⟩ := hrel
          by_cases hjk : j < k
          · have hjl : j < f.length := by omega
            have hxj : ((ByteArray.mk f.toArray)[j]'hjl) = f[j] := rfl
            have hjI : ((j : Nat) : Int) < ((f.length : Nat) : Int) := by omega
            have hkI : ((k : Nat) : Int) < ((f.length : Nat) : Int) := by omega
            have HB2 := Lib.hid HB.out.drew
            by_cases he : f[k] = f[j]
            · have heB : (((f[k].toNat : Nat) : Int) == ((f[j].toNat : Nat) : Int)) = true := by rw [he]; exact beq_self_eq_true _
              have hm : f[k] ∈ f.take k := by
                rw [he]
                have : (f.take k)[j]'(by simp; omega) = f[j] := List.getElem_take
                rw [← this]; exact List.getElem_mem _
              have HMK := Lib.hid (mkF_dup (t := t) (not_nodup_take hlt hm))
              have HRD : MB wr.drew w.heap.size 28 zeroF := HR.out
              have hsc := row_store (P := Tryd.prog) HRD (c' := rc zeroF) rfl (rc_one zeroF)
              have HR1 := Lib.hid (heap_row_at HRD (rc zeroF))
              have HB1 := Lib.hid (below_row HB2.out (Nat.le_refl _) (rc zeroF))
              clear hm he HRD HNO HN HM HR HB hlt2 hx2 hI2 hb hb'
              generalize f[k] = c at *
              generalize f[j] = d at *
              go_wp2
              go_region
              go_wp2
              refine bodyPost_ret (v := .tuple #[MV zeroF, E 100]) ?_ ?_ ?_
              · exact answer2 rowR rfl rfl rfl HR1.out
              · rfl
              · exact ⟨by rw [HMK.out], HB1.out⟩
            · have heB : (((f[k].toNat : Nat) : Int) == ((f[j].toNat : Nat) : Int)) = false := by
                rw [beq_eq_false_iff_ne]; intro q; exact he (UInt8.toNat_inj.1 (by omega))
              have HNO2 : Hid (∀ i (hi : i < j + 1), i < k → ∀ hi2, f[i]'hi2 ≠ f[k]) := Lib.hid (fun i hi hik hi2 => by
                by_cases hij : i = j
                · subst hij; exact fun q => he q.symm
                · exact HNO.out i (by omega) hik hi2)
              clear he HNO HN hlt2 hx2 hI2 hb hb'
              generalize f[k] = c at *
              generalize f[j] = d at *
              go_wp2
              go_region
              go_wp2
              go_roundw
              case rel => exact ⟨j + 1, by omega, by go_num, HNO2, Lib.hid HR.out, Lib.hid HM.out, HB2⟩
              case measure => simp [intOf]; omega
          · have hnm := not_mem_take hlt (fun i hi => HNO.out i (by omega) hi _)
            have hkI : ((k : Nat) : Int) < ((f.length : Nat) : Int) := by omega
            have c3 := HM.out.cell hb
            have f3 := Lib.frozen_of_heap HM.out f[k].toNat
            have HM2 := Lib.hid (MB.put (v := t[k]) HM.out (k := f[k].toNat) (fun i hi => mapK_succ HNE.out hlt hnm i hi))
            have HR3 := Lib.hid (heap_set_other HR.out (b := bm) (by omega) f[k].toNat (.int .u8 (t[k].toNat : Int)))
            have HB3 := Lib.hid (HB.out.drew.setCell (p := ⟨bm, f[k].toNat, none⟩) (by show w.heap.size ≤ bm; omega) (.int .u8 (t[k].toNat : Int)))
            have HN3 := Lib.hid ((nodup_take hlt).2 ⟨HN.out, hnm⟩)
            generalize (mapK f t k f[k].toNat).toNat = old at c3
            clear hnm HNO HN HM HR HB
            generalize f[k] = c at *
            generalize t[k] = d at *
            go_wp2
            go_region
            go_wp2
            go_roundw
            case rel => exact ⟨k + 1, by omega, by go_num, Lib.hid HR3.out, Lib.hid HM2.out, Lib.hid HB3.out, HN3⟩
            case measure => simp [intOf]; omega
      · obtain rfl : k = f.length := by omega
        have HMK := Lib.hid (mkF_ok HNE.out (by have := HN.out; rwa [List.take_length] at this))
        have HM2 : Hid (MB wr bm 28 (fun j => mapOf f t (UInt8.ofNat j))) := Lib.hid (by
          have h := HM.out
          unfold mapK at h
          rw [List.take_length] at h
          rw [show t.take f.length = t from by rw [HNE.out]; exact List.take_length] at h
          exact h)
        have HR1 := Lib.hid (heap_row_at HR.out (rc (fun j => mapOf f t (UInt8.ofNat j))))
        have HB1 := Lib.hid (below_row HB.out (Nat.le_refl _) (rc (fun j => mapOf f t (UInt8.ofNat j))))
        clear HN HM HB hn
        go_wp2
        rw [show Fz 13 = Code.region 13 from rfl]
        refine tail_row rowR rfl rfl rfl rfl rfl rfl rfl rfl rfl rfl HM2.out HR.out ?_
        go_wp2
        refine bodyPost_ret (v := .tuple #[MV (fun j => mapOf f t (UInt8.ofNat j)), E 0]) ?_ ?_ ?_
        · exact answer2 rowR rfl rfl rfl HR1.out
        · rfl
        · exact ⟨by rw [HMK.out], HB1.out⟩
  · have hneB : (((f.length : Nat) : Int) != ((t.length : Nat) : Int)) = true := by rw [bne_iff_ne]; omega
    have hsc := row_store (P := Tryd.prog) HR1.out (c' := rc zeroF) rfl (rc_one zeroF)
    have HR2 := Lib.hid (heap_row_at HR1.out (rc zeroF))
    have HB2 := Lib.hid (below_row HB1.out (Nat.le_refl _) (rc zeroF))
    have HM := Lib.hid (mkF_len hne)
    clear hne
    go_wp2
    refine bodyPost_ret (v := .tuple #[MV zeroF, E 100]) ?_ ?_ ?_
    · exact answer2 rowR rfl rfl rfl HR2.out
    · rfl
    · exact ⟨by rw [HM.out], HB2.out⟩
end Go.Proofs.YtpgglnibfojdgaaDoor.Tr
