/- trans.Make: the walk. -/
import Derived.Test.YtpgglnibfojdgaaGreatDoorTrApply
namespace Go.Proofs.YtpgglnibfojdgaaGreatDoor.Tr
open Go.RowKit Go.Shelf Bld
set_option linter.unusedVariables false
set_option linter.unusedSimpArgs false
abbrev zeroF : MF := fun _ => 0
/-- Rows of 256 truths. -/
def bc (f : Nat → Bool) : Array Value := (Array.range 256).map fun j => Value.bool (f j)
abbrev BB (w : World) (b : Nat) (f : Nat → Bool) : Prop := w.heap[b]? = some (.cells (bc f) 41 (0, 0))
theorem bc_size (f : Nat → Bool) : (bc f).size = 256 := by simp [bc]
theorem bc_at (f : Nat → Bool) {i : Nat} (hi : i < 256) : (bc f)[i]? = some (.bool (f i)) := by simp [bc, hi]
theorem bc_put {f g : Nat → Bool} {k : Nat} {v : Bool} (h : ∀ i, i < 256 → g i = if i = k then v else f i) : (bc f).setIfInBounds k (.bool v) = bc g := by
  apply Array.ext_getElem?
  intro i
  by_cases hi : i < 256
  · rw [bc_at _ hi, h i hi]
    by_cases hk : k = i
    · subst hk
      rw [Array.getElem?_setIfInBounds_self_of_lt (by rw [bc_size]; exact hi)]; simp
    · rw [Array.getElem?_setIfInBounds_ne hk, bc_at f hi, if_neg (fun e => hk e.symm)]
  · rw [Array.getElem?_eq_none (by rw [Array.size_setIfInBounds, bc_size]; omega), Array.getElem?_eq_none (by rw [bc_size]; omega)]
theorem BB.cell {w : World} {b : Nat} {f : Nat → Bool} (h : BB w b f) {i : Nat} (hi : i < 256) : w.cell? ⟨b, i, none⟩ = some (.bool (f i)) := by
  rw [Lib.cell_of_heap h]; exact bc_at f hi
theorem BB.put {w : World} {b : Nat} {f g : Nat → Bool} (h : BB w b f) {k : Nat} {v : Bool} (hg : ∀ i, i < 256 → g i = if i = k then v else f i) : BB (w.setCell ⟨b, k, none⟩ (.bool v)) b g := by
  unfold BB; rw [heap_set_at h, bc_put hg]
theorem zero_had : ∀ w, (zeroValue 41).run Tryz.prog w = .ok (.agg (bc fun _ => false)) w := by
  have := (zero_of_info (P := Tryz.prog) (t := 41) (v := .agg (Array.replicate 256 (.bool false))) (n := 256) (by kernel_rfl)).1
  rwa [show Array.replicate 256 (Value.bool false) = bc (fun _ => false) from by
    apply Array.ext
    · simp [bc_size]
    · intro i h1 h2; simp [bc]] at this
theorem built_map (w : World) : (Instr.build 29 #[]).run Tryz.prog w = .ok (.agg (rc zeroF)) w := by
  have := run_build (P := Tryz.prog) w 29 #[] (Array.replicate 256 (.int .u8 0)) (by kernel_rfl)
  rwa [zeroes] at this
theorem answer2 {t : TypeId} (ht : Row t) {fn : Func} {p q : Tmp} (h : fn.results = #[.cell p t, .tmp q]) {tmps : Array Value} {w : World} {g : Nat} {f : MF} {v : Value} (hp : tmps.getD p undef = .pointer (some ⟨g, 0, none⟩)) (hq : tmps.getD q undef = v) (hg : MB w g t f) :
    (results fn tmps).run Tryz.prog w = .ok (.tuple #[MV f, v]) w := by
  have hld := run_loadVar_row (P := Tryz.prog) w g t t (rc f) (0, 0) (.array 256 5) hg ht.hu rfl (by rw [rc_size]; exact ht.hs)
  have hp' : tmps[p]?.getD undef = .pointer (some ⟨g, 0, none⟩) := by simpa using hp
  have hq' : tmps[q]?.getD undef = v := by simpa using hq
  simp [results, h, hp', hq', asAddr, hld, Result.andThen]
/-- What Make answers. -/
def mkF (f t : List UInt8) : MF × Int := match makeL f t with
  | none => (zeroF, 100)
  | some g => (fun j => g (UInt8.ofNat j), 0)
theorem mkF_len {f t : List UInt8} (h : f.length ≠ t.length) : mkF f t = (zeroF, 100) := by unfold mkF makeL; rw [if_neg (fun q => h q.1)]
theorem mkF_dup {f t : List UInt8} (h : ¬ f.Nodup) : mkF f t = (zeroF, 100) := by unfold mkF makeL; rw [if_neg (fun q => h q.2)]
theorem mkF_ok {f t : List UInt8} (h : f.length = t.length) (hn : f.Nodup) : mkF f t = (fun j => mapOf f t (UInt8.ofNat j), 0) := by unfold mkF makeL; rw [if_pos ⟨h, hn⟩]
def mapK (f t : List UInt8) (k : Nat) : MF := fun j => mapOf (f.take k) (t.take k) (UInt8.ofNat j)
def hadK (f : List UInt8) (k : Nat) : Nat → Bool := fun j => decide (UInt8.ofNat j ∈ f.take k)
theorem ofNat_eq {i : Nat} (hi : i < 256) (c : UInt8) : UInt8.ofNat i = c ↔ i = c.toNat := by
  constructor
  · rintro rfl
    have : (UInt8.ofNat i).toNat = i % 256 := rfl
    omega
  · rintro rfl; exact UInt8.ofNat_toNat
theorem mapK_succ {f t : List UInt8} {k : Nat} (hl : f.length = t.length) (h : k < f.length) (hn : f[k] ∉ f.take k) (i : Nat) (hi : i < 256) :
    mapK f t (k + 1) i = if i = f[k].toNat then t[k]'(by omega) else mapK f t k i := by
  unfold mapK
  rw [mapOf_take hl h hn]
  by_cases he : i = f[k].toNat
  · rw [if_pos he, if_pos ((ofNat_eq hi _).2 he)]
  · rw [if_neg he, if_neg (fun q => he ((ofNat_eq hi _).1 q))]
theorem hadK_succ {f : List UInt8} {k : Nat} (h : k < f.length) (i : Nat) (hi : i < 256) : hadK f (k + 1) i = if i = f[k].toNat then true else hadK f k i := by
  unfold hadK
  rw [List.take_succ_eq_append_getElem h]
  by_cases he : i = f[k].toNat
  · rw [if_pos he, (ofNat_eq hi _).2 he, decide_eq_true_eq, List.mem_append]
    exact Or.inr (by simp)
  · rw [if_neg he]
    have hne : UInt8.ofNat i ≠ f[k] := fun q => he ((ofNat_eq hi _).1 q)
    congr 1
    rw [List.mem_append, List.mem_singleton]
    exact propext ⟨fun q => q.elim id (fun q => absurd q hne), Or.inl⟩
def Fz (n : Nat) := Code.region n
set_option maxRecDepth 100000 in
set_option maxHeartbeats 1600000 in
theorem make_any (f t : List UInt8) (w : World) (hl : f.length ≤ 9223372036854775807) (hl2 : t.length ≤ 9223372036854775807) :
    Calls Tryz.prog 9 #[S f, S t] w fun e w' => e = .returned (.tuple #[MV (mkF f t).1, E (mkF f t).2]) ∧ Below w.heap.size w w' := by
  have hsf : (ByteArray.mk f.toArray).size = f.length := by simp [ByteArray.size]
  have hst : (ByteArray.mk t.toArray).size = t.length := by simp [ByteArray.size]
  have hz := rowP.hz
  have hbu := built_map
  have hzh := zero_had
  have HR0 := Lib.hid (show MB (w.alloc (.cells (rc fun _ => 0) 29)) w.heap.size 29 zeroF from heap_alloc_new _ _)
  have HB0 := Lib.hid ((Below.refl w.heap.size w).alloc (Nat.le_refl _) (.cells (rc fun _ => 0) 29))
  by_cases hne : f.length = t.length
  · go_enter Tryz.func9, Tryz.ntmps9
    rw [show Code.region 13 = Fz 13 from rfl]
    have hneB : (((f.length : Nat) : Int) == ((t.length : Nat) : Int)) = true := by rw [beq_iff_eq]; omega
    have HNE := Lib.hid hne
    clear hne
    go_wp2_with (go_at_call 16; refine (same_any _).mono ?_; rintro e w1 ⟨rfl, hb1⟩; have hsc := run_storeCells_new (P := Tryz.prog) w1 29 (rc fun _ => 0) (rc idF) (by rw [rc_size]; exact rowP.hs) (by rw [rc_size, rc_size]) (rc_one _); have hn := rc_size idF)
    have hlt0 : w.heap.size < w1.heap.size := Nat.lt_of_lt_of_le (lt_of_heap HR0.out) hb1.size
    have HR1 : Hid (MB ((w1.alloc (.cells (rc idF) 29)).alloc (.cells (bc fun _ => false) 41)) w.heap.size 29 zeroF) :=
      Lib.hid (alloc_raw (alloc_raw ((hb1.block _ (lt_of_heap HR0.out)).trans HR0.out) _) _)
    have HM1 : Hid (MB ((w1.alloc (.cells (rc idF) 29)).alloc (.cells (bc fun _ => false) 41)) w1.heap.size 29 (mapK f t 0)) :=
      Lib.hid (by
        have e : rc idF = rc (mapK f t 0) := rc_congr fun i _ => by simp [mapK, mapOf, idF]
        rw [MB, ← e]
        exact alloc_raw (heap_alloc_new w1 _) _)
    have HH1 : Hid (BB ((w1.alloc (.cells (rc idF) 29)).alloc (.cells (bc fun _ => false) 41)) (w1.heap.size + 1) (hadK f 0)) :=
      Lib.hid (by
        have e : (fun _ => false) = hadK f 0 := by funext j; simp [hadK]
        have := heap_alloc_new (w1.alloc (.cells (rc idF) 29)) (.cells (bc fun _ => false) 41)
        rw [show (w1.alloc (.cells (rc idF) 29)).heap.size = w1.heap.size + 1 from by simp] at this
        rw [BB, ← e]
        exact this)
    have HB1 : Hid (Below w.heap.size w ((w1.alloc (.cells (rc idF) 29)).alloc (.cells (bc fun _ => false) 41))) :=
      Lib.hid (((HB0.out.trans (hb1.mono (by simp))).alloc (by omega) _).alloc (by simp; omega) _)
    have HN0 : Hid ((f.take 0).Nodup) := Lib.hid (by simp)
    clear hb1 hsc hn HR0 HB0 hzh
    generalize hbm : w1.heap.size = bm at *
    generalize (w1.alloc (.cells (rc idF) 29)).alloc (.cells (bc fun _ => false) 41) = W1 at *
    clear hbm
    go_loopw [19] (fun i wr => ∃ k : Nat, k ≤ f.length ∧ i = .int .i64 (k : Nat) ∧ Hid (MB wr w.heap.size 29 zeroF) ∧ Hid (MB wr bm 29 (mapK f t k)) ∧ Hid (BB wr (bm + 1) (hadK f k)) ∧ Hid (Below w.heap.size w wr) ∧ Hid ((f.take k).Nodup)) (fun i _ => f.length - (intOf i).toNat)
    case atStart => exact ⟨0, Nat.zero_le _, rfl, HR1, HM1, HH1, HB1, HN0⟩
    case round =>
      clear HR1 HM1 HH1 HB1 HN0
      obtain ⟨k, hk, rfl, HR, HM, HH, HB, HN⟩ := hrel
      by_cases hlt : k < f.length
      · have hx : ((ByteArray.mk f.toArray)[k]'hlt) = f[k] := rfl
        have hlt2 : k < t.length := by rw [← HNE.out]; exact hlt
        have hx2 : ((ByteArray.mk t.toArray)[k]'hlt2) = t[k] := rfl
        have hb := UInt8.toNat_lt f[k]
        have hb' : ((f[k].toNat : Nat) : Int) < 256 := by omega
        have hI2 : ((k : Nat) : Int) < ((t.length : Nat) : Int) := by omega
        have hc := HH.out.cell hb
        have hhd : hadK f k f[k].toNat = decide (f[k] ∈ f.take k) := by unfold hadK; rw [UInt8.ofNat_toNat]
        by_cases hm : f[k] ∈ f.take k
        · rw [hhd, decide_eq_true hm] at hc
          have hsc := row_store (P := Tryz.prog) HR.out (c' := rc zeroF) rfl (rc_one zeroF)
          have hn := rc_size zeroF
          have HR1 := Lib.hid (heap_row_at HR.out (rc zeroF))
          have HB1 := Lib.hid (below_row HB.out (Nat.le_refl _) (rc zeroF))
          have HMK := Lib.hid (mkF_dup (t := t) (not_nodup_take hlt hm))
          clear hm hhd HN HM HH HR HB
          generalize f[k] = c at *
          generalize t[k] = d at *
          go_wp2
          refine bodyPost_ret (v := .tuple #[MV zeroF, E 100]) ?_ ?_ ?_
          · exact answer2 rowP rfl rfl rfl HR1.out
          · rfl
          · exact ⟨by rw [HMK.out], HB1.out⟩
        · rw [hhd, decide_eq_false hm] at hc
          have c3 := HM.out.cell hb
          have f3 := Lib.frozen_of_heap HM.out f[k].toNat
          have HM2 := Lib.hid (MB.put (v := t[k]) HM.out (k := f[k].toNat) (fun i hi => mapK_succ HNE.out hlt hm i hi))
          have HH2 := Lib.hid (heap_set_other HH.out (b := bm) (by omega) f[k].toNat (.int .u8 (t[k].toNat : Int)))
          have c4 := BB.cell HH2.out hb
          have f4 := Lib.frozen_of_heap HH2.out f[k].toNat
          have HH3 := Lib.hid (BB.put (v := true) HH2.out (k := f[k].toNat) (fun i hi => hadK_succ hlt i hi))
          have HM3 := Lib.hid (heap_set_other HM2.out (b := bm + 1) (by omega) f[k].toNat (.bool true))
          have HR3 := Lib.hid (heap_set_other (heap_set_other HR.out (b := bm) (by omega) f[k].toNat (.int .u8 (t[k].toNat : Int))) (b := bm + 1) (by omega) f[k].toNat (.bool true))
          have HB3 := Lib.hid ((HB.out.setCell (p := ⟨bm, f[k].toNat, none⟩) (by show w.heap.size ≤ bm; omega) (.int .u8 (t[k].toNat : Int))).setCell (p := ⟨bm + 1, f[k].toNat, none⟩) (by show w.heap.size ≤ bm + 1; omega) (.bool true))
          have HN3 := Lib.hid ((nodup_take hlt).2 ⟨HN.out, hm⟩)
          generalize (mapK f t k f[k].toNat).toNat = old at c3
          generalize hadK f k f[k].toNat = old2 at c4
          clear hm hhd HN HM HH HR HB HH2 HM2
          generalize f[k] = c at *
          generalize t[k] = d at *
          go_wp2
          go_roundw
          case rel => exact ⟨k + 1, by omega, by go_num, HR3, HM3, HH3, HB3, HN3⟩
          case measure => simp [intOf]; omega
      · obtain rfl : k = f.length := by omega
        have HMK := Lib.hid (mkF_ok HNE.out (by have := HN.out; rwa [List.take_length] at this))
        have HM2 : Hid (MB wr bm 29 (fun j => mapOf f t (UInt8.ofNat j))) := Lib.hid (by
          have h := HM.out
          unfold mapK at h
          rw [List.take_length] at h
          rw [show t.take f.length = t from by rw [HNE.out]; exact List.take_length] at h
          exact h)
        have HR1 := Lib.hid (heap_row_at HR.out (rc (fun j => mapOf f t (UInt8.ofNat j))))
        have HB1 := Lib.hid (below_row HB.out (Nat.le_refl _) (rc (fun j => mapOf f t (UInt8.ofNat j))))
        clear HH HN HM HB
        go_wp2
        rw [show Fz 13 = Code.region 13 from rfl]
        refine tail_row rowP rfl rfl rfl rfl rfl rfl rfl rfl rfl rfl HM2.out HR.out ?_
        go_wp2
        refine bodyPost_ret (v := .tuple #[MV (fun j => mapOf f t (UInt8.ofNat j)), E 0]) ?_ ?_ ?_
        · exact answer2 rowP rfl rfl rfl HR1.out
        · rfl
        · exact ⟨by rw [HMK.out], HB1.out⟩
  · have hneB : (((f.length : Nat) : Int) != ((t.length : Nat) : Int)) = true := by rw [bne_iff_ne]; omega
    have hsc := row_store (P := Tryz.prog) HR0.out (c' := rc zeroF) rfl (rc_one zeroF)
    have hn := rc_size zeroF
    have HR1 := Lib.hid (heap_row_at HR0.out (rc zeroF))
    have HB1 := Lib.hid (below_row HB0.out (Nat.le_refl _) (rc zeroF))
    have HM := Lib.hid (mkF_len hne)
    clear hne
    go_enter Tryz.func9, Tryz.ntmps9
    rw [show Code.region 13 = Fz 13 from rfl]
    go_wp2
    refine bodyPost_ret (v := .tuple #[MV zeroF, E 100]) ?_ ?_ ?_
    · exact answer2 rowP rfl rfl rfl HR1.out
    · rfl
    · exact ⟨by rw [HM.out], HB1.out⟩
end Go.Proofs.YtpgglnibfojdgaaGreatDoor.Tr
