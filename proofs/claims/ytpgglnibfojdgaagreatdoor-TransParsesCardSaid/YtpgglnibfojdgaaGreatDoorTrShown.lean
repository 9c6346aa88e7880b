/- What the laws of trans ask first. -/
import Derived.Test.YtpgglnibfojdgaaGreatDoorTrMake
namespace Go.Proofs.YtpgglnibfojdgaaGreatDoor.Tr
open Go.RowKit Go.Shelf Bld
set_option linter.unusedVariables false
set_option linter.unusedSimpArgs false
/-- What the laws' worlds hold. -/
structure Lay (w : World) : Prop where
  t : Tab w
  e : Errs w
theorem Lay.below {w w' : World} (h : Lay w) (hb : Below w.heap.size w w') : Lay w' := ⟨h.t.below hb, h.e.below hb⟩
theorem back_ok {t s : List UInt8} (h : okL t s = true) : backP s = (t, 0) := by
  obtain ⟨h1, h2, _⟩ := ok_dec h
  unfold backP
  rw [if_pos h1, h2, if_pos h]
theorem shown_back : backP [97, 92, 116, 92, 51, 49, 48, 36, 10] = ([97, 9, 200], 0) := by
  refine back_ok ?_
  unfold okL
  rw [List.any_eq_true]
  exact ⟨0, by simp, by decide⟩
theorem shown_list : listL [97, 9, 200] 0 = [97, 92, 116, 92, 51, 49, 48, 36, 10] := by decide
theorem shown_make : mkF [97, 98] [98, 97] = (fun j => mapOf [97, 98] [98, 97] (UInt8.ofNat j), 0) := mkF_ok rfl (by decide)
theorem shown_apply : applyL (fun j => mapOf [97, 98] [98, 97] (UInt8.ofNat j)) [97, 98, 99] = [98, 97, 99] := by decide
theorem sizeOf_map (w : World) : (sizeOf 29).run Tryz.prog w = .ok 256 w := by
  have h := rowP.hs
  cases hi : Tryz.prog.info? 29 with
  | none => rw [hi] at h; cases h
  | some i => rw [hi] at h; simp [sizeOf, typeInfo, hi]; simpa using h
theorem isAgg_map (w : World) : (isAgg 29).run Tryz.prog w = .ok true w := by
  simp [isAgg, run_underlying rowP.hu]
set_option maxRecDepth 100000 in
set_option maxHeartbeats 1600000 in
theorem shown_any (w : World) (hL : Lay w) :
    Calls Tryz.prog 4 #[] w fun e w' => e = .returned (.bool true) ∧ Below w.heap.size w w' := by
  have hz := rowP.hz
  have h1 := sizeOf_map
  have h2 := isAgg_map
  have hb1 := shown_back
  have hl1 := shown_list
  have HM := Lib.hid shown_make
  have HA := Lib.hid shown_apply
  have HL := Lib.hid hL
  have HB := Lib.hid (Below.refl w.heap.size w)
  clear hL
  generalize (fun j => mapOf [97, 98] [98, 97] (UInt8.ofNat j)) = g at *
  go_enter Tryz.func4, Tryz.ntmps4
  go_wp2_with (first
    | (go_at_call 9; refine (make_any [97, 98] [98, 97] _ (by decide) (by decide)).mono ?_; rintro e w1 ⟨rfl, hb⟩; rw [HM.out]; have hsc := run_storeCells_new (P := Tryz.prog) w1 29 (rc fun _ => 0) (rc g) (by rw [rc_size]; exact rowP.hs) (by rw [rc_size, rc_size]) (rc_one _); have hn := rc_size g; have HG := Lib.hid (heap_alloc_new w1 (.cells (rc g) 29)); have HB1 := Lib.hid (hb.alloc hb.size (.cells (rc g) 29)); clear hb)
    | (go_at_call 10; refine (back_any [97, 92, 116, 92, 51, 49, 48, 36, 10] _ (HL.out.below HB1.out).t (HL.out.below HB1.out).e (by decide)).mono ?_; rintro e w2 ⟨rfl, hb⟩; rw [hb1]; have HG2 := (hb.block _ (lt_of_heap HG.out)).trans HG.out; have hrl := row_load (P := Tryz.prog) HG2 (rc_size g); have HB2 := Lib.hid (HB1.out.trans (hb.mono HB1.out.size)); clear hb))
  refine wp_load_row 29 (.tmp 1) rfl w1.heap.size rfl 29 (rc g) (0, 0) (.array 256 5) HG2 rowP.hu rfl (by rw [rc_size]; exact rowP.hs) ?_
  clear hrl hsc hn HG HB1
  go_wp2_with (first
    | (go_at_call 11; refine (apply_any g [97, 98, 99] _ (by decide)).mono ?_; rintro e w3 ⟨rfl, hb⟩; rw [HA.out]; have HB3 := Lib.hid (HB2.out.trans (hb.mono HB2.out.size)); clear hb)
    | (go_at_call 12; refine (list_any [97, 9, 200] 0 _ (HL.out.below HB3.out).t (by decide)).mono ?_; rintro e w4 ⟨rfl, hb⟩; rw [hl1]; have HB4 := Lib.hid (HB3.out.trans (hb.mono HB3.out.size)); clear hb))
  go_ret
  exact ⟨ret1 (by simp), HB4.out⟩
end Go.Proofs.YtpgglnibfojdgaaGreatDoor.Tr
