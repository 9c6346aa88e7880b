/- The walk of Untext. -/
import Derived.Test.YtiaiipmocamofaaGreatDoorPwShown
import Derived.Test.YtiaiipmocamofaaGreatDoorPuPlain
import Derived.Test.YtiaiipmocamofaaGreatDoorRpAll
namespace Go.Proofs.YtiaiipmocamofaaGreatDoor.Pc
open Go.RowKit Bld
set_option linter.unusedVariables false
set_option linter.unusedSimpArgs false
theorem row_zero_u : (∀ w, (zeroValue 74).run Tryz.prog w = .ok (.agg (Array.replicate 256 (.bool false))) w) ∧ (Tryz.prog.info? 74).map (·.size) = some 256 :=
  zero_of_info (P := Tryz.prog) (t := 74) (v := .agg (Array.replicate 256 (.bool false))) (n := 256) (by kernel_rfl)
theorem trimLu_any (rest : List UInt8) (w : World) :
    Calls Tryz.prog 21 #[S rest, S [32, 9]] w fun e w' => e = .returned (S (Lib.trimLeftS rest blanks)) ∧ Below w.heap.size w w' := by
  by_cases h0 : rest = []
  · subst h0
    refine (Any.strings_TrimLeft_empty Tryz.lays161 ⟨#[]⟩ ⟨[32, 9].toArray⟩ w (Or.inl rfl)).mono ?_
    rintro e w' ⟨rfl, rfl⟩
    exact ⟨rfl, Below.refl _ _⟩
  · refine (Any.strings_TrimLeft_set Tryz.lays161 row_zero_u.1 row_zero_u.2 ⟨rest.toArray⟩ ⟨[32, 9].toArray⟩ w (by decide) (by simp [ByteArray.size]; exact List.length_pos_iff.2 h0) (by decide) (fun j b hb => by
      have : b ∈ [(32 : UInt8), 9] := List.mem_of_getElem? (by simpa using hb)
      simp at this; rcases this with rfl | rfl <;> decide)).mono ?_
    rintro e w' ⟨rfl, rfl⟩
    exact ⟨by simp [blanks], ((Below.refl _ _).alloc (Nat.le_refl _) _).alloc (by simp) _⟩
def t0 : Rp.Two := ⟨92, 10, 92, 92, 92, 10, by decide⟩
theorem rep_eq (l : List UInt8) : t0.rep l = repL l := by
  induction l with
  | nil => rfl
  | cons c r ih =>
    simp only [Rp.Two.rep, repL, ih]
    congr 1
    unfold Rp.Two.rp esc t0
    by_cases h1 : c = 92
    · simp [h1]
    · by_cases h2 : c = 10
      · simp [h2]
      · simp [h1, h2]
theorem repL_le (l : List UInt8) : (repL l).length ≤ 2 * l.length := by
  rw [repL_len]
  have := List.countP_le_length (p := esc) (l := l)
  omega
set_option maxRecDepth 100000 in
set_option maxHeartbeats 1600000 in
theorem untext_any (l : List UInt8) (w : World) (hl : l.length ≤ 10000) :
    Calls Tryz.prog 7 #[S l] w fun e w' => e = .returned (V2 (untextL l)) ∧ Below w.heap.size w w' := by
  cases hs : Lib.hasSuffix l [10]
  · have HU := Lib.hid (show untextL l = ([], 1) from by unfold untextL; rw [hs]; rfl)
    have HS := Lib.hid hs
    clear hs
    have HC := Lib.hid (Tryz.strings_CutSuffix ⟨l.toArray⟩ ⟨#[10]⟩ w (by simp [ByteArray.size]; omega))
    go_enter Tryz.func7, Tryz.ntmps7
    go_wp2_with (go_at_call 18; refine HC.out.mono ?_; rintro e w' ⟨rfl, hw⟩; have hw2 := hw.symm; clear hw; subst hw2; rw [show Lib.hasSuffix (ByteArray.mk l.toArray).data.toList (ByteArray.mk #[10]).data.toList = false from by simpa using HS.out])
    go_ret2
    rw [HU.out]
    exact ⟨rfl, Below.refl _ _⟩
  · obtain ⟨s, hsr⟩ : ∃ s, l.take (l.length - 1) = s := ⟨_, rfl⟩
    have hsl : s.length ≤ 10000 := by rw [← hsr]; simp; omega
    have HU := Lib.hid (show untextL l = (unL s, 0) from by unfold untextL; rw [hs, hsr]; rfl)
    have HT := Lib.hid (show Lib.trimSuffix (ByteArray.mk l.toArray).data.toList (ByteArray.mk #[10]).data.toList = s from by
      rw [← hsr]; simp [Lib.trimSuffix, hs])
    have HS := Lib.hid hs
    clear hs hsr
    have HC := Lib.hid (Tryz.strings_CutSuffix ⟨l.toArray⟩ ⟨#[10]⟩ w (by simp [ByteArray.size]; omega))
    have HH := Lib.hid (rep_head s)
    have hrl := repL_le s
    have HTH := Lib.hid (trimLeft_head (repL s))
    have HRE := Lib.hid (rep_eq s)
    have HUN := Lib.hid (show unL s = if head s then 92 :: repL s else repL s from rfl)
    obtain ⟨r, hr⟩ : ∃ r, repL s = r := ⟨_, rfl⟩
    rw [hr] at hrl HTH HRE HUN HH
    clear hr
    have ha := heap_alloc_new w (.cells #[S [92], S [92, 92], S [10], S [92, 10]] 9)
    have HNW := Lib.hid (Rp.newReplacer_any w.heap.size [92] [92, 92] [10] [92, 10] _ ha)
    have HB0 := (Below.refl w.heap.size w).alloc (Nat.le_refl _) (.cells #[S [92], S [92, 92], S [10], S [92, 10]] 9)
    have cc := fun w => run_string_add_lists (P := Tryz.prog) w [92] r (by simp) (by omega)
    clear ha
    cases hb : head s
    · have hh := HH.out
      rw [hb] at hh
      have HE := Lib.hid (HTH.out.2 hh).symm
      rw [hb] at HUN
      clear hb hh
      go_enter Tryz.func7, Tryz.ntmps7
      go_wp2_with (first
        | (go_at_call 18; refine HC.out.mono ?_; rintro e w' ⟨rfl, hw⟩; have hw2 := hw.symm; clear hw; subst hw2; rw [HT.out, show Lib.hasSuffix (ByteArray.mk l.toArray).data.toList (ByteArray.mk #[10]).data.toList = true from by simpa using HS.out])
        | (go_at_call 19; refine HNW.out.mono ?_; rintro e w1 ⟨b, d, rfl, HM, hb1, hb2⟩)
        | (go_at_call 20; refine (Rp.replace_any b d t0 s _ HM (by omega)).mono ?_; rintro e w2 ⟨rfl, hb3⟩; rw [HRE.out])
        | (go_at_call 21; refine (trimLu_any r _).mono ?_; rintro e w3 ⟨rfl, hb4⟩; rw [HE.out]))
      have HBX := HB0.trans (hb1.mono HB0.size)
      have HBY := HBX.trans (hb3.mono (Nat.le_trans HB0.size hb2))
      have HBZ := Lib.hid (HBY.trans (hb4.mono HBY.size))
      go_ret2
      rw [HU.out, HUN.out]
      exact ⟨rfl, HBZ.out⟩
    · have hh := HH.out
      rw [hb] at hh
      have HE : Hid ((r == Lib.trimLeftS r blanks) = false) := Lib.hid (by rw [beq_eq_false_iff_ne]; intro e; rw [HTH.out.1 e] at hh; cases hh)
      obtain ⟨r', hr'⟩ : ∃ r', Lib.trimLeftS r blanks = r' := ⟨_, rfl⟩
      rw [hr'] at HE
      have HR' := Lib.hid hr'
      clear hr'
      have he := HE.out
      rw [hb] at HUN
      clear hb hh
      go_enter Tryz.func7, Tryz.ntmps7
      go_wp2_with (first
        | (go_at_call 18; refine HC.out.mono ?_; rintro e w' ⟨rfl, hw⟩; have hw2 := hw.symm; clear hw; subst hw2; rw [HT.out, show Lib.hasSuffix (ByteArray.mk l.toArray).data.toList (ByteArray.mk #[10]).data.toList = true from by simpa using HS.out])
        | (go_at_call 19; refine HNW.out.mono ?_; rintro e w1 ⟨b, d, rfl, HM, hb1, hb2⟩)
        | (go_at_call 20; refine (Rp.replace_any b d t0 s _ HM (by omega)).mono ?_; rintro e w2 ⟨rfl, hb3⟩; rw [HRE.out])
        | (go_at_call 21; refine (trimLu_any r _).mono ?_; rintro e w3 ⟨rfl, hb4⟩; rw [HR'.out]))
      have HBX := HB0.trans (hb1.mono HB0.size)
      have HBY := HBX.trans (hb3.mono (Nat.le_trans HB0.size hb2))
      have HBZ := Lib.hid (HBY.trans (hb4.mono HBY.size))
      go_ret2
      rw [HU.out, HUN.out]
      exact ⟨rfl, HBZ.out⟩
end Go.Proofs.YtiaiipmocamofaaGreatDoor.Pc
