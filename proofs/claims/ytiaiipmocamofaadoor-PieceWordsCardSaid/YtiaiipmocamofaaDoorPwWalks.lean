/- The walks of Blanks, Number and Word. -/
import Derived.Test.YtiaiipmocamofaaDoorPwShown
namespace Go.Proofs.YtiaiipmocamofaaDoor.Pc
open Go.RowKit Bld
set_option linter.unusedVariables false
set_option linter.unusedSimpArgs false
theorem size_mk (l : List UInt8) : (ByteArray.mk l.toArray).size = l.length := by simp [ByteArray.size]
theorem dat_mk (l : List UInt8) : (ByteArray.mk l.toArray).data.toList = l := by simp
theorem row_zero : (∀ w, (zeroValue 83).run Tryd.prog w = .ok (.agg (Array.replicate 256 (.bool false))) w) ∧ (Tryd.prog.info? 83).map (·.size) = some 256 :=
  zero_of_info (P := Tryd.prog) (t := 83) (v := .agg (Array.replicate 256 (.bool false))) (n := 256) (by kernel_rfl)
theorem trimL_any (rest cs : List UInt8) (w : World) (h2 : 2 ≤ cs.length) (hl : cs.length ≤ 1000) (ha : ∀ c ∈ cs, c.toNat < 128) :
    Calls Tryd.prog 26 #[S rest, S cs] w fun e w' => e = .returned (S (Lib.trimLeftS rest cs)) ∧ Below w.heap.size w w' := by
  by_cases h0 : rest = []
  · subst h0
    refine (Any.strings_TrimLeft_empty Tryd.lays161 ⟨#[]⟩ ⟨cs.toArray⟩ w (Or.inl rfl)).mono ?_
    rintro e w' ⟨rfl, rfl⟩
    exact ⟨rfl, Below.refl _ _⟩
  · refine (Any.strings_TrimLeft_set Tryd.lays161 row_zero.1 row_zero.2 ⟨rest.toArray⟩ ⟨cs.toArray⟩ w (by simpa [ByteArray.size] using h2) (by simp [ByteArray.size]; exact List.length_pos_iff.2 h0) (by simp [ByteArray.size]; omega) (fun j b hb => ha b (List.mem_of_getElem? (by simpa using hb)))).mono ?_
    rintro e w' ⟨rfl, rfl⟩
    exact ⟨by simp, ((Below.refl _ _).alloc (Nat.le_refl _) _).alloc (by simp) _⟩
theorem trimR_any (rest cs : List UInt8) (w : World) (h2 : 2 ≤ cs.length) (hl : cs.length ≤ 1000) (hr : rest.length ≤ 100000) (ha : ∀ c ∈ cs, c.toNat < 128) :
    Calls Tryd.prog 31 #[S rest, S cs] w fun e w' => e = .returned (S (Lib.trimRightS rest cs)) ∧ Below w.heap.size w w' := by
  by_cases h0 : rest = []
  · subst h0
    refine (Any.strings_TrimRight_empty Tryd.lays162 ⟨#[]⟩ ⟨cs.toArray⟩ w (Or.inl rfl)).mono ?_
    rintro e w' ⟨rfl, rfl⟩
    exact ⟨rfl, Below.refl _ _⟩
  · refine (Any.strings_TrimRight_set Tryd.lays162 row_zero.1 row_zero.2 ⟨rest.toArray⟩ ⟨cs.toArray⟩ w (by simpa [ByteArray.size] using h2) (by simp [ByteArray.size]; exact List.length_pos_iff.2 h0) (by simp [ByteArray.size]; omega) (by simp [ByteArray.size]; omega) (fun j b hb => ha b (List.mem_of_getElem? (by simpa using hb)))).mono ?_
    rintro e w' ⟨rfl, rfl⟩
    exact ⟨by simp, ((Below.refl _ _).alloc (Nat.le_refl _) _).alloc (by simp) _⟩
theorem idx_neg : ∀ (l : List UInt8) (c : UInt8), decide (Lib.indexByte l c < 0) = !l.contains c
  | [], c => rfl
  | b :: l, c => by
    have ih := idx_neg l c
    have hg := Lib.indexByte_ge l c
    unfold Lib.indexByte
    rw [List.contains_cons]
    cases hb : b == c
    · have hb' : (c == b) = false := by rw [Bool.eq_false_iff] at hb ⊢; intro h; apply hb; rw [beq_iff_eq] at h ⊢; exact h.symm
      rw [hb', Bool.false_or, ← ih]
      simp only [Bool.false_eq_true, if_false]
      by_cases h1 : Lib.indexByte l c = -1
      · rw [h1]; rfl
      · have : (Lib.indexByte l c == -1) = false := by simpa using h1
        rw [this]
        simp only [Bool.false_eq_true, if_false]
        rw [Bool.eq_iff_iff, decide_eq_true_eq, decide_eq_true_eq]; omega
    · have hb' : (c == b) = true := by rw [beq_iff_eq] at hb ⊢; exact hb.symm
      rw [hb', if_pos rfl]; rfl
theorem ex_zero (l : List UInt8) (n : Nat) : (⟨l.toArray⟩ : ByteArray).extract 0 n = ⟨(l.take n).toArray⟩ := by
  have := extract_take l 0 n
  simpa using this
set_option maxHeartbeats 400000 in
theorem blanks_any (l : List UInt8) (at_ : Int) (w : World) (hl : l.length ≤ 10000) (ha : -9223372036854775808 ≤ at_) (ha' : at_ ≤ 9223372036854775807) :
    Calls Tryd.prog 14 #[S l, E at_] w fun e w' => e = .returned (E (blanksL l at_)) ∧ Below w.heap.size w w' := by
  have hpl := fromL_le l.length at_
  have HT := Lib.hid (blanks_trim l _ hpl)
  have HL := Lib.hid (show (Lib.trimLeftS (l.drop (fromL l.length at_)) blanks).length ≤ l.length from by
    unfold Lib.trimLeftS
    have := (List.dropWhile_suffix (fun x => blanks.contains x) (l := l.drop (fromL l.length at_))).length_le
    rw [List.length_drop] at this; omega)
  have hsz := size_mk l
  have CT := fun W => trimL_any (l.drop (fromL l.length at_)) blanks W (by decide) (by decide) (by decide)
  generalize Lib.trimLeftS (l.drop (fromL l.length at_)) blanks = tr at *
  have hszt := size_mk tr
  have hsub : (l.length : Int) - (tr.length : Int) = (blanksL l at_ : Int) := by
    have := HT.out
    have := HL.out
    unfold blanksL; omega
  have hbl : (blanksL l at_ : Int) ≤ 10000 := by omega
  go_enter Tryd.func14, Tryd.ntmps14
  go_wp2_with (first
    | (go_at_call 20; refine (from_any _ _ _ (by omega) ha ha').mono ?_; rintro e w' ⟨rfl, rfl⟩)
    | (go_at_call 26; refine (CT _).mono ?_; rintro e w1 ⟨rfl, hb⟩))
  go_ret
  exact ⟨rfl, hb⟩
/-- The two variables that tell an error of a number. -/
def Errs (w : World) : Prop := (∃ ev, w.cell? ⟨0, 0, none⟩ = some ev ∧ (ev = .nilIface ∨ ∃ te pe, ev = .iface te pe)) ∧ (∃ ev, w.cell? ⟨1, 0, none⟩ = some ev ∧ (ev = .nilIface ∨ ∃ te pe, ev = .iface te pe))
theorem Errs.below {w w' : World} (h : Errs w) (hb : Below w.heap.size w w') : Errs w' := by
  obtain ⟨⟨e0, h0, k0⟩, ⟨e1, h1, k1⟩⟩ := h
  exact ⟨⟨e0, (hb.cell (p := ⟨0, 0, none⟩) (World.block_lt_of_cell? w _ h0)).trans h0, k0⟩, ⟨e1, (hb.cell (p := ⟨1, 0, none⟩) (World.block_lt_of_cell? w _ h1)).trans h1, k1⟩⟩
theorem below_of {w w' : World} {t : TypeId} {s : ByteArray} (h : w' = w ∨ w' = Lib.bytesWorld w t s) : Below w.heap.size w w' := by
  rcases h with rfl | rfl
  · exact Below.refl _ _
  · exact ⟨rfl, rfl, rfl, by rw [Lib.bytesWorld_size]; omega, fun k hk => Lib.bytesWorld_at_old w t s k hk⟩
abbrev N3 (x : Nat × Nat × Int) : Value := .tuple #[E x.1, E x.2.1, E x.2.2]
theorem trim_len (rest : List UInt8) : (Lib.trimLeftS rest digits).length = rest.length - run isD rest := by
  unfold Lib.trimLeftS
  rw [show (fun x => digits.contains x) = isD from rfl, run_drop, List.length_drop]
set_option maxHeartbeats 1000000 in
theorem number_any (l : List UInt8) (at_ : Int) (w : World) (hl : l.length ≤ 10000) (ha : -9223372036854775808 ≤ at_) (ha' : at_ ≤ 9223372036854775807) (hE : Errs w) :
    Calls Tryd.prog 10 #[S l, E at_] w fun e w' => e = .returned (N3 (numL l at_)) ∧ Below w.heap.size w w' := by
  have HE := Lib.hid hE
  clear hE
  have hpl := fromL_le l.length at_
  obtain ⟨p, hp⟩ : ∃ p, fromL l.length at_ = p := ⟨_, rfl⟩
  rw [hp] at hpl
  obtain ⟨rest, hr⟩ : ∃ rest, l.drop p = rest := ⟨_, rfl⟩
  have hrl : rest.length = l.length - p := by rw [← hr, List.length_drop]
  obtain ⟨n, hn⟩ : ∃ n, run isD rest = n := ⟨_, rfl⟩
  have hnl : n ≤ rest.length := by rw [← hn]; exact run_le _ _
  have HTL := Lib.hid (trim_len rest)
  have HALL := Lib.hid (take_all (p := isD) rest)
  rw [hn] at HTL HALL
  have hex := ex_zero rest n
  obtain ⟨ds, hds⟩ : ∃ ds, rest.take n = ds := ⟨_, rfl⟩
  have hdl : ds.length = n := by rw [← hds, List.length_take]; omega
  have HNUM := Lib.hid (show numL l at_ = if n = 0 then (0, p, 3) else if big (valN 0 ds) = true then (0, p, 1) else (valN 0 ds, p + n, 0) from by
    unfold numL; simp only [hp, hr, hn, hds])
  rw [hds] at hex HALL
  have hszr := size_mk rest
  have hszd := size_mk ds
  have HP := Lib.hid (parse_digits ds 0 HALL.out (by omega))
  have HHP := Lib.hid hp
  have HHR := Lib.hid hr
  clear hn hds hp hr
  have CF := fun W => from_any l at_ W (by omega) ha ha'
  rw [HHP.out, HHR.out] at CF
  have CT := fun W => trimL_any rest digits W (by decide) (by decide) (by decide)
  have htl := HTL.out
  generalize Lib.trimLeftS rest digits = tr at *
  have hszt := size_mk tr
  have hsub : (rest.length : Int) - (tr.length : Int) = (n : Int) := by omega
  have htl2 : tr.length ≤ rest.length := by omega
  have hrl2 : rest.length ≤ 10000 := by omega
  have hpn : p + n ≤ 10000 := by omega
  clear htl hrl
  by_cases h0 : n = 0
  · have hd0 : ds = [] := List.length_eq_zero_iff.1 (by omega)
    obtain ⟨ev, hv, hev⟩ := HE.out.1
    have HV := Lib.hid (And.intro hv hev)
    clear hv hev
    subst hd0
    subst h0
    go_enter Tryd.func10, Tryd.ntmps10
    go_wp2_with (first
      | (go_at_call 20; refine (CF _).mono ?_; rintro e w' ⟨rfl, rfl⟩)
      | (go_at_call 26; refine (CT _).mono ?_; rintro e w1 ⟨rfl, hb⟩)
      | (go_at_call 28; refine (Tryd.strconv_ParseUint_10_at64_syntax ⟨#[]⟩ (by decide) rfl ev _ ((hb.cell (p := ⟨0, 0, none⟩) (World.block_lt_of_cell? _ _ HV.out.1)).trans HV.out.1) HV.out.2).mono ?_; rintro e w2 ⟨N, rfl, _, _, hb2⟩))
    go_ret3
    rw [HNUM.out]
    exact ⟨rfl, hb.trans (hb2.mono hb.size)⟩
  · have hd0 : ¬ ds = [] := fun h => h0 (by rw [← hdl, h]; rfl)
    have heq : (ds == []) = false := by simpa using hd0
    have hpu : Lib.parseUintB 64 ds = Lib.parseUintM (2 ^ 64 - 1) 0 ds := if_neg hd0
    rcases HP.out with ⟨h1, h2⟩ | ⟨h1, h2⟩
    · have HPU := Lib.hid (show Lib.parseUintB 64 (ByteArray.mk ds.toArray).data.toList = .ok (valN 0 ds) from by rw [dat_mk]; exact hpu.trans h1)
      clear h1 hpu
      have HV2 := Lib.hid h2
      by_cases h3 : 999999999 < valN 0 ds
      · have hI : (999999999 : Int) < (valN 0 ds : Int) := by omega
        have HX := Lib.hid (And.intro h0 (show big (valN 0 ds) = true from decide_eq_true h3))
        clear h0 h3 hd0 h2
        go_enter Tryd.func10, Tryd.ntmps10
        go_wp2_with (first
          | (go_at_call 20; refine (CF _).mono ?_; rintro e w' ⟨rfl, rfl⟩)
          | (go_at_call 26; refine (CT _).mono ?_; rintro e w1 ⟨rfl, hb⟩)
          | (go_at_call 28; refine (Tryd.strconv_ParseUint_10_at64_ok ⟨ds.toArray⟩ (by rw [hszd]; omega) _ HPU.out _).mono ?_; rintro e w2 ⟨rfl, hw⟩; have HW := Lib.hid (below_of hw); clear hw))
        go_ret3
        rw [HNUM.out, if_neg HX.out.1, if_pos HX.out.2]
        exact ⟨rfl, hb.trans (HW.out.mono hb.size)⟩
      · have hI : ¬ (999999999 : Int) < (valN 0 ds : Int) := by omega
        have HX := Lib.hid (And.intro h0 (show ¬ big (valN 0 ds) = true from fun h => h3 (of_decide_eq_true h)))
        have hv : IntKind.i64.wrap (valN 0 ds : Int) = (valN 0 ds : Int) := by rw [IntKind.wrap_i64]; omega
        clear h0 h3 hd0 h2
        go_enter Tryd.func10, Tryd.ntmps10
        go_wp2_with (first
          | (go_at_call 20; refine (CF _).mono ?_; rintro e w' ⟨rfl, rfl⟩)
          | (go_at_call 26; refine (CT _).mono ?_; rintro e w1 ⟨rfl, hb⟩)
          | (go_at_call 28; refine (Tryd.strconv_ParseUint_10_at64_ok ⟨ds.toArray⟩ (by rw [hszd]; omega) _ HPU.out _).mono ?_; rintro e w2 ⟨rfl, hw⟩; have HW := Lib.hid (below_of hw); clear hw))
        go_ret3
        rw [HNUM.out, if_neg HX.out.1, if_neg HX.out.2]
        exact ⟨by first | rfl | (simp [hdl]), hb.trans (HW.out.mono hb.size)⟩
    · have HPU := Lib.hid (show Lib.parseUintB 64 (ByteArray.mk ds.toArray).data.toList = .range from by rw [dat_mk]; exact hpu.trans h1)
      have HX := Lib.hid (And.intro h0 (show big (valN 0 ds) = true from decide_eq_true h2))
      obtain ⟨ev, hv, hev⟩ := HE.out.2
      have HV := Lib.hid (And.intro hv hev)
      clear hv hev h0 h1 h2 hpu hd0
      go_enter Tryd.func10, Tryd.ntmps10
      go_wp2_with (first
        | (go_at_call 20; refine (CF _).mono ?_; rintro e w' ⟨rfl, rfl⟩)
        | (go_at_call 26; refine (CT _).mono ?_; rintro e w1 ⟨rfl, hb⟩)
        | (go_at_call 28; refine (Tryd.strconv_ParseUint_10_at64_range ⟨ds.toArray⟩ (by rw [hszd]; omega) HPU.out ev _ ((hb.cell (p := ⟨1, 0, none⟩) (World.block_lt_of_cell? _ _ HV.out.1)).trans HV.out.1) HV.out.2).mono ?_; rintro e w2 ⟨N, rfl, _, _, hb2⟩))
      go_ret3
      rw [HNUM.out, if_neg HX.out.1, if_pos HX.out.2]
      exact ⟨rfl, hb.trans (hb2.mono hb.size)⟩
end Go.Proofs.YtiaiipmocamofaaDoor.Pc
