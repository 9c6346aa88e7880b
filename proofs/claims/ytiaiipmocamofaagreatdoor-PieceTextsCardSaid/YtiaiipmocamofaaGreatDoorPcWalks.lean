/- The walks of the package piece: from, and what is called at each pair. -/
import Derived.Test.YtiaiipmocamofaaGreatDoorBld
import Derived.Test.YtiaiipmocamofaaGreatDoorPcPlain
import Derived.Lib.Hide
namespace Go.Proofs.YtiaiipmocamofaaGreatDoor.Pc
open Go.RowKit Bld
set_option linter.unusedVariables false
set_option linter.unusedSimpArgs false

abbrev S (l : List UInt8) : Value := .string ⟨l.toArray⟩
abbrev E (n : Int) : Value := .int .i64 n
theorem ret3 {a b c a' b' c' : Value} (h1 : a = a') (h2 : b = b') (h3 : c = c') : Ending.returned (.tuple #[a, b, c]) = .returned (.tuple #[a', b', c']) := by rw [h1, h2, h3]
theorem ret2 {a b a' b' : Value} (h1 : a = a') (h2 : b = b') : Ending.returned (.tuple #[a, b]) = .returned (.tuple #[a', b']) := by rw [h1, h2]
theorem ret1 {a a' : Value} (h1 : a = a') : Ending.returned a = .returned a' := by rw [h1]
theorem S_ext {s : ByteArray} {l : List UInt8} (h : s.data.toList = l) : Value.string s = S l := by
  subst h; exact congrArg Value.string (Lib.mk_data s).symm

set_option maxHeartbeats 400000 in
theorem from_any (l : List UInt8) (at_ : Int) (w : World) (hl : l.length ≤ 1000000) (ha : -9223372036854775808 ≤ at_) (ha' : at_ ≤ 9223372036854775807) :
    Calls Tryz.prog 11 #[S l, E at_] w fun e w' => e = .returned (.tuple #[S (l.drop (fromL l.length at_)), E (fromL l.length at_)]) ∧ w = w' := by
  have hle := fromL_le l.length at_
  by_cases h1 : at_ < 0
  · go_enter Tryz.func11, Tryz.ntmps11
    go_wp2
    go_ret2
    refine ⟨ret2 (S_ext ?_) (by rw [show fromL l.length at_ = l.length from if_pos (Or.inl h1)]; rfl), rfl⟩
    rw [show fromL l.length at_ = l.length from if_pos (Or.inl h1)]; simp [Lib.extract_data, ByteArray.size]
  · by_cases h2 : (l.length : Int) < at_
    · go_enter Tryz.func11, Tryz.ntmps11
      go_wp2
      go_ret2
      refine ⟨ret2 (S_ext ?_) (by rw [show fromL l.length at_ = l.length from if_pos (Or.inr h2)]; rfl), rfl⟩
      rw [show fromL l.length at_ = l.length from if_pos (Or.inr h2)]; simp [Lib.extract_data, ByteArray.size]
    · have e0 : fromL l.length at_ = at_.toNat := if_neg (by omega)
      have EE := Lib.hid e0
      clear e0 hle
      go_enter Tryz.func11, Tryz.ntmps11
      go_wp2
      go_ret2
      refine ⟨ret2 (S_ext ?_) (by rw [EE.out]; exact congrArg (Value.int .i64) (by omega)), rfl⟩
      rw [EE.out]; simp only [Lib.extract_data, List.toList_toArray]; exact List.take_of_length_le (by simp)

/-- Where a call's own blocks stand: a text's cell, and a builder. -/
structure St (B a b : Nat) (d : List UInt8) (w0 : World) (acc : List UInt8) (w : World) : Prop where
  bld : IsB B b acc w
  cel : w.heap[a]? = some (.cells #[S d] 9 (0, 0))
  bel : Below B w0 w
  le : B ≤ w.heap.size
  ne : a ≠ b
theorem St.cell {B a b : Nat} {d : List UInt8} {w0 w : World} {acc : List UInt8} (h : St B a b d w0 acc w) : w.cell? ⟨a, 0, none⟩ = some (S d) := by
  rw [Lib.cell_of_heap h.cel]; rfl

/-- What WriteString leaves. -/
theorem St.write {B a b : Nat} {d : List UInt8} {w0 w w' : World} {acc s : List UInt8} (h : St B a b d w0 acc w)
    (h1 : Lib.BuilderAtF 36 5 B b (.pointer (some ⟨b, 0, none⟩)) (Lib.byteCells acc ++ Lib.strCells ⟨s.toArray⟩) w') (h2 : Below B w w') (h3 : Kept b w w') :
    St B a b d w0 (acc ++ s) w' where
  bld := by
    refine Or.inr ?_
    have : Lib.byteCells (acc ++ s) = Lib.byteCells acc ++ Lib.strCells ⟨s.toArray⟩ := by simp [Lib.byteCells, Lib.strCells]
    rw [this]; exact h1
  cel := h3 a _ h.cel (by intro e; exact h.ne (Option.some.inj e)) (by intro c fz e; cases e)
  bel := h.bel.trans h2
  le := Nat.le_trans h.le h2.size
  ne := h.ne

theorem esc_cat (d : List UInt8) : ((ByteArray.mk #[92]) ++ (⟨d.toArray⟩ : ByteArray)).toList = 92 :: d := by
  rw [Lib.toList_data, ByteArray.data_append]; simp

set_option maxHeartbeats 400000 in
theorem takeFn_any (B a b : Nat) (d : UInt8) (w0 : World) (one acc : List UInt8) (w : World) (h1 : one.length ≤ 2) (h2 : acc.length ≤ 1000000) (hs : St B a b [d] w0 acc w) :
    Calls Tryz.prog 23 #[S one, .pointer (some ⟨a, 0, none⟩), .pointer (some ⟨b, 0, none⟩)] w fun e w' =>
      (takeStep d acc one = none ∧ e = .returned (.bool false) ∧ w = w') ∨ (∃ acc', takeStep d acc one = some acc' ∧ e = .returned (.bool true) ∧ St B a b [d] w0 acc' w') := by
  have ca := hs.cell
  have ec := esc_cat [d]
  cases c1 : (one == [d])
  case true =>
    go_enter Tryz.func23, Tryz.ntmps23
    go_wp2
    go_ret
    exact Or.inl ⟨by simp [takeStep, c1], rfl, rfl⟩
  cases c2 : (one == [10])
  case true =>
    go_enter Tryz.func23, Tryz.ntmps23
    go_wp2
    go_ret
    exact Or.inl ⟨by simp [takeStep, c2], rfl, rfl⟩
  cases c3 : (one == [92])
  case true =>
    go_enter Tryz.func23, Tryz.ntmps23
    go_wp2
    go_ret
    exact Or.inl ⟨by simp [takeStep, c3], rfl, rfl⟩
  cases c4 : (one == [92, d])
  · go_enter Tryz.func23, Tryz.ntmps23
    go_wp2_with (go_at_call 14; refine (writeString_any B b (Lib.byteCells acc) ⟨one.toArray⟩ _ hs.bld (by simp [Lib.byteCells_length, ByteArray.size]; omega) hs.le).mono ?_; rintro e w' ⟨rfl, g1, g2, g3⟩; have hs' := hs.write g1 g2 g3)
    go_ret
    exact Or.inr ⟨acc ++ one, by simp [takeStep, c1, c2, c3, c4], rfl, hs'⟩
  · go_enter Tryz.func23, Tryz.ntmps23
    go_wp2_with (go_at_call 14; refine (writeString_any B b (Lib.byteCells acc) ⟨[d].toArray⟩ _ hs.bld (by simp [Lib.byteCells_length, ByteArray.size]; omega) hs.le).mono ?_; rintro e w' ⟨rfl, g1, g2, g3⟩; have hs' := hs.write g1 g2 g3)
    go_ret
    exact Or.inr ⟨acc ++ [d], by simp [takeStep, c1, c2, c3, c4], rfl, hs'⟩

set_option maxHeartbeats 400000 in
theorem giveFn_any (B a b : Nat) (d : UInt8) (w0 : World) (one acc : List UInt8) (w : World) (h1 : one.length ≤ 2) (h2 : acc.length ≤ 1000000) (hs : St B a b [d] w0 acc w) :
    Calls Tryz.prog 24 #[S one, .pointer (some ⟨a, 0, none⟩), .pointer (some ⟨b, 0, none⟩)] w fun e w' =>
      (giveStep d acc one = none ∧ e = .returned (.bool false) ∧ w = w') ∨ (∃ acc', giveStep d acc one = some acc' ∧ e = .returned (.bool true) ∧ St B a b [d] w0 acc' w') := by
  have ca := hs.cell
  have ec := esc_cat [d]
  cases c1 : (one == [10])
  case true =>
    go_enter Tryz.func24, Tryz.ntmps24
    go_wp2
    go_ret
    exact Or.inl ⟨by simp [giveStep, c1], rfl, rfl⟩
  cases c2 : (one == [92])
  case true =>
    go_enter Tryz.func24, Tryz.ntmps24
    go_wp2
    go_ret
    exact Or.inl ⟨by simp [giveStep, c2], rfl, rfl⟩
  cases c3 : (one == [92, d])
  case true =>
    go_enter Tryz.func24, Tryz.ntmps24
    go_wp2
    go_ret
    exact Or.inl ⟨by simp [giveStep, c3], rfl, rfl⟩
  cases c4 : (one == [d])
  · go_enter Tryz.func24, Tryz.ntmps24
    go_wp2_with (go_at_call 14; refine (writeString_any B b (Lib.byteCells acc) ⟨one.toArray⟩ _ hs.bld (by simp [Lib.byteCells_length, ByteArray.size]; omega) hs.le).mono ?_; rintro e w' ⟨rfl, g1, g2, g3⟩; have hs' := hs.write g1 g2 g3)
    go_ret
    exact Or.inr ⟨acc ++ one, by simp [giveStep, c1, c2, c3, c4], rfl, hs'⟩
  · have eb : ((ByteArray.mk #[92]) ++ (⟨[d].toArray⟩ : ByteArray)) = ⟨[92, d].toArray⟩ := by ext1; simp [ByteArray.data_append]
    go_enter Tryz.func24, Tryz.ntmps24
    go_wp2_with (go_at_call 14; refine (writeString_any B b (Lib.byteCells acc) ⟨[92, d].toArray⟩ _ hs.bld (by simp [Lib.byteCells_length, ByteArray.size]; omega) hs.le).mono ?_; rintro e w' ⟨rfl, g1, g2, g3⟩; have hs' := hs.write g1 g2 g3)
    go_ret
    exact Or.inr ⟨acc ++ [92, d], by simp [giveStep, c1, c2, c3, c4], rfl, hs'⟩

/-- A builder alone. -/
structure Sb (B b : Nat) (w0 : World) (acc : List UInt8) (w : World) : Prop where
  bld : IsB B b acc w
  bel : Below B w0 w
  le : B ≤ w.heap.size
theorem Sb.write {B b : Nat} {w0 w w' : World} {acc s : List UInt8} (h : Sb B b w0 acc w)
    (h1 : Lib.BuilderAtF 36 5 B b (.pointer (some ⟨b, 0, none⟩)) (Lib.byteCells acc ++ Lib.strCells ⟨s.toArray⟩) w') (h2 : Below B w w') :
    Sb B b w0 (acc ++ s) w' where
  bld := by
    refine Or.inr ?_
    have : Lib.byteCells (acc ++ s) = Lib.byteCells acc ++ Lib.strCells ⟨s.toArray⟩ := by simp [Lib.byteCells, Lib.strCells]
    rw [this]; exact h1
  bel := h.bel.trans h2
  le := Nat.le_trans h.le h2.size
theorem last_of {one : List UInt8} : (⟨one.toArray⟩ : ByteArray).extract (one.length - 1) one.length = ⟨(one.drop (one.length - 1)).toArray⟩ := by
  rw [Lib.extract_eq]
  congr 2
  exact List.take_of_length_le (by simp)

set_option maxHeartbeats 400000 in
theorem textFn_any (B b : Nat) (w0 : World) (one acc : List UInt8) (w : World) (h0 : 0 < one.length) (h1 : one.length ≤ 2) (h2 : acc.length ≤ 1000000) (hs : Sb B b w0 acc w) :
    Calls Tryz.prog 13 #[S one, .pointer (some ⟨b, 0, none⟩)] w fun e w' =>
      (textStep acc one = none ∧ e = .returned (.bool false) ∧ w = w') ∨ (∃ acc', textStep acc one = some acc' ∧ e = .returned (.bool true) ∧ Sb B b w0 acc' w') := by
  cases c1 : (one == [10])
  case true =>
    go_enter Tryz.func13, Tryz.ntmps13
    go_wp2
    go_ret
    exact Or.inl ⟨by simp [textStep, c1], rfl, rfl⟩
  cases c2 : (one == [92])
  case true =>
    go_enter Tryz.func13, Tryz.ntmps13
    go_wp2
    go_ret
    exact Or.inl ⟨by simp [textStep, c2], rfl, rfl⟩
  have lo := @last_of one
  go_enter Tryz.func13, Tryz.ntmps13
  go_wp2_with (go_at_call 14; refine (writeString_any B b (Lib.byteCells acc) ⟨(one.drop (one.length - 1)).toArray⟩ _ hs.bld (by simp [Lib.byteCells_length, ByteArray.size]; omega) hs.le).mono ?_; rintro e w' ⟨rfl, g1, g2, g3⟩; have hs' := hs.write g1 g2)
  go_ret
  exact Or.inr ⟨acc ++ one.drop (one.length - 1), by simp [textStep, c1, c2], rfl, hs'⟩

/-- The text goes through pair by pair: whatever is called at each, by what it does with what it keeps. -/
theorem pairs_any {α : Type} (step : α → List UInt8 → Option α) (Inv : Nat → α → World → Prop) (fn : Nat) (cap : Array Value) (l : List UInt8) (a0 : α) (w : World)
    (hl : l.length ≤ 10000) (hcf : ∀ args w, (callFunc fn args).run Tryz.prog w = .ok (.enter fn args) w)
    (hf : ∀ (k : Nat) (a : α) (one : List UInt8) (w : World), k < l.length → 0 < one.length → one.length ≤ 2 → Inv k a w → Calls Tryz.prog fn (#[S one] ++ cap) w fun e w' =>
      (step a one = none ∧ e = .returned (.bool false) ∧ w = w') ∨ (∃ a', step a one = some a' ∧ e = .returned (.bool true) ∧ ∀ j, k < j → Inv j a' w'))
    (h0 : Inv 0 a0 w) :
    Calls Tryz.prog 12 #[S l, .func (.func fn) #[] cap] w fun e w' => e = .returned (E (pairsL step l a0).1) ∧ ∃ k, Inv k (pairsL step l a0).2 w' := by
  go_enter Tryz.func12, Tryz.ntmps12
  go_wp2
  go_step3
  go_wp2
  go_step3
  go_wp2
  go_loopw [5, 6] (fun i n wr => ∃ (k : Nat) (a : α), k ≤ l.length ∧ i = .int .i64 k ∧ (∃ j, j ≤ k ∧ Inv j a wr) ∧ pairsL step l a0 = ((pairsL step (l.drop k) a).1 + k, (pairsL step (l.drop k) a).2)) (fun i _ _ => l.length - (intOf i).toNat)
  case atStart => exact ⟨0, a0, Nat.zero_le _, rfl, ⟨0, Nat.le_refl _, h0⟩, by simp⟩
  case round =>
    obtain ⟨k, a, hk, rfl, ⟨j, hj, hI⟩, hP⟩ := hrel
    have HP := Lib.hid hP
    have HF := Lib.hid hf
    clear hP hf
    by_cases hlt : k < l.length
    · have hne : l.drop k ≠ [] := by simp; omega
      have hstep := pairsL_step step (l.drop k) a hne
      have hwd := width_drop hlt
      have hc0 : ((ByteArray.mk l.toArray)[k]'hlt) = l[k] := rfl
      by_cases hc : l[k] = 92
      · have hcI : ((((ByteArray.mk l.toArray)[k]'hlt).toNat : Nat) : Int) = 92 := by rw [hc0, hc]; rfl
        by_cases h2 : k + 1 < l.length
        · have ex := extract_take l k 2
          rw [if_pos ⟨hc, h2⟩] at hwd
          rw [hwd] at hstep
          have HS := Lib.hid hstep
          have hlen : ((l.drop k).take 2).length = 2 := by simp; omega
          generalize (l.drop k).take 2 = one at *
          have HF2 := Lib.hid (fun w hI => HF.out j a one w (by omega) (by omega) (by omega) hI)
          clear HF hwd hstep hc0 hc hlen
          go_wp2_with ((refine (HF2.out _ hI).mono ?_); rintro e w1 (⟨q1, rfl, rfl⟩ | ⟨a', q1, rfl, q2⟩))
          · have Q1 := Lib.hid q1
            clear q1
            go_wp2
            rw [Exit.noGoto_ret]
            go_ret
            refine ⟨?_, j, ?_⟩
            · rw [HP.out, HS.out, Q1.out]; simp [Array.getD]
            · rw [HP.out, HS.out, Q1.out]; exact hI
          · have Q1 := Lib.hid q1
            have Q2 := Lib.hid (q2 (k + 2) (by omega))
            clear q1 q2
            go_wp2
            go_roundw
            case rel =>
              refine ⟨k + 2, a', by omega, by go_num, ⟨k + 2, Nat.le_refl _, Q2.out⟩, ?_⟩
              rw [HP.out, HS.out, Q1.out]
              simp only [List.drop_drop]
              exact Prod.ext (by simp only; omega) rfl
            case measure => simp [intOf]; omega
        · have ex := extract_take l k 1
          rw [if_neg (fun h => h2 h.2)] at hwd
          rw [hwd] at hstep
          have HS := Lib.hid hstep
          have hlen : ((l.drop k).take 1).length = 1 := by simp; omega
          generalize (l.drop k).take 1 = one at *
          have HF2 := Lib.hid (fun w hI => HF.out j a one w (by omega) (by omega) (by omega) hI)
          clear HF hwd hstep hc0 hc hlen
          go_wp2_with ((refine (HF2.out _ hI).mono ?_); rintro e w1 (⟨q1, rfl, rfl⟩ | ⟨a', q1, rfl, q2⟩))
          · have Q1 := Lib.hid q1
            clear q1
            go_wp2
            rw [Exit.noGoto_ret]
            go_ret
            refine ⟨?_, j, ?_⟩
            · rw [HP.out, HS.out, Q1.out]; simp [Array.getD]
            · rw [HP.out, HS.out, Q1.out]; exact hI
          · have Q1 := Lib.hid q1
            have Q2 := Lib.hid (q2 (k + 1) (by omega))
            clear q1 q2
            go_wp2
            go_roundw
            case rel =>
              refine ⟨k + 1, a', by omega, by go_num, ⟨k + 1, Nat.le_refl _, Q2.out⟩, ?_⟩
              rw [HP.out, HS.out, Q1.out]
              simp only [List.drop_drop]
              exact Prod.ext (by simp only; omega) rfl
            case measure => simp [intOf]; omega
      · have hcI : (((((ByteArray.mk l.toArray)[k]'hlt).toNat : Nat) : Int) == 92) = false := by
          rw [hc0, beq_eq_false_iff_ne]; intro h; apply hc; exact UInt8.toNat_inj.1 (by simpa using (by omega : (l[k].toNat) = 92))
        have ex := extract_take l k 1
        rw [if_neg (fun h => hc h.1)] at hwd
        rw [hwd] at hstep
        have HS := Lib.hid hstep
        have hlen : ((l.drop k).take 1).length = 1 := by simp; omega
        generalize (l.drop k).take 1 = one at *
        have HF2 := Lib.hid (fun w hI => HF.out j a one w (by omega) (by omega) (by omega) hI)
        clear HF hwd hstep hc0 hc hlen
        go_wp2_with ((refine (HF2.out _ hI).mono ?_); rintro e w1 (⟨q1, rfl, rfl⟩ | ⟨a', q1, rfl, q2⟩))
        · have Q1 := Lib.hid q1
          clear q1
          go_wp2
          rw [Exit.noGoto_ret]
          go_ret
          refine ⟨?_, j, ?_⟩
          · rw [HP.out, HS.out, Q1.out]; simp [Array.getD]
          · rw [HP.out, HS.out, Q1.out]; exact hI
        · have Q1 := Lib.hid q1
          have Q2 := Lib.hid (q2 (k + 1) (by omega))
          clear q1 q2
          go_wp2
          go_roundw
          case rel =>
            refine ⟨k + 1, a', by omega, by go_num, ⟨k + 1, Nat.le_refl _, Q2.out⟩, ?_⟩
            rw [HP.out, HS.out, Q1.out]
            simp only [List.drop_drop]
            exact Prod.ext (by simp only; omega) rfl
          case measure => simp [intOf]; omega
    · go_wp2
      rw [Exit.noGoto_ret]
      go_ret
      obtain rfl : k = l.length := by omega
      refine ⟨?_, j, ?_⟩
      · rw [HP.out]; simp [Array.getD, pairsL]
      · rw [HP.out]; simpa [pairsL] using hI
end Go.Proofs.YtiaiipmocamofaaGreatDoor.Pc
