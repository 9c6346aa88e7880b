/- The walks of Take, Give and Text. -/
import Derived.Test.YtiaiipmocamofaaGreatDoorPcWalks
import Derived.Deep.QuietTactic
import Derived.BigQuiet
namespace Go.Proofs.YtiaiipmocamofaaGreatDoor.Pc
open Go.RowKit Bld
set_option linter.unusedVariables false
set_option linter.unusedSimpArgs false

/-- 'string([]byte{d})'. -/
theorem conv1 (d : UInt8) (w : World) : (convert 34 9 (.slice (some ⟨w.heap.size, 0, none⟩) 1 1)).run Tryz.prog (w.alloc (.cells #[.int .u8 d.toNat] 5)) = .ok (S [d]) (w.alloc (.cells #[.int .u8 d.toNat] 5)) :=
  run_convert_bytes_back (P := Tryz.prog) (w.alloc (.cells #[.int .u8 d.toNat] 5)) 34 9 5 ⟨w.heap.size, 0, none⟩ 1 [d] Tryz.underlying34 Tryz.underlying5 Tryz.underlying9 (by
    intro j hj
    match j, hj with
    | 0, _ => simp [Addr.add])

theorem fresh_at {B b : Nat} {w : World} (hB : B ≤ b) (hb : w.heap[b]? = some (.cells #[.pointer none, .slice none 0 0] 36 (0, 0))) : IsB B b [] w :=
  Or.inl ⟨hB, .slice none 0 0, hb, World.ownsRowF_nil _ _ _ _, by simp [Value.ownBlock]⟩
/-- The state with which Take and Give begin. -/
theorem St.start (d : List UInt8) (w : World) (o : Obj) : St w.heap.size (w.heap.size + 1) (w.heap.size + 1 + 1) d w [] (((w.alloc o).alloc (.cells #[S d] 9)).alloc (.cells #[.pointer none, .slice none 0 0] 36)) where
  bld := fresh_at (by omega) (by
    have := heap_alloc_new ((w.alloc o).alloc (.cells #[S d] 9)) (.cells #[.pointer none, .slice none 0 0] 36)
    simpa using this)
  cel := by
    rw [Lib.alloc_old _ _ _ (by simp)]
    have := heap_alloc_new (w.alloc o) (.cells #[S d] 9)
    simpa using this
  bel := (((Below.refl _ w).alloc (Nat.le_refl _) _).alloc (by simp) _).alloc (by simp; omega) _
  le := by simp; omega
  ne := by omega

theorem below_drewN {B : Nat} {a w : World} (h : Below B a w) (n : Nat) : Below B a (w.drewN n) := ⟨h.os, h.tape, h.output, h.size, h.block⟩
theorem St.drewN {B a b : Nat} {d : List UInt8} {w0 w : World} {acc : List UInt8} (h : St B a b d w0 acc w) (n : Nat) : St B a b d w0 acc (w.drewN n) :=
  ⟨h.bld, h.cel, below_drewN h.bel n, h.le, h.ne⟩

theorem cf14 : ∀ args w, (callFunc 23 args).run Tryz.prog w = .ok (.enter 23 args) w := fun _ _ => by kernel_rfl
theorem cf19 : ∀ args w, (callFunc 24 args).run Tryz.prog w = .ok (.enter 24 args) w := fun _ _ => by kernel_rfl
theorem cf20 : ∀ args w, (callFunc 13 args).run Tryz.prog w = .ok (.enter 13 args) w := fun _ _ => by kernel_rfl
theorem takeStep_len {d : UInt8} {acc one acc' : List UInt8} (h : takeStep d acc one = some acc') : acc'.length ≤ acc.length + max 1 one.length := by
  unfold takeStep at h
  split at h
  · cases h
  · simp only [Option.some.injEq] at h
    subst h
    split <;> simp <;> omega
theorem giveStep_len {d : UInt8} {acc one acc' : List UInt8} (h : giveStep d acc one = some acc') : acc'.length ≤ acc.length + max 2 one.length := by
  unfold giveStep at h
  split at h
  · cases h
  · simp only [Option.some.injEq] at h
    subst h
    split <;> simp <;> omega
theorem textStep_len {acc one acc' : List UInt8} (h : textStep acc one = some acc') : acc'.length ≤ acc.length + one.length := by
  unfold textStep at h
  split at h
  · cases h
  · simp only [Option.some.injEq] at h
    subst h
    simp

/-- pairs with what Take keeps. -/
theorem pairs_take (d : UInt8) (B a b : Nat) (l : List UInt8) (w0 w : World) (hl : l.length ≤ 10000) (h0 : St B a b [d] w0 [] w) :
    Calls Tryz.prog 12 #[S l, .func (.func 23) #[] #[.pointer (some ⟨a, 0, none⟩), .pointer (some ⟨b, 0, none⟩)]] w fun e w' =>
      e = .returned (E (pairsL (takeStep d) l []).1) ∧ St B a b [d] w0 (pairsL (takeStep d) l []).2 w' := by
  refine (pairs_any (takeStep d) (fun k acc wr => acc.length ≤ 2 * k ∧ St B a b [d] w0 acc wr) 23 _ l [] w hl cf14 ?_ ⟨by simp, h0⟩).mono ?_
  · rintro k acc one w hk ho ho2 ⟨hacc, hs⟩
    refine (takeFn_any B a b d w0 one acc w ho2 (by omega) hs).mono ?_
    rintro e w' (⟨q1, rfl, rfl⟩ | ⟨acc', q1, rfl, q2⟩)
    · exact Or.inl ⟨q1, rfl, rfl⟩
    · have := takeStep_len q1
      exact Or.inr ⟨acc', q1, rfl, fun j hj => ⟨by omega, q2⟩⟩
  · rintro e w' ⟨rfl, k, hk, hs⟩
    exact ⟨rfl, hs⟩
theorem pairs_give (d : UInt8) (B a b : Nat) (l : List UInt8) (w0 w : World) (hl : l.length ≤ 10000) (h0 : St B a b [d] w0 [] w) :
    Calls Tryz.prog 12 #[S l, .func (.func 24) #[] #[.pointer (some ⟨a, 0, none⟩), .pointer (some ⟨b, 0, none⟩)]] w fun e w' =>
      e = .returned (E (pairsL (giveStep d) l []).1) ∧ St B a b [d] w0 (pairsL (giveStep d) l []).2 w' := by
  refine (pairs_any (giveStep d) (fun k acc wr => acc.length ≤ 2 * k ∧ St B a b [d] w0 acc wr) 24 _ l [] w hl cf19 ?_ ⟨by simp, h0⟩).mono ?_
  · rintro k acc one w hk ho ho2 ⟨hacc, hs⟩
    refine (giveFn_any B a b d w0 one acc w ho2 (by omega) hs).mono ?_
    rintro e w' (⟨q1, rfl, rfl⟩ | ⟨acc', q1, rfl, q2⟩)
    · exact Or.inl ⟨q1, rfl, rfl⟩
    · have := giveStep_len q1
      exact Or.inr ⟨acc', q1, rfl, fun j hj => ⟨by omega, q2⟩⟩
  · rintro e w' ⟨rfl, k, hk, hs⟩
    exact ⟨rfl, hs⟩
theorem pairs_text (B b : Nat) (l : List UInt8) (w0 w : World) (hl : l.length ≤ 10000) (h0 : Sb B b w0 [] w) :
    Calls Tryz.prog 12 #[S l, .func (.func 13) #[] #[.pointer (some ⟨b, 0, none⟩)]] w fun e w' =>
      e = .returned (E (pairsL textStep l []).1) ∧ Sb B b w0 (pairsL textStep l []).2 w' := by
  refine (pairs_any textStep (fun k acc wr => acc.length ≤ 2 * k ∧ Sb B b w0 acc wr) 13 _ l [] w hl cf20 ?_ ⟨by simp, h0⟩).mono ?_
  · rintro k acc one w hk ho ho2 ⟨hacc, hs⟩
    refine (textFn_any B b w0 one acc w ho ho2 (by omega) hs).mono ?_
    rintro e w' (⟨q1, rfl, rfl⟩ | ⟨acc', q1, rfl, q2⟩)
    · exact Or.inl ⟨q1, rfl, rfl⟩
    · have := textStep_len q1
      exact Or.inr ⟨acc', q1, rfl, fun j hj => ⟨by omega, q2⟩⟩
  · rintro e w' ⟨rfl, k, hk, hs⟩
    exact ⟨rfl, hs⟩

/-- The answer of Take, as a value. -/
abbrev V3 (x : List UInt8 × Nat × Int) : Value := .tuple #[S x.1, E x.2.1, E x.2.2]
abbrev V2 (x : List UInt8 × Int) : Value := .tuple #[S x.1, E x.2]

set_option maxHeartbeats 1000000 in
theorem take_any (l : List UInt8) (at_ : Int) (d : UInt8) (w : World) (hl : l.length ≤ 10000) (ha : -9223372036854775808 ≤ at_) (ha' : at_ ≤ 9223372036854775807) :
    Calls Tryz.prog 9 #[S l, E at_, .int .u8 d.toNat] w fun e w' => e = .returned (V3 (takeL l at_ d)) ∧ Below w.heap.size w w' := by
  obtain ⟨p, hp⟩ : ∃ p, fromL l.length at_ = p := ⟨_, rfl⟩
  have hpl : p ≤ l.length := by rw [← hp]; exact fromL_le _ _
  obtain ⟨rest, hr⟩ : ∃ rest, l.drop p = rest := ⟨_, rfl⟩
  have hrl : rest.length ≤ l.length := by rw [← hr]; simp
  have cv := conv1 d
  have hs0 := St.start [d] w (.cells #[.int .u8 d.toNat] 5)
  by_cases h1 : d = 92 ∨ d = 10
  · have hT : takeL l at_ d = ([], p, 120) := by unfold takeL; rw [if_pos h1, hp]
    have HT := Lib.hid hT
    clear hT hrl hpl hs0
    cases e1 : ([d] == [92])
    · have e2 : ([d] == [10]) = true := by
        have : ¬ d = 92 := by simpa using e1
        simpa using h1.resolve_left this
      clear h1
      go_enter Tryz.func9, Tryz.ntmps9
      go_wp2_with (go_at_call 11; refine (from_any _ _ _ (by omega) ha ha').mono ?_; rintro e w' ⟨rfl, rfl⟩)
      go_ret3
      rw [HT.out]
      exact ⟨rfl, ((Below.refl _ w).alloc (Nat.le_refl _) _).alloc (by simp) _⟩
    · clear h1
      go_enter Tryz.func9, Tryz.ntmps9
      go_wp2_with (go_at_call 11; refine (from_any _ _ _ (by omega) ha ha').mono ?_; rintro e w' ⟨rfl, rfl⟩)
      go_ret3
      rw [HT.out]
      exact ⟨rfl, ((Below.refl _ w).alloc (Nat.le_refl _) _).alloc (by simp) _⟩
  have e1 : ([d] == [92]) = false := by simp; exact fun h => h1 (Or.inl h)
  have e2 : ([d] == [10]) = false := by simp; exact fun h => h1 (Or.inr h)
  have hT : takeL l at_ d = if Lib.hasPrefix (rest.drop (pairsL (takeStep d) rest []).1) [d] then ((pairsL (takeStep d) rest []).2, p + (pairsL (takeStep d) rest []).1 + 1, 0) else ([], p, 120) := by
    unfold takeL; rw [if_neg h1, hp]; simp only [hr]
  have HT := Lib.hid hT
  have hn := pairsL_le (takeStep d) _ rest [] (Nat.le_refl _)
  clear hT h1
  go_enter Tryz.func9, Tryz.ntmps9
  go_wp2_with (first | (go_at_call 11; refine (from_any _ _ _ (by omega) ha ha').mono ?_; rintro e w' ⟨rfl, rfl⟩) | (go_at_call 12; refine (pairs_take d w.heap.size _ _ rest w _ (by omega) hs0).mono ?_; rintro e w1 ⟨rfl, hs1⟩))
  generalize pairsL (takeStep d) rest [] = r at *
  have ca := hs1.cell
  have ex := extract_end rest r.1
  have hrn : (r.1 : Int) ≤ rest.length := by omega
  cases hpx : Lib.hasPrefix (rest.drop r.1) [d]
  · rw [hpx] at HT
    go_quiet ((go_at_call 15; exact Calls.quiet_of_same (Tryz.strings_HasPrefix _ _ _)))
    go_wp2
    go_ret3
    rw [HT.out]
    exact ⟨rfl, below_drewN hs1.bel _⟩
  · rw [hpx] at HT
    go_quiet ((go_at_call 15; exact Calls.quiet_of_same (Tryz.strings_HasPrefix _ _ _)))
    have hs2 := hs1.drewN nq
    go_wp2_with (go_at_call 16; refine (Tryz.Builder_String_any_k _ _ _ _ hs2.bld hs2.le).mono ?_; rintro e w2 ⟨rfl, g1, g2, g3⟩)
    have hb := hs2.bel.trans g2
    go_ret3
    rw [HT.out]
    refine ⟨ret3 rfl ?_ rfl, hb⟩
    simp [Array.getD]

set_option maxHeartbeats 1000000 in
theorem give_any (l : List UInt8) (d : UInt8) (w : World) (hl : l.length ≤ 10000) :
    Calls Tryz.prog 10 #[S l, .int .u8 d.toNat] w fun e w' => e = .returned (V2 (giveL l d)) ∧ Below w.heap.size w w' := by
  have cv := conv1 d
  have hs0 := St.start [d] w (.cells #[.int .u8 d.toNat] 5)
  have hn := pairsL_le (giveStep d) _ l [] (Nat.le_refl _)
  obtain ⟨r, hr⟩ : ∃ r, pairsL (giveStep d) l [] = r := ⟨_, rfl⟩
  rw [hr] at hn
  have hG : giveL l d = if r.1 < l.length ∨ d = 92 ∨ d = 10 then ([], 1) else (r.2, 0) := by unfold giveL; simp only [hr]
  have HG := Lib.hid hG
  have HR := Lib.hid hr
  clear hG hr
  by_cases h0 : r.1 < l.length
  · have hc : (r.1 : Int) < l.length := by omega
    go_enter Tryz.func10, Tryz.ntmps10
    go_wp2_with (go_at_call 12; refine (pairs_give d w.heap.size _ _ l w _ hl hs0).mono ?_; rintro e w1 ⟨rfl, hs1⟩; rw [HR.out])
    go_ret2
    rw [HG.out, if_pos (Or.inl h0)]
    exact ⟨rfl, hs1.bel⟩
  have hc : ¬ (r.1 : Int) < l.length := by omega
  cases e1 : ([d] == [92])
  · cases e2 : ([d] == [10])
    · have g1 : ¬ d = 92 := by simpa using e1
      have g2 : ¬ d = 10 := by simpa using e2
      go_enter Tryz.func10, Tryz.ntmps10
      go_wp2_with (first | (go_at_call 12; refine (pairs_give d w.heap.size _ _ l w _ hl hs0).mono ?_; rintro e w1 ⟨rfl, hs1⟩; rw [HR.out]; rw [HR.out] at hs1; have ca := hs1.cell) | (go_at_call 16; refine (Tryz.Builder_String_any_k _ _ _ _ hs1.bld hs1.le).mono ?_; rintro e w2 ⟨rfl, g3, g4, g5⟩; have hb := hs1.bel.trans g4))
      go_ret2
      rw [HG.out, if_neg (by rintro (h | h | h); exact h0 h; exact g1 h; exact g2 h)]
      exact ⟨rfl, hb⟩
    · go_enter Tryz.func10, Tryz.ntmps10
      go_wp2_with (first | (go_at_call 12; refine (pairs_give d w.heap.size _ _ l w _ hl hs0).mono ?_; rintro e w1 ⟨rfl, hs1⟩; rw [HR.out]; rw [HR.out] at hs1; have ca := hs1.cell))
      go_ret2
      rw [HG.out, if_pos (Or.inr (Or.inr (by simpa using e2)))]
      exact ⟨rfl, hs1.bel⟩
  · go_enter Tryz.func10, Tryz.ntmps10
    go_wp2_with (first | (go_at_call 12; refine (pairs_give d w.heap.size _ _ l w _ hl hs0).mono ?_; rintro e w1 ⟨rfl, hs1⟩; rw [HR.out]; rw [HR.out] at hs1; have ca := hs1.cell))
    go_ret2
    rw [HG.out, if_pos (Or.inr (Or.inl (by simpa using e1)))]
    exact ⟨rfl, hs1.bel⟩

theorem Sb.start (w : World) : Sb w.heap.size w.heap.size w [] (w.alloc (.cells #[.pointer none, .slice none 0 0] 36)) where
  bld := fresh_at (by omega) (heap_alloc_new w _)
  bel := (Below.refl _ w).alloc (Nat.le_refl _) _
  le := by simp

set_option maxHeartbeats 1000000 in
theorem text_any (l : List UInt8) (at_ : Int) (w : World) (hl : l.length ≤ 10000) (ha : -9223372036854775808 ≤ at_) (ha' : at_ ≤ 9223372036854775807) :
    Calls Tryz.prog 5 #[S l, E at_] w fun e w' => e = .returned (V3 (textL l at_)) ∧ Below w.heap.size w w' := by
  obtain ⟨p, hp⟩ : ∃ p, fromL l.length at_ = p := ⟨_, rfl⟩
  have hpl : p ≤ l.length := by rw [← hp]; exact fromL_le _ _
  obtain ⟨rest, hr⟩ : ∃ rest, l.drop p = rest := ⟨_, rfl⟩
  have hrl : rest.length ≤ l.length := by rw [← hr]; simp
  have hs0 := Sb.start w
  have hn := pairsL_le textStep _ rest [] (Nat.le_refl _)
  obtain ⟨r, hrr⟩ : ∃ r, pairsL textStep rest [] = r := ⟨_, rfl⟩
  rw [hrr] at hn
  have hT : textL l at_ = if Lib.hasPrefix (rest.drop r.1) [92] then ([], p, 120) else (r.2 ++ [10], p + (if r.1 < rest.length then r.1 + 1 else r.1), 0) := by
    unfold textL; simp only [hp, hr, hrr]
  have HT := Lib.hid hT
  have HR := Lib.hid hrr
  have hrn : (r.1 : Int) ≤ rest.length := by omega
  have ex := extract_end rest r.1
  have hacc : r.2.length ≤ 20000 := by
    have := pairsL_len (step := textStep) (by
      intro acc one acc' ho h
      have := textStep_len h
      omega) _ rest [] (Nat.le_refl _)
    rw [hrr] at this; simp at this; omega
  have cc := fun w => run_string_add_lists (P := Tryz.prog) w r.2 [10] (by omega) (by simp)
  clear hT hrr
  cases hpx : Lib.hasPrefix (rest.drop r.1) [92]
  · rw [hpx] at HT
    by_cases hlt : r.1 < rest.length
    · rw [if_pos hlt] at HT
      have hlt' : (r.1 : Int) < rest.length := by omega
      go_enter Tryz.func5, Tryz.ntmps5
      go_wp2_with (first | (go_at_call 11; refine (from_any _ _ _ (by omega) ha ha').mono ?_; rintro e w' ⟨rfl, rfl⟩) | (go_at_call 12; refine (pairs_text w.heap.size _ rest w _ (by omega) hs0).mono ?_; rintro e w1 ⟨rfl, hs1⟩; rw [HR.out]; rw [HR.out] at hs1) | (go_at_call 15; refine (Tryz.strings_HasPrefix _ _ _).mono ?_; rintro e w' ⟨rfl, rfl⟩) | (go_at_call 16; refine (Tryz.Builder_String_any_k _ _ _ _ hs1.bld hs1.le).mono ?_; rintro e w2 ⟨rfl, g3, g4, g5⟩; have hb := hs1.bel.trans g4))
      go_ret3
      rw [HT.out]
      exact ⟨ret3 rfl (by simp [Array.getD]) rfl, hb⟩
    · rw [if_neg hlt] at HT
      have hlt' : ¬ (r.1 : Int) < rest.length := by omega
      go_enter Tryz.func5, Tryz.ntmps5
      go_wp2_with (first | (go_at_call 11; refine (from_any _ _ _ (by omega) ha ha').mono ?_; rintro e w' ⟨rfl, rfl⟩) | (go_at_call 12; refine (pairs_text w.heap.size _ rest w _ (by omega) hs0).mono ?_; rintro e w1 ⟨rfl, hs1⟩; rw [HR.out]; rw [HR.out] at hs1) | (go_at_call 15; refine (Tryz.strings_HasPrefix _ _ _).mono ?_; rintro e w' ⟨rfl, rfl⟩) | (go_at_call 16; refine (Tryz.Builder_String_any_k _ _ _ _ hs1.bld hs1.le).mono ?_; rintro e w2 ⟨rfl, g3, g4, g5⟩; have hb := hs1.bel.trans g4))
      go_ret3
      rw [HT.out]
      exact ⟨ret3 rfl (by simp [Array.getD]) rfl, hb⟩
  · rw [hpx] at HT
    go_enter Tryz.func5, Tryz.ntmps5
    go_wp2_with (first | (go_at_call 11; refine (from_any _ _ _ (by omega) ha ha').mono ?_; rintro e w' ⟨rfl, rfl⟩) | (go_at_call 12; refine (pairs_text w.heap.size _ rest w _ (by omega) hs0).mono ?_; rintro e w1 ⟨rfl, hs1⟩; rw [HR.out]; rw [HR.out] at hs1) | (go_at_call 15; refine (Tryz.strings_HasPrefix _ _ _).mono ?_; rintro e w' ⟨rfl, rfl⟩) | (go_at_call 16; refine (Tryz.Builder_String_any_k _ _ _ _ hs1.bld hs1.le).mono ?_; rintro e w2 ⟨rfl, g3, g4, g5⟩; have hb := hs1.bel.trans g4))
    go_ret3
    rw [HT.out]
    exact ⟨rfl, hs1.bel⟩
end Go.Proofs.YtiaiipmocamofaaGreatDoor.Pc
