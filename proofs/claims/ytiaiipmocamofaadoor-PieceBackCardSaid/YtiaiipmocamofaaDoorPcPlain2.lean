/- The program's Give and the reference's, and what follows of Take and Give: plain facts on lists. -/
import Derived.Test.YtiaiipmocamofaaDoorPcPlain
namespace Go.Proofs.YtiaiipmocamofaaDoor.Pc
set_option linter.unusedVariables false
set_option linter.unusedSimpArgs false

theorem rtk_self (d : UInt8) (l out : List UInt8) : rtk d (d :: l) out = some (out, 1) := by
  cases l <;> simp [rtk]
theorem rtk_ten {d : UInt8} (h : d ≠ 10) (l out : List UInt8) : rtk d (10 :: l) out = none := by
  cases l <;> simp [rtk, Ne.symm h]
theorem rtk_esc {d : UInt8} (h : d ≠ 92) (e : UInt8) (l out : List UInt8) : rtk d (92 :: e :: l) out = (rtk d l (out ++ if e = d then [e] else [92, e])).map fun x => (x.1, x.2 + 2) := by
  simp only [rtk]
  rw [if_neg (Ne.symm h), if_neg (by decide), if_pos trivial]
theorem rtk_one {d c : UInt8} (h1 : c ≠ d) (h2 : c ≠ 10) (h3 : c ≠ 92) (l out : List UInt8) (h : l ≠ []) : rtk d (c :: l) out = (rtk d l (out ++ [c])).map fun x => (x.1, x.2 + 1) := by
  match l, h with
  | e :: r, _ => simp [rtk, h1, h2, h3]
theorem rtk_prefix (d : UInt8) : ∀ (n : Nat) (l out : List UInt8) (x : List UInt8 × Nat), l.length ≤ n → rtk d l out = some x → ∃ s, x.1 = out ++ s
  | _, [], out, x, _, h => by simp [rtk] at h
  | _, [c], out, x, _, h => by
    simp only [rtk] at h
    split at h
    · cases h; exact ⟨[], by simp⟩
    · split at h <;> cases h
  | n + 1, c :: e :: r, out, x, hl, h => by
    simp only [rtk] at h
    split at h
    · cases h; exact ⟨[], by simp⟩
    · split at h
      · cases h
      · split at h
        · obtain ⟨y, hy, rfl⟩ := Option.map_eq_some_iff.1 h
          obtain ⟨s, hs⟩ := rtk_prefix d n r _ y (by simp at hl ⊢; omega) hy
          exact ⟨_, by rw [hs, List.append_assoc]⟩
        · obtain ⟨y, hy, rfl⟩ := Option.map_eq_some_iff.1 h
          obtain ⟨s, hs⟩ := rtk_prefix d n (e :: r) _ y (by simp at hl ⊢; omega) hy
          exact ⟨_, by rw [hs, List.append_assoc]⟩

theorem give_rgv (d : UInt8) (h1 : d ≠ 92) (h2 : d ≠ 10) : ∀ (n : Nat) (l acc acc' : List UInt8), l.length ≤ n →
    ((pairsL (giveStep d) l acc').1 = l.length ∧ (pairsL (giveStep d) l acc').2 = acc' ++ rgv d l ∧ rtk d (rgv d l ++ [d]) acc = some (acc ++ l, (rgv d l).length + 1)) ∨
    ((pairsL (giveStep d) l acc').1 < l.length ∧ ∀ x, rtk d (rgv d l ++ [d]) acc = some x → x.1 ≠ acc ++ l)
  | _, [], acc, acc', _ => by left; simp [pairsL, rgv, rtk_self]
  | n + 1, [c], acc, acc', _ => by
    by_cases hd : c = d
    · subst hd
      left
      have : giveStep c acc' [c] = some (acc' ++ [92, c]) := by simp [giveStep, h1, h2]
      refine ⟨by simp [pairsL, this], by simp [pairsL, this, rgv], ?_⟩
      have e : rgv c [c] ++ [c] = 92 :: c :: [c] := by simp [rgv]
      rw [e, rtk_esc h1, if_pos rfl, rtk_self]
      simp [rgv]
    · by_cases ha : c = 10
      · subst ha
        right
        have : giveStep d acc' [10] = none := by simp [giveStep]
        refine ⟨by simp [pairsL, this], ?_⟩
        have e : rgv d [10] ++ [d] = 10 :: [d] := by simp [rgv, hd]
        rw [e, rtk_ten h2]; intro x hx; cases hx
      · by_cases hb : c = 92
        · subst hb
          right
          have : giveStep d acc' [92] = none := by simp [giveStep]
          refine ⟨by simp [pairsL, this], ?_⟩
          have e : rgv d [92] ++ [d] = 92 :: d :: [] := by simp [rgv, hd]
          rw [e, rtk_esc h1]; intro x hx; simp [rtk] at hx
        · left
          have : giveStep d acc' [c] = some (acc' ++ [c]) := by simp [giveStep, hd, ha, hb]
          refine ⟨by simp [pairsL, this], by simp [pairsL, this, rgv, hd], ?_⟩
          have e : rgv d [c] ++ [d] = c :: [d] := by simp [rgv, hd]
          rw [e, rtk_one hd ha hb _ _ (by simp), rtk_self]
          simp [rgv, hd]
  | n + 1, c :: e :: r, acc, acc', hl => by
    have hl1 : (e :: r).length ≤ n := by simp at hl ⊢; omega
    have hl2 : r.length ≤ n := by simp at hl ⊢; omega
    by_cases hd : c = d
    · subst hd
      have s1 : giveStep c acc' [c] = some (acc' ++ [92, c]) := by simp [giveStep, h1, h2]
      have p1 : pairsL (giveStep c) (c :: e :: r) acc' = ((pairsL (giveStep c) (e :: r) (acc' ++ [92, c])).1 + 1, (pairsL (giveStep c) (e :: r) (acc' ++ [92, c])).2) := by
        simp only [pairsL, h1, if_false, s1]
      have r1 : rgv c (c :: e :: r) = 92 :: c :: rgv c (e :: r) := by simp [rgv, h1]
      have t1 : rtk c (rgv c (c :: e :: r) ++ [c]) acc = (rtk c (rgv c (e :: r) ++ [c]) (acc ++ [c])).map fun x => (x.1, x.2 + 2) := by
        rw [r1]; simp only [List.cons_append]; rw [rtk_esc h1, if_pos rfl]
      rw [p1, t1, r1]
      rcases give_rgv c h1 h2 n (e :: r) (acc ++ [c]) (acc' ++ [92, c]) hl1 with ⟨a1, a2, a3⟩ | ⟨a1, a2⟩
      · left
        refine ⟨by simp [a1], by simp [a2], ?_⟩
        rw [a3]; simp
      · right
        refine ⟨by simp only [List.length_cons] at a1 ⊢; omega, ?_⟩
        intro x hx
        obtain ⟨y, hy, rfl⟩ := Option.map_eq_some_iff.1 hx
        have := a2 y hy
        simpa using this
    · by_cases ha : c = 10
      · subst ha
        right
        have s1 : giveStep d acc' [10] = none := by simp [giveStep]
        refine ⟨by simp [pairsL, s1], ?_⟩
        have r1 : rgv d (10 :: e :: r) = 10 :: rgv d (e :: r) := by simp [rgv, hd]
        rw [r1]; simp only [List.cons_append]; rw [rtk_ten h2]; intro x hx; cases hx
      · by_cases hb : c = 92
        · subst hb
          have r1 : rgv d (92 :: e :: r) = 92 :: e :: rgv d r := by simp [rgv, hd]
          rw [r1]; simp only [List.cons_append]; rw [rtk_esc h1]
          by_cases he : e = d
          · subst he
            right
            have s1 : giveStep e acc' [92, e] = none := by simp [giveStep]
            refine ⟨by simp [pairsL, s1], ?_⟩
            intro x hx hc
            obtain ⟨y, hy, rfl⟩ := Option.map_eq_some_iff.1 hx
            rw [if_pos rfl] at hy
            obtain ⟨s, hs⟩ := rtk_prefix e _ _ _ y (Nat.le_refl _) hy
            simp only at hc
            rw [hs, List.append_assoc] at hc
            have := List.append_cancel_left hc
            simp at this
            exact h1 this.1
          · have s1 : giveStep d acc' [92, e] = some (acc' ++ [92, e]) := by simp [giveStep, he]
            have p1 : pairsL (giveStep d) (92 :: e :: r) acc' = ((pairsL (giveStep d) r (acc' ++ [92, e])).1 + 2, (pairsL (giveStep d) r (acc' ++ [92, e])).2) := by
              simp only [pairsL, if_true, s1]
            rw [if_neg he, p1]
            rcases give_rgv d h1 h2 n r (acc ++ [92, e]) (acc' ++ [92, e]) hl2 with ⟨a1, a2, a3⟩ | ⟨a1, a2⟩
            · left
              refine ⟨by simp [a1], by simp [a2], ?_⟩
              rw [a3]; simp
            · right
              refine ⟨by simp only [List.length_cons] at a1 ⊢; omega, ?_⟩
              intro x hx
              obtain ⟨y, hy, rfl⟩ := Option.map_eq_some_iff.1 hx
              have := a2 y hy
              simpa using this
        · have s1 : giveStep d acc' [c] = some (acc' ++ [c]) := by simp [giveStep, hd, ha, hb]
          have p1 : pairsL (giveStep d) (c :: e :: r) acc' = ((pairsL (giveStep d) (e :: r) (acc' ++ [c])).1 + 1, (pairsL (giveStep d) (e :: r) (acc' ++ [c])).2) := by
            simp only [pairsL, hb, if_false, s1]
          have r1 : rgv d (c :: e :: r) = c :: rgv d (e :: r) := by simp [rgv, hd, hb]
          have t1 : rtk d (rgv d (c :: e :: r) ++ [d]) acc = (rtk d (rgv d (e :: r) ++ [d]) (acc ++ [c])).map fun x => (x.1, x.2 + 1) := by
            rw [r1]; simp only [List.cons_append]; rw [rtk_one hd ha hb _ _ (by simp)]
          rw [p1, t1, r1]
          rcases give_rgv d h1 h2 n (e :: r) (acc ++ [c]) (acc' ++ [c]) hl1 with ⟨a1, a2, a3⟩ | ⟨a1, a2⟩
          · left
            refine ⟨by simp [a1], by simp [a2], ?_⟩
            rw [a3]; simp
          · right
            refine ⟨by simp only [List.length_cons] at a1 ⊢; omega, ?_⟩
            intro x hx
            obtain ⟨y, hy, rfl⟩ := Option.map_eq_some_iff.1 hx
            have := a2 y hy
            simpa using this

theorem fromL_zero (n : Nat) : fromL n 0 = 0 := by unfold fromL; rw [if_neg (by omega)]; rfl
theorem give_same (l : List UInt8) (d : UInt8) : giveL l d = rgiveL l d := by
  unfold giveL rgiveL
  by_cases h : d = 92 ∨ d = 10
  · rw [if_pos (Or.inr h)]
    have : rtakeL (rgv d l ++ [d]) 0 d = ([], fromL (rgv d l ++ [d]).length 0, 120) := by unfold rtakeL; rw [if_pos h]
    simp only [this]
    rw [if_pos (Or.inl (by simp))]
  · have h1 : d ≠ 92 := fun e => h (Or.inl e)
    have h2 : d ≠ 10 := fun e => h (Or.inr e)
    have ht : rtakeL (rgv d l ++ [d]) 0 d = match rtk d (rgv d l ++ [d]) [] with
        | none => ([], 0, 120)
        | some x => (x.1, 0 + x.2, 0) := by
      unfold rtakeL; rw [if_neg h, fromL_zero]; simp only [List.drop_zero]
      cases rtk d (rgv d l ++ [d]) [] <;> rfl
    simp only [ht]
    rcases give_rgv d h1 h2 _ l [] [] (Nat.le_refl _) with ⟨a1, a2, a3⟩ | ⟨a1, a2⟩
    · rw [if_neg (by rintro (q | q); omega; exact h q), a3, a2]
      simp
    · rw [if_pos (Or.inl a1)]
      cases hr : rtk d (rgv d l ++ [d]) [] with
      | none => simp
      | some x =>
        have := a2 x hr
        simp at this
        simp [this]

/-- A step of the reference's loop, told at a place. -/
theorem rtk_at {d : UInt8} {l out : List UInt8} {k : Nat} (h : k < l.length) :
    (l[k] = d → rtk d (l.drop k) out = some (out, 1)) ∧ (l[k] ≠ d → l[k] = 10 → rtk d (l.drop k) out = none) ∧ (l[k] ≠ d → l[k] = 92 → k + 1 = l.length → rtk d (l.drop k) out = none) ∧
    (∀ h2 : k + 1 < l.length, l[k] ≠ d → l[k] = 92 → rtk d (l.drop k) out = (rtk d (l.drop (k + 2)) (out ++ if l[k + 1] = d then [l[k + 1]] else [l[k], l[k + 1]])).map fun x => (x.1, x.2 + 2)) ∧
    (l[k] ≠ d → l[k] ≠ 10 → l[k] ≠ 92 → rtk d (l.drop k) out = (rtk d (l.drop (k + 1)) (out ++ [l[k]])).map fun x => (x.1, x.2 + 1)) := by
  rw [List.drop_eq_getElem_cons h]
  generalize hc : l[k] = c
  refine ⟨?_, ?_, ?_, ?_, ?_⟩
  · rintro rfl; exact rtk_self _ _ _
  · rintro hd rfl; exact rtk_ten (Ne.symm hd) _ _
  · rintro hd rfl he
    rw [List.drop_of_length_le (by omega)]; simp [rtk, hd]
  · rintro h2 hd rfl
    rw [List.drop_eq_getElem_cons h2, rtk_esc (Ne.symm hd)]
  · intro hd h10 h92
    by_cases h2 : k + 1 < l.length
    · rw [rtk_one hd h10 h92 _ _ (by simp; omega)]
    · rw [List.drop_of_length_le (by omega)]; simp [rtk, hd, h10, h92]
theorem rgv_at {d : UInt8} {l : List UInt8} {k : Nat} (h : k < l.length) :
    (∀ h2 : k + 1 < l.length, l[k] = 92 → rgv d (l.drop k) = (if l[k] = d then [92] else []) ++ l[k] :: l[k + 1] :: rgv d (l.drop (k + 2))) ∧
    (¬ (l[k] = 92 ∧ k + 1 < l.length) → rgv d (l.drop k) = (if l[k] = d then [92] else []) ++ l[k] :: rgv d (l.drop (k + 1))) := by
  rw [List.drop_eq_getElem_cons h]
  generalize l[k] = c
  constructor
  · rintro h2 rfl
    rw [List.drop_eq_getElem_cons h2]; simp [rgv]
  · intro hn
    by_cases h2 : k + 1 < l.length
    · have hc : c ≠ 92 := fun e => hn ⟨e, h2⟩
      rw [List.drop_eq_getElem_cons h2]; simp [rgv, hc]
    · rw [List.drop_of_length_le (by omega)]; simp [rgv]
theorem rgv_len (d : UInt8) : ∀ (n : Nat) (l : List UInt8), l.length ≤ n → (rgv d l).length ≤ 2 * l.length
  | _, [], _ => by simp [rgv]
  | _, [c], _ => by simp [rgv]; split <;> simp
  | n + 1, c :: e :: r, h => by
    have h1 := rgv_len d n r (by simp at h ⊢; omega)
    have h2 := rgv_len d n (e :: r) (by simp at h ⊢; omega)
    simp only [rgv]
    simp only [List.length_cons] at h2
    split <;> split <;> simp <;> omega

theorem take_cases (l : List UInt8) (at_ : Int) (d : UInt8) : (takeL l at_ d = ([], fromL l.length at_, 120)) ∨ (d ≠ 92 ∧ d ≠ 10 ∧ ∃ x, rtk d (l.drop (fromL l.length at_)) [] = some x ∧ takeL l at_ d = (x.1, fromL l.length at_ + x.2, 0)) := by
  rw [take_same]; unfold rtakeL
  by_cases h : d = 92 ∨ d = 10
  · left; rw [if_pos h]
  · rw [if_neg h]
    cases hr : rtk d (l.drop (fromL l.length at_)) [] with
    | none => left; rfl
    | some x => right; exact ⟨fun e => h (Or.inl e), fun e => h (Or.inr e), x, rfl, rfl⟩
theorem give_cases (l : List UInt8) (d : UInt8) : giveL l d = ([], 1) ∨ ∃ u, giveL l d = (u, 0) ∧ takeL (u ++ [d]) 0 d = (l, u.length + 1, 0) := by
  rw [give_same]; unfold rgiveL
  simp only
  split
  · left; rfl
  · rename_i h
    right
    refine ⟨_, rfl, ?_⟩
    rw [take_same]
    have h1 : (rtakeL (rgv d l ++ [d]) 0 d).2.2 = 0 := Classical.byContradiction fun e => h (Or.inl e)
    have h2 : (rtakeL (rgv d l ++ [d]) 0 d).1 = l := Classical.byContradiction fun e => h (Or.inr (Or.inl e))
    have h3 : (rtakeL (rgv d l ++ [d]) 0 d).2.1 = (rgv d l).length + 1 := Classical.byContradiction fun e => h (Or.inr (Or.inr e))
    exact Prod.ext h2 (Prod.ext h3 h1)
theorem give_len (l : List UInt8) (d : UInt8) : (giveL l d).1.length ≤ 2 * l.length := by
  rw [give_same]; unfold rgiveL
  simp only
  split
  · simp
  · exact rgv_len d _ l (Nat.le_refl _)
theorem rtk_out_len (d : UInt8) : ∀ (n : Nat) (l out : List UInt8) (x : List UInt8 × Nat), l.length ≤ n → rtk d l out = some x → x.1.length ≤ out.length + l.length
  | _, [], out, x, _, h => by simp [rtk] at h
  | _, [c], out, x, _, h => by
    simp only [rtk] at h
    split at h
    · cases h; simp
    · split at h <;> cases h
  | n + 1, c :: e :: r, out, x, hl, h => by
    simp only [rtk] at h
    split at h
    · cases h; simp
    · split at h
      · cases h
      · split at h
        · obtain ⟨y, hy, rfl⟩ := Option.map_eq_some_iff.1 h
          have := rtk_out_len d n r _ y (by simp at hl ⊢; omega) hy
          simp only [List.length_append, List.length_cons] at this ⊢
          split at this <;> simp at this <;> omega
        · obtain ⟨y, hy, rfl⟩ := Option.map_eq_some_iff.1 h
          have := rtk_out_len d n (e :: r) _ y (by simp at hl ⊢; omega) hy
          simp only [List.length_append, List.length_cons, List.length_nil] at this ⊢
          omega
theorem take_len (l : List UInt8) (at_ : Int) (d : UInt8) : (takeL l at_ d).1.length ≤ l.length := by
  rcases take_cases l at_ d with h | ⟨_, _, x, h1, h2⟩
  · rw [h]; simp
  · rw [h2]
    have := rtk_out_len d _ _ _ x (Nat.le_refl _) h1
    simp at this ⊢; omega

/-- Where a take ends stands its end; what stands behind changes nothing. -/
theorem rtk_ends (d : UInt8) (h1 : d ≠ 92) (h2 : d ≠ 10) : ∀ (n : Nat) (l out : List UInt8) (x : List UInt8 × Nat), l.length ≤ n → rtk d l out = some x →
    1 ≤ x.2 ∧ x.2 ≤ l.length ∧ l[x.2 - 1]? = some d ∧ ∀ rest, rtk d (l.take x.2 ++ rest) out = some x
  | _, [], out, x, _, h => by simp [rtk] at h
  | _, [c], out, x, _, h => by
    simp only [rtk] at h
    split at h
    · rename_i hc
      cases h; subst hc
      exact ⟨by simp, by simp, by simp, fun rest => by simp only [List.take, List.cons_append]; exact rtk_self _ _ _⟩
    · split at h <;> cases h
  | n + 1, c :: e :: r, out, x, hl, h => by
    simp only [rtk] at h
    split at h
    · rename_i hc
      cases h; subst hc
      exact ⟨by simp, by simp, by simp, fun rest => by simp only [List.take, List.cons_append]; exact rtk_self _ _ _⟩
    · rename_i hc
      split at h
      · cases h
      · rename_i h10
        split at h
        · rename_i h92
          subst h92
          obtain ⟨y, hy, rfl⟩ := Option.map_eq_some_iff.1 h
          obtain ⟨a1, a2, a3, a4⟩ := rtk_ends d h1 h2 n r _ y (by simp at hl ⊢; omega) hy
          refine ⟨by simp, by simp only [List.length_cons]; omega, ?_, ?_⟩
          · have : y.2 + 2 - 1 = (y.2 - 1) + 1 + 1 := by omega
            simp only [this, List.getElem?_cons_succ]; exact a3
          · intro rest
            have : List.take (y.2 + 2) (92 :: e :: r) = 92 :: e :: List.take y.2 r := by simp [List.take_succ_cons]
            simp only [this, List.cons_append]
            rw [rtk_esc h1, a4 rest]; rfl
        · rename_i h92
          obtain ⟨y, hy, rfl⟩ := Option.map_eq_some_iff.1 h
          obtain ⟨a1, a2, a3, a4⟩ := rtk_ends d h1 h2 n (e :: r) _ y (by simp at hl ⊢; omega) hy
          refine ⟨by simp, by simp only [List.length_cons] at a2 ⊢; omega, ?_, ?_⟩
          · have : y.2 + 1 - 1 = (y.2 - 1) + 1 := by omega
            simp only [this, List.getElem?_cons_succ]; exact a3
          · intro rest
            have : List.take (y.2 + 1) (c :: e :: r) = c :: List.take y.2 (e :: r) := by simp [List.take_succ_cons]
            simp only [this, List.cons_append]
            rw [rtk_one hc h10 h92 _ _ (by
              intro hn
              have := congrArg List.length hn
              simp at this
              omega), a4 rest]; rfl
theorem take_ends (l : List UInt8) (d : UInt8) : takeL l 0 d = ([], 0, 120) ∨ ∃ t n, takeL l 0 d = (t, n, 0) ∧ 1 ≤ n ∧ n ≤ l.length ∧ l[n - 1]? = some d ∧ ∀ rest, takeL (l.take n ++ rest) 0 d = (t, n, 0) := by
  rcases take_cases l 0 d with h | ⟨h1, h2, x, h3, h4⟩
  · left; rw [h, fromL_zero]
  · right
    rw [fromL_zero] at h3 h4
    simp only [List.drop_zero] at h3
    obtain ⟨a1, a2, a3, a4⟩ := rtk_ends d h1 h2 _ l [] x (Nat.le_refl _) h3
    refine ⟨x.1, x.2, by rw [h4]; simp, a1, a2, a3, fun rest => ?_⟩
    rcases take_cases (l.take x.2 ++ rest) 0 d with h | ⟨_, _, y, h5, h6⟩
    · exfalso
      have := a4 rest
      rw [take_same] at h
      unfold rtakeL at h
      rw [if_neg (by rintro (q | q); exact h1 q; exact h2 q), fromL_zero] at h
      simp only [List.drop_zero] at h
      rw [this] at h
      simp at h
    · rw [fromL_zero] at h5 h6
      simp only [List.drop_zero] at h5
      rw [a4 rest] at h5
      cases h5
      rw [h6]; simp
end Go.Proofs.YtiaiipmocamofaaDoor.Pc
