/- Subst: what is parsed can be printed: plain. -/
import Derived.Test.YtinallojhkaogaaGreatDoorSbQPk
namespace Go.Proofs.YtinallojhkaogaaGreatDoor.Mt
open Go.RowKit Go.Shelf
open Go.Proofs.YtinallojhkaogaaGreatDoor.Rx
open Go.Proofs.YtinallojhkaogaaGreatDoor.Rq (Tp rep rp at1)
set_option linter.unusedVariables false
set_option linter.unusedSimpArgs false
theorem rep_le (t : List UInt8) : (rep qT t).length ≤ 2 * t.length := by
  rw [Rq.rep_len]
  have := List.countP_le_length (p := Rq.hit qT) (l := t)
  omega
theorem lastG_snoc (last : Int) (a : List Pt) (p : Pt) : lastG last (a ++ [p]) = p.g := by unfold lastG; rw [List.getLast?_concat]
theorem print_flush {a : List Pt} {x : List UInt8} (h : printP 0 a = some x) (hl : lastG 0 a ≠ -1) (t : List UInt8) : ∃ y, printP 0 (a ++ flushP t) = some y ∧ y.length ≤ x.length + 2 * t.length := by
  by_cases e : t = []
  · subst e; exact ⟨x, by simpa [flushP] using h, by omega⟩
  · have h2 : printP (lastG 0 a) (flushP t) = some (rep qT t) := by
      unfold flushP
      rw [if_neg e]
      show (okP (lastG 0 a) ⟨t, -1⟩).bind (fun a => (printP (-1) []).map fun b => a ++ b) = _
      rw [show okP (lastG 0 a) ⟨t, -1⟩ = some (rep qT t) from if_pos ⟨rfl, e, hl⟩]
      simp [printP]
    refine ⟨_, print_append a _ 0 x _ h h2, ?_⟩
    have := rep_le t
    rw [List.length_append]; omega
theorem print_group {a : List Pt} {x : List UInt8} (h : printP 0 a = some x) {g : Nat} (hg : g < 10) : ∃ y, printP 0 (a ++ [⟨[], (g : Int)⟩]) = some y ∧ y.length ≤ x.length + 2 := by
  obtain ⟨z, hz, hl⟩ : ∃ z, okP (lastG 0 a) ⟨[], (g : Int)⟩ = some z ∧ z.length ≤ 2 := by
    unfold okP
    dsimp only
    rw [if_neg (by simp)]
    by_cases e : g = 0
    · subst e; exact ⟨_, if_pos ⟨rfl, rfl⟩, by decide⟩
    · rw [if_neg (by rintro ⟨_, q⟩; omega)]
      exact ⟨_, if_pos ⟨rfl, by omega, by omega⟩, by simp⟩
  have h2 : printP (lastG 0 a) [⟨[], (g : Int)⟩] = some z := by
    show (okP (lastG 0 a) ⟨[], (g : Int)⟩).bind (fun a => (printP (g : Int) []).map fun b => a ++ b) = _
    rw [hz]
    simp [printP]
  exact ⟨_, print_append a _ 0 x _ h h2, by rw [List.length_append]; omega⟩
/-- What a text is read as can be printed, and is not much longer. -/
theorem par_ok : ∀ (n : Nat) (s : List UInt8) (i : Nat) (t : List UInt8) (a : List Pt) (x : List UInt8), s.length ≤ n → printP 0 a = some x → lastG 0 a ≠ -1 → ∀ r j, parS s i t a = (some r, j) → ∃ y, printP 0 r = some y ∧ y.length ≤ x.length + 2 * t.length + 2 * s.length
  | n, [], i, t, a, x, hn, hx, hl, r, j, h => by
    rw [parS.eq_def] at h
    obtain ⟨rfl, _⟩ : a ++ flushP t = r ∧ _ := by simpa using h
    obtain ⟨y, h1, h2⟩ := print_flush hx hl t
    exact ⟨y, h1, by omega⟩
  | 0, c :: s, i, t, a, x, hn, hx, hl, r, j, h => by simp at hn
  | n + 1, c :: s, i, t, a, x, hn, hx, hl, r, j, h => by
    have hn' : s.length ≤ n := by simp at hn; omega
    rw [List.length_cons]
    by_cases h1 : c = 38
    · subst h1
      rw [par_38] at h
      obtain ⟨y, e1, e2⟩ := print_flush hx hl t
      obtain ⟨y2, e3, e4⟩ := print_group e1 (g := 0) (by decide)
      obtain ⟨z, e5, e6⟩ := par_ok n s (i + 1) [] _ y2 hn' e3 (by rw [lastG_snoc]; decide) r j h
      exact ⟨z, e5, by simp at e6; omega⟩
    · by_cases h2 : c = 10
      · subst h2; rw [par_10] at h; cases h
      · by_cases h3 : c = 92
        · subst h3
          cases s with
          | nil => rw [par_end] at h; cases h
          | cons d s' =>
            have hn2 : s'.length ≤ n := by simp at hn'; omega
            rw [List.length_cons]
            rw [par_92] at h
            split at h
            · next hd =>
              obtain ⟨d1, d2⟩ := hd
              have q1 : 49 ≤ d.toNat := UInt8.le_iff_toNat_le.1 d1
              have q2 : d.toNat ≤ 57 := UInt8.le_iff_toNat_le.1 d2
              rw [show (d.toNat : Int) - 48 = ((d.toNat - 48 : Nat) : Int) from by omega] at h
              obtain ⟨y, e1, e2⟩ := print_flush hx hl t
              obtain ⟨y2, e3, e4⟩ := print_group e1 (g := d.toNat - 48) (by omega)
              obtain ⟨z, e5, e6⟩ := par_ok n s' (i + 2) [] _ y2 hn2 e3 (by rw [lastG_snoc]; show ((d.toNat - 48 : Nat) : Int) ≠ -1; omega) r j h
              exact ⟨z, e5, by simp at e6; omega⟩
            · split at h
              · obtain ⟨z, e5, e6⟩ := par_ok n s' (i + 2) _ a x hn2 hx hl r j h
                exact ⟨z, e5, by simp at e6; omega⟩
              · split at h
                · obtain ⟨z, e5, e6⟩ := par_ok n s' (i + 2) _ a x hn2 hx hl r j h
                  exact ⟨z, e5, by simp at e6; omega⟩
                · cases h
        · rw [par_c h1 h2 h3] at h
          obtain ⟨z, e5, e6⟩ := par_ok n s (i + 1) _ a x hn' hx hl r j h
          exact ⟨z, e5, by simp at e6; omega⟩
/-- What is parsed is printed, and that is parsed to the same. -/
theorem par_back {s : List UInt8} {r : List Pt} {j : Nat} (h : parS s 0 [] [] = (some r, j)) : ∃ y, printP 0 r = some y ∧ y.length ≤ 2 * s.length ∧ parS y 0 [] [] = (some r, 0) := by
  obtain ⟨y, h1, h2⟩ := par_ok s.length s 0 [] [] [] (Nat.le_refl _) rfl (by decide) r j h
  exact ⟨y, h1, by simpa using h2, by simpa [flushP] using par_print r 0 y [] 0 [] h1 (fun _ => rfl)⟩
theorem print_le : ∀ (l : List Pt) (last : Int) (y : List UInt8), printP last l = some y → (∀ p ∈ l, p.t.length ≤ 100) → y.length ≤ 200 * l.length
  | [], _, y, h, _ => by obtain rfl := Option.some.inj h; simp
  | p :: r, last, y, h, hb => by
    have h' : (okP last p).bind (fun a => (printP p.g r).map fun b => a ++ b) = some y := h
    obtain ⟨u, hu, h3⟩ := Option.bind_eq_some_iff.1 h'
    obtain ⟨v, hv, rfl⟩ := Option.map_eq_some_iff.1 h3
    have ih := print_le r p.g v hv (fun q hq => hb q (List.mem_cons_of_mem _ hq))
    have hu2 : u.length ≤ 200 := by
      have hp := hb p (List.mem_cons_self ..)
      have := rep_le p.t
      unfold okP at hu
      split at hu
      · obtain rfl := Option.some.inj hu; omega
      · split at hu
        · obtain rfl := Option.some.inj hu; decide
        · split at hu
          · obtain rfl := Option.some.inj hu; simp
          · cases hu
    rw [List.length_append, List.length_cons]; omega
end Go.Proofs.YtinallojhkaogaaGreatDoor.Mt
