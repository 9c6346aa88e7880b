/- Maps of bytes: plain facts. -/
import Derived.Test.YtpgglnibfojdgaaGreatDoorTrPlain
namespace Go.Proofs.YtpgglnibfojdgaaGreatDoor.Tr
set_option linter.unusedVariables false
set_option linter.unusedSimpArgs false

/-- The map that makes the bytes of one text those of the other one. -/
def mapOf : List UInt8 → List UInt8 → UInt8 → UInt8
  | a :: r, b :: s, x => if x = a then b else mapOf r s x
  | _, _, x => x
theorem mapOf_snoc : ∀ (f t : List UInt8) (a b x : UInt8), f.length = t.length → a ∉ f → mapOf (f ++ [a]) (t ++ [b]) x = if x = a then b else mapOf f t x
  | [], [], a, b, x, _, _ => by simp [mapOf]
  | c :: r, d :: s, a, b, x, hl, ha => by
    have ih := mapOf_snoc r s a b x (by simpa using hl) (fun h => ha (by simp [h]))
    simp only [List.cons_append, mapOf, ih]
    by_cases h1 : x = c
    · have h2 : ¬ x = a := by rintro rfl; exact ha (by simp [h1])
      rw [if_pos h1, if_neg h2, if_pos h1]
    · rw [if_neg h1]
      by_cases h2 : x = a
      · rw [if_pos h2, if_pos h2]
      · rw [if_neg h2, if_neg h2, if_neg h1]
theorem mapOf_out : ∀ (f t : List UInt8) (x : UInt8), x ∉ f → mapOf f t x = x
  | [], _, x, _ => by simp [mapOf]
  | c :: r, [], x, _ => by simp [mapOf]
  | c :: r, d :: s, x, h => by
    simp only [mapOf]
    rw [if_neg (by rintro rfl; exact h (by simp)), mapOf_out r s x (fun q => h (by simp [q]))]
theorem mapOf_at : ∀ (f t : List UInt8) (j : Nat) (hj : j < f.length) (hl : f.length = t.length), f.Nodup → mapOf f t (f[j]) = t[j]'(by omega)
  | c :: r, d :: s, 0, _, _, _ => by simp [mapOf]
  | c :: r, d :: s, j + 1, hj, hl, hn => by
    rw [List.nodup_cons] at hn
    simp only [List.getElem_cons_succ, mapOf]
    rw [if_neg (by intro e; exact hn.1 (by rw [← e]; exact List.getElem_mem _))]
    exact mapOf_at r s j (by simpa using hj) (by simpa using hl) hn.2
/-- The map of two texts, or none. -/
def makeL (f t : List UInt8) : Option (UInt8 → UInt8) := if f.length = t.length ∧ f.Nodup then some (mapOf f t) else none
theorem nodup_take {f : List UInt8} {k : Nat} (h : k < f.length) : (f.take (k + 1)).Nodup ↔ (f.take k).Nodup ∧ f[k] ∉ f.take k := by
  rw [List.take_succ_eq_append_getElem h, List.nodup_append]
  constructor
  · rintro ⟨h1, _, h3⟩
    exact ⟨h1, fun q => h3 _ q _ (by simp) rfl⟩
  · rintro ⟨h1, h2⟩
    refine ⟨h1, by simp, ?_⟩
    intro a ha b hb e
    have hb' : b = f[k] := by simpa using hb
    subst e
    rw [hb'] at ha
    exact h2 ha
theorem not_nodup_take {f : List UInt8} {k : Nat} (h : k < f.length) (hm : f[k] ∈ f.take k) : ¬ f.Nodup := by
  intro hn
  have := hn.sublist (List.take_sublist (k + 1) f)
  exact ((nodup_take h).1 this).2 hm
theorem mapOf_take {f t : List UInt8} {k : Nat} (hl : f.length = t.length) (h : k < f.length) (hn : f[k] ∉ f.take k) (x : UInt8) :
    mapOf (f.take (k + 1)) (t.take (k + 1)) x = if x = f[k] then t[k]'(by omega) else mapOf (f.take k) (t.take k) x := by
  rw [List.take_succ_eq_append_getElem h, List.take_succ_eq_append_getElem (by omega : k < t.length)]
  exact mapOf_snoc _ _ _ _ _ (by simp; omega) hn
/-- A map there, and back. -/
theorem inverse {f t : List UInt8} (hl : f.length = t.length) (hf : f.Nodup) (ht : t.Nodup) (hs : ∀ b ∈ t, b ∈ f) (x : UInt8) : mapOf t f (mapOf f t x) = x := by
  by_cases h : x ∈ f
  · obtain ⟨j, hj, rfl⟩ := List.getElem_of_mem h
    rw [mapOf_at f t j hj hl hf, mapOf_at t f j (by omega) hl.symm ht]
  · rw [mapOf_out f t x h, mapOf_out t f x (fun q => h (hs x q))]
end Go.Proofs.YtpgglnibfojdgaaGreatDoor.Tr
