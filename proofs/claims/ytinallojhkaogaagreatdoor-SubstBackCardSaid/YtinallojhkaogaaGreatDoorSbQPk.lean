/- Subst: what is parsed is printed, and what is printed is parsed to the same: plain. -/
import Derived.Test.YtinallojhkaogaaGreatDoorGk35
import Derived.Test.YtinallojhkaogaaGreatDoorRqPPk
namespace Go.Proofs.YtinallojhkaogaaGreatDoor.Mt
open Go.RowKit Go.Shelf
open Go.Proofs.YtinallojhkaogaaGreatDoor.Rx
open Go.Proofs.YtinallojhkaogaaGreatDoor.Rq (Tp rep rp at1)
set_option linter.unusedVariables false
set_option linter.unusedSimpArgs false
def qT : List Tp := [⟨10, 92, 110⟩, ⟨92, 92, 92⟩, ⟨38, 92, 38⟩]
/-- What is written for a part, behind one of group last. -/
def okP (last : Int) (p : Pt) : Option (List UInt8) :=
  if p.g = -1 ∧ p.t ≠ [] ∧ last ≠ -1 then some (rep qT p.t)
  else if p.t = [] ∧ p.g = 0 then some [38]
  else if p.t = [] ∧ 0 < p.g ∧ p.g < 10 then some [92, (48 + p.g.toNat).toUInt8]
  else none
def printP : Int → List Pt → Option (List UInt8)
  | _, [] => some []
  | last, p :: r => (okP last p).bind fun a => (printP p.g r).map fun b => a ++ b
def lastG (last : Int) (l : List Pt) : Int := match l.getLast? with | some p => p.g | none => last
theorem rep_cons (t : List Tp) (c : UInt8) (l : List UInt8) : rep t (c :: l) = rp t c ++ rep t l := rfl
theorem par_rep (s' : List UInt8) (a : List Pt) : ∀ (u t : List UInt8) (i : Nat), ∃ i', parS (rep qT u ++ s') i t a = parS s' i' (t ++ u) a
  | [], t, i => ⟨i, by rw [List.append_nil]; rfl⟩
  | c :: u, t, i => by
    rw [rep_cons, List.append_assoc]
    by_cases h1 : c = 10
    · subst h1
      obtain ⟨i', h⟩ := par_rep s' a u (t ++ [10]) (i + 2)
      refine ⟨i', ?_⟩
      rw [show rp qT 10 = [92, 110] from by decide]
      show parS (92 :: 110 :: (rep qT u ++ s')) i t a = _
      rw [par_92, if_neg (by decide), if_pos rfl, h, List.append_assoc]
      rfl
    · by_cases h2 : c = 92
      · subst h2
        obtain ⟨i', h⟩ := par_rep s' a u (t ++ [92]) (i + 2)
        refine ⟨i', ?_⟩
        rw [show rp qT 92 = [92, 92] from by decide]
        show parS (92 :: 92 :: (rep qT u ++ s')) i t a = _
        rw [par_92, if_neg (by decide), if_neg (by decide), if_pos (by decide), h, List.append_assoc]
        rfl
      · by_cases h3 : c = 38
        · subst h3
          obtain ⟨i', h⟩ := par_rep s' a u (t ++ [38]) (i + 2)
          refine ⟨i', ?_⟩
          rw [show rp qT 38 = [92, 38] from by decide]
          show parS (92 :: 38 :: (rep qT u ++ s')) i t a = _
          rw [par_92, if_neg (by decide), if_neg (by decide), if_pos (by decide), h, List.append_assoc]
          rfl
        · obtain ⟨i', h⟩ := par_rep s' a u (t ++ [c]) (i + 1)
          refine ⟨i', ?_⟩
          have e : at1 qT c = none := by
            unfold at1 qT
            simp only [List.find?_cons, List.find?_nil]
            rw [show ((10 : UInt8) == c) = false from by rw [beq_eq_false_iff_ne]; exact fun q => h1 q.symm, show ((92 : UInt8) == c) = false from by rw [beq_eq_false_iff_ne]; exact fun q => h2 q.symm, show ((38 : UInt8) == c) = false from by rw [beq_eq_false_iff_ne]; exact fun q => h3 q.symm]
          rw [Rq.rp_none e]
          show parS (c :: (rep qT u ++ s')) i t a = _
          rw [par_c h3 h1 h2, h, List.append_assoc]
          rfl
/-- What is printed is parsed to the same. -/
theorem par_print : ∀ (l : List Pt) (last : Int) (s t : List UInt8) (i : Nat) (a : List Pt), printP last l = some s → (last ≠ -1 → t = []) → parS s i t a = (some (a ++ flushP t ++ l), 0)
  | [], last, s, t, i, a, h, ht => by
    obtain rfl := Option.some.inj h
    rw [parS.eq_def]
    simp
  | p :: r, last, s, t, i, a, h, ht => by
    obtain ⟨pt, pg⟩ := p
    have h' : (okP last ⟨pt, pg⟩).bind (fun a => (printP pg r).map fun b => a ++ b) = some s := h
    obtain ⟨x, hx, h2⟩ := Option.bind_eq_some_iff.1 h'
    obtain ⟨y, hy, rfl⟩ := Option.map_eq_some_iff.1 h2
    unfold okP at hx
    dsimp only at hx
    split at hx
    · next hc =>
      obtain ⟨rfl, c2, c3⟩ := hc
      obtain rfl := Option.some.inj hx
      obtain rfl := ht c3
      obtain ⟨i', e⟩ := par_rep y a pt [] i
      rw [e, par_print r (-1) y _ i' a hy (fun q => absurd rfl q)]
      simp [flushP, c2]
    · split at hx
      · next hc =>
        obtain ⟨rfl, rfl⟩ := hc
        obtain rfl := Option.some.inj hx
        show parS (38 :: y) i t a = _
        rw [par_38, par_print r 0 y [] (i + 1) _ hy (fun _ => rfl)]
        simp [flushP]
      · split at hx
        · next hc =>
          obtain ⟨rfl, c2, c3⟩ := hc
          obtain rfl := Option.some.inj hx
          obtain ⟨k, rfl⟩ : ∃ k : Nat, pg = (k : Int) := ⟨pg.toNat, by omega⟩
          have hk : k < 10 := by omega
          have hk1 : 0 < k := by omega
          show parS (92 :: (48 + k).toUInt8 :: y) i t a = _
          have hd : ((48 + k).toUInt8).toNat = 48 + k := by simp; omega
          rw [par_92, if_pos ⟨UInt8.le_iff_toNat_le.2 (by rw [hd]; show 49 ≤ _; omega), UInt8.le_iff_toNat_le.2 (by rw [hd]; show _ ≤ 57; omega)⟩, hd, par_print r _ y [] (i + 2) _ hy (fun _ => rfl)]
          simp [flushP]
          omega
        · cases hx
theorem print_append : ∀ (a b : List Pt) (last : Int) (x y : List UInt8), printP last a = some x → printP (lastG last a) b = some y → printP last (a ++ b) = some (x ++ y)
  | [], b, last, x, y, h, h2 => by
    obtain rfl := Option.some.inj h
    exact h2
  | p :: r, b, last, x, y, h, h2 => by
    have h' : (okP last p).bind (fun a => (printP p.g r).map fun b => a ++ b) = some x := h
    obtain ⟨u, hu, h3⟩ := Option.bind_eq_some_iff.1 h'
    obtain ⟨v, hv, rfl⟩ := Option.map_eq_some_iff.1 h3
    have e : lastG last (p :: r) = lastG p.g r := by
      unfold lastG
      cases r with
      | nil => rfl
      | cons q r' => rw [List.getLast?_cons_cons]; cases hq : (q :: r').getLast? with
        | none => simp at hq
        | some z => rfl
    rw [e] at h2
    have ih := print_append r b p.g v y hv h2
    show (okP last p).bind (fun a => (printP p.g (r ++ b)).map fun b => a ++ b) = _
    rw [hu, ih]
    simp
end Go.Proofs.YtinallojhkaogaaGreatDoor.Mt
