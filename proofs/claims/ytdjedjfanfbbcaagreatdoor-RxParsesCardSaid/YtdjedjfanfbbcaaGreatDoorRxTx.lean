/- Patterns: the texts on the stack: plain facts. -/
import Derived.Test.YtdjedjfanfbbcaaGreatDoorRxPat
import Derived.Test.YtdjedjfanfbbcaaGreatDoorRxGr
namespace Go.Proofs.YtdjedjfanfbbcaaGreatDoor.Rx
open Tr
open Go.Proofs.YtdjedjfanfbbcaaGreatDoor.St (Wf bytesL)
set_option linter.unusedVariables false
set_option linter.unusedSimpArgs false
/-- What a node is told by, where its parts are told. -/
def nodeS (n : Nd) (b : List UInt8) : List UInt8 :=
  if n.k = 0 then [101] else if n.k = 1 then 91 :: ((bytesL n.s).flatMap hexB ++ [93]) else if n.k = 2 then [94] else if n.k = 3 then [36]
  else if n.k = 4 then 38 :: b else if n.k = 5 then 124 :: b else if n.k = 6 then 42 :: (Lib.itoa n.mn ++ 44 :: (Lib.itoa n.mx ++ 59 :: b))
  else if n.k = 7 then 40 :: (b ++ [41]) else 92 :: Lib.itoa n.n
theorem texts_step {n : Nd} {ts : List Tr} (hok : OneN n) (hp : parts n ≤ ts.length) :
    (build n ts).map textT = (ts.map textT).take (ts.length - parts n) ++ [nodeS n ((ts.map textT).drop (ts.length - parts n)).flatten] := by
  obtain ⟨k, s, a, b, mn, mx, m⟩ := n
  have leaf : ∀ (t : Tr), parts ⟨k, s, a, b, mn, mx, m⟩ = 0 → build ⟨k, s, a, b, mn, mx, m⟩ ts = ts ++ [t] → (∀ z, textT t = nodeS ⟨k, s, a, b, mn, mx, m⟩ z) → (build ⟨k, s, a, b, mn, mx, m⟩ ts).map textT = (ts.map textT).take (ts.length - parts ⟨k, s, a, b, mn, mx, m⟩) ++ [nodeS ⟨k, s, a, b, mn, mx, m⟩ ((ts.map textT).drop (ts.length - parts ⟨k, s, a, b, mn, mx, m⟩)).flatten] := by
    intro t h1 h2 h3
    rw [h1, h2, Nat.sub_zero, List.take_of_length_le (by simp), ← h3, List.map_append]
    rfl
  have one : parts ⟨k, s, a, b, mn, mx, m⟩ = 1 → ∃ us x, ts = us ++ [x] := by
    intro h
    rw [h] at hp
    obtain ⟨us, x, rfl, _⟩ := split_one (show ts.length = (ts.length - 1) + 1 by omega)
    exact ⟨us, x, rfl⟩
  have two : parts ⟨k, s, a, b, mn, mx, m⟩ = 2 → ∃ us x y, ts = us ++ [x, y] := by
    intro h
    rw [h] at hp
    obtain ⟨p, y, rfl, hpl⟩ := split_one (show ts.length = (ts.length - 1) + 1 by omega)
    obtain ⟨us, x, rfl, _⟩ := split_one (show p.length = (p.length - 1) + 1 by simp at hp; omega)
    exact ⟨us, x, y, by simp⟩
  have fin : ∀ (us vs : List Tr) (t : Tr), ts = us ++ vs → parts ⟨k, s, a, b, mn, mx, m⟩ = vs.length → build ⟨k, s, a, b, mn, mx, m⟩ ts = us ++ [t] → textT t = nodeS ⟨k, s, a, b, mn, mx, m⟩ (vs.map textT).flatten →
      (build ⟨k, s, a, b, mn, mx, m⟩ ts).map textT = (ts.map textT).take (ts.length - parts ⟨k, s, a, b, mn, mx, m⟩) ++ [nodeS ⟨k, s, a, b, mn, mx, m⟩ ((ts.map textT).drop (ts.length - parts ⟨k, s, a, b, mn, mx, m⟩)).flatten] := by
    rintro us vs t rfl h1 h2 h3
    have e : (us ++ vs).length - vs.length = (us.map textT).length := by simp
    rw [h2, h1, e, List.map_append, List.map_append, List.take_left, List.drop_left, ← h3]
    rfl
  simp only [OneN] at hok
  rcases hok with ⟨hk, rfl, rfl, rfl, rfl, rfl, rfl⟩ | ⟨rfl, hs, rfl, rfl, rfl, rfl, rfl⟩ | ⟨hk, rfl, rfl, rfl, rfl⟩ | ⟨rfl, rfl, rfl, rfl, h6, h7, h8⟩ | ⟨rfl, rfl, rfl, rfl, rfl, h6, h7⟩ | ⟨rfl, rfl, rfl, rfl, rfl, rfl, h6, h7⟩
  · rcases hk with rfl | rfl | rfl
    · exact leaf .e rfl rfl (fun _ => rfl)
    · exact leaf .beg rfl rfl (fun _ => rfl)
    · exact leaf .fin rfl rfl (fun _ => rfl)
  · exact leaf (.set s) rfl rfl (fun _ => rfl)
  · rcases hk with rfl | rfl
    · obtain ⟨us, x, y, rfl⟩ := two rfl
      exact fin us [x, y] (.cat x y) rfl rfl (by simp [build]) (by simp [textT, nodeS])
    · obtain ⟨us, x, y, rfl⟩ := two rfl
      exact fin us [x, y] (.alt x y) rfl rfl (by simp [build]) (by simp [textT, nodeS])
  · obtain ⟨us, x, rfl⟩ := one rfl
    exact fin us [x] (.times mn mx x) rfl rfl (by simp [build]) (by simp [textT, nodeS])
  · obtain ⟨us, x, rfl⟩ := one rfl
    exact fin us [x] (.grp m x) rfl rfl (by simp [build]) (by simp [textT, nodeS])
  · exact leaf (.ref m) rfl rfl (fun _ => rfl)
/-- The texts on the stack. -/
def tx (l : List Nd) (k : Nat) : List (List UInt8) := (treesRun l k).map textT
theorem ord_at {l : List Nd} {st : List Nat} (h : ordRun l l.length = some st) : ∀ k, k ≤ l.length → ∃ st', ordRun l k = some st' := by
  intro k hk
  cases e : ordRun l k with
  | some s => exact ⟨s, rfl⟩
  | none =>
    exfalso
    have : ∀ j, ordRun l (k + j) = none := by
      intro j
      induction j with
      | zero => exact e
      | succ j ih =>
        show (ordRun l (k + j)).bind _ = none
        rw [ih]; rfl
    have h2 := this (l.length - k)
    rw [show k + (l.length - k) = l.length by omega, h] at h2
    cases h2
theorem rootsL_len' (ts : List Tr) : (rootsL ts 0).length = ts.length := rootsL_len ts 0
theorem texts_len (em : Prop) : ∀ ts : List Tr, (∀ t ∈ ts, t.Fine em) → (ts.map textT).flatten.length ≤ 514 * sizeL ts
  | [], _ => by simp [sizeL]
  | t :: ts, h => by
    have h1 := text_len em t (h t (by simp))
    have h2 := texts_len em ts (fun u hu => h u (by simp [hu]))
    simp only [List.map_cons, List.flatten_cons, List.length_append, sizeL]
    omega
/-- One step of the stack of texts. -/
theorem tx_step {l : List Nd} {st : List Nat} (h : ordRun l l.length = some st) {k : Nat} (hk : k < l.length) :
    OneN l[k] ∧ parts l[k] ≤ (tx l k).length ∧ tx l (k + 1) = (tx l k).take ((tx l k).length - parts l[k]) ++ [nodeS l[k] ((tx l k).drop ((tx l k).length - parts l[k])).flatten] ∧ (tx l k).flatten.length ≤ 514 * k ∧ (tx l k).length ≤ k := by
  obtain ⟨s1, h1⟩ := ord_at h k (by omega)
  obtain ⟨s2, h2⟩ := ord_at h (k + 1) (by omega)
  obtain ⟨hf, hn, hr⟩ := run_trees l k s1 h1
  have hl : l[k]? = some l[k] := List.getElem?_eq_getElem hk
  have hok : StepOk l l[k] s1 := by
    have h2' : (ordRun l k).bind _ = some s2 := h2
    rw [h1] at h2'
    rw [show (some s1).bind _ = (match l[k]? with | none => none | some n => if StepOk l n s1 then some (push n k s1) else none) from rfl, hl] at h2'
    dsimp only at h2'
    split at h2'
    · assumption
    · cases h2'
  have hlen : (treesRun l k).length = s1.length := by rw [hr, rootsL_len']
  have e : treesRun l (k + 1) = build l[k] (treesRun l k) := by simp only [treesRun, hl]
  have hsz : sizeL (treesRun l k) = k := by
    have := congrArg List.length hn
    rw [List.length_take, nodesL_len] at this
    omega
  have hb : ∀ ts : List Tr, ts.length ≤ sizeL ts := by
    intro ts
    induction ts with
    | nil => simp [sizeL]
    | cons t ts ih => have := size_pos t; simp only [List.length_cons, sizeL]; omega
  refine ⟨hok.1, by unfold tx; rw [List.length_map, hlen]; exact hok.2.1, ?_, ?_, ?_⟩
  · unfold tx
    rw [e, texts_step hok.1 (by rw [hlen]; exact hok.2.1), List.length_map]
  · have := texts_len _ _ hf
    rw [hsz] at this
    exact this
  · unfold tx
    rw [List.length_map]
    have := hb (treesRun l k)
    omega
theorem tx_end {t : Tr} (h : Good t) : tx (t.nodes 0) t.size = [textT t] := by
  obtain ⟨i, hi⟩ := (ordered_iff (t.nodes 0)).2 ⟨t, h.1, rfl⟩
  obtain ⟨hf, hn, hr⟩ := run_trees _ _ _ hi
  rw [List.take_length] at hn
  rw [nodes_len] at hr hn hi
  unfold tx
  generalize treesRun (t.nodes 0) t.size = ts at *
  match ts, hr with
  | [u], hr =>
    have e : t.nodes 0 = u.nodes 0 := by rw [hn]; simp [nodesL]
    obtain rfl := nodes_inj t u 0 e
    rfl
  | [], hr => simp [rootsL] at hr
  | _ :: _ :: _, hr => simp [rootsL] at hr
theorem flat_drop (X : List (List UInt8)) (m : Nat) : (X.drop m).flatten.length ≤ X.flatten.length := by
  have := congrArg List.length (congrArg List.flatten (List.take_append_drop m X))
  rw [List.flatten_append, List.length_append] at this
  omega
end Go.Proofs.YtdjedjfanfbbcaaGreatDoor.Rx
