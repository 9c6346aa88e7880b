/- Patterns: what is folded: plain facts. -/
import Derived.Test.YtdjedjfanfbbcaaGreatDoorRxGr
import Derived.Test.YtdjedjfanfbbcaaGreatDoorSlB
namespace Go.Proofs.YtdjedjfanfbbcaaGreatDoor.Rx
open Tr
open Go.Proofs.YtdjedjfanfbbcaaGreatDoor.St (Wf bytesL bytesN zeroW foldW wf_foldW' foldW_again or_fold mem_zero wf_zero ext_mem mem_foldW mem)
set_option linter.unusedVariables false
set_option linter.unusedSimpArgs false
def foldT : Tr → Tr
  | .set s => .set (foldW s)
  | .cat x y => .cat (foldT x) (foldT y)
  | .alt x y => .alt (foldT x) (foldT y)
  | .times mn mx x => .times mn mx (foldT x)
  | .grp n x => .grp n (foldT x)
  | t => t
def foldN (n : Nd) : Nd := ⟨n.k, foldW n.s, n.a, n.b, n.mn, n.mx, n.n⟩
theorem foldW_z4 : foldW z4 = z4 := by
  show foldW zeroW = zeroW
  apply ext_mem (wf_foldW' wf_zero) wf_zero
  intro b hb
  rw [mem_zero, Bool.eq_false_iff]
  intro h
  rw [mem_foldW wf_zero hb] at h
  rcases h with h | ⟨c, hc, h, _⟩
  · rw [mem_zero] at h; cases h
  · rw [mem_zero] at h; cases h
theorem foldW_ne {s : List Nat} (h : Wf s) (hn : s ≠ z4) : foldW s ≠ z4 := by
  intro e
  apply hn
  show s = zeroW
  apply ext_mem h wf_zero
  intro b hb
  rw [mem_zero, Bool.eq_false_iff]
  intro hm
  have h2 : mem (foldW s) b = true := (mem_foldW h hb).2 (Or.inl hm)
  rw [e] at h2
  have h3 : mem zeroW b = true := h2
  rw [mem_zero] at h3; cases h3
theorem fold_rk : ∀ t : Tr, (foldT t).rk = t.rk
  | .e | .set _ | .beg | .fin | .ref _ | .cat _ _ | .alt _ _ | .times _ _ _ | .grp _ _ => rfl
theorem fold_size : ∀ t : Tr, (foldT t).size = t.size
  | .e | .set _ | .beg | .fin | .ref _ => rfl
  | .cat x y | .alt x y => by simp only [foldT, size]; rw [fold_size x, fold_size y]
  | .times _ _ x | .grp _ x => by simp only [foldT, size]; rw [fold_size x]
theorem fold_nodes : ∀ (t : Tr) (o : Nat), (foldT t).nodes o = (t.nodes o).map foldN
  | .e, o | .beg, o | .fin, o | .ref _, o => by simp [foldT, nodes, root, foldN, foldW_z4]
  | .set s, o => by simp [foldT, nodes, root, foldN]
  | .cat x y, o | .alt x y, o => by
    have hx := fold_nodes x o
    have hy := fold_nodes y (o + x.size)
    simp only [foldT, nodes, List.map_append, List.map_cons, List.map_nil]
    rw [hx, fold_size x, hy]
    simp [root, foldN, foldW_z4, fold_size]
  | .times _ _ x, o | .grp _ x, o => by
    have hx := fold_nodes x o
    simp only [foldT, nodes, List.map_append, List.map_cons, List.map_nil]
    rw [hx]
    simp [root, foldN, foldW_z4, fold_size]
theorem fold_fine (em : Prop) : ∀ t : Tr, SetsOk t → t.Fine em → (foldT t).Fine em
  | .e, _, h | .beg, _, h | .fin, _, h | .ref _, _, h => h
  | .set s, hs, h => foldW_ne hs h
  | .cat x y, hs, h => ⟨fold_fine em x hs.1 h.1, fold_fine em y hs.2 h.2.1, by rw [fold_rk]; exact h.2.2.1, by rw [fold_rk]; exact h.2.2.2.1, by rw [fold_rk]; exact h.2.2.2.2⟩
  | .alt x y, hs, h => ⟨fold_fine em x hs.1 h.1, fold_fine em y hs.2 h.2.1, by rw [fold_rk]; exact h.2.2⟩
  | .times _ _ x, hs, h => ⟨fold_fine em x hs h.1, h.2.1, h.2.2.1, h.2.2.2.1, by rw [fold_rk]; exact h.2.2.2.2⟩
  | .grp _ x, hs, h => ⟨fold_fine em x hs h.1, h.2.1, h.2.2⟩
theorem fold_num : ∀ (t : Tr) (s : NSt), numT (foldT t) s = numT t s
  | .e, s | .set _, s | .beg, s | .fin, s | .ref _, s => rfl
  | .cat x y, s | .alt x y, s => by simp only [foldT, numT]; rw [fold_num x, fold_num y]
  | .times _ _ x, s => by simp only [foldT, numT]; exact fold_num x s
  | .grp n x, s => by simp only [foldT, numT]; rw [fold_num x]
theorem fold_sets : ∀ t : Tr, SetsOk t → SetsOk (foldT t)
  | .e, _ | .beg, _ | .fin, _ | .ref _, _ => trivial
  | .set s, h => wf_foldW' h
  | .cat x y, h | .alt x y, h => ⟨fold_sets x h.1, fold_sets y h.2⟩
  | .times _ _ x, h | .grp _ x, h => fold_sets x h
theorem fold_again : ∀ t : Tr, SetsOk t → foldT (foldT t) = foldT t
  | .e, _ | .beg, _ | .fin, _ | .ref _, _ => rfl
  | .set s, h => by simp only [foldT]; rw [foldW_again h]
  | .cat x y, h | .alt x y, h => by simp only [foldT]; rw [fold_again x h.1, fold_again y h.2]
  | .times _ _ x, h | .grp _ x, h => by simp only [foldT]; rw [fold_again x h]
theorem fold_good {t : Tr} (h : Good t) (hs : SetsOk t) : Good (foldT t) := by
  refine ⟨?_, by rw [fold_size]; exact h.2.1, by rw [fold_num]; exact h.2.2⟩
  have := fold_fine _ t hs h.1
  unfold Whole
  rw [fold_size]
  exact this
end Go.Proofs.YtdjedjfanfbbcaaGreatDoor.Rx
