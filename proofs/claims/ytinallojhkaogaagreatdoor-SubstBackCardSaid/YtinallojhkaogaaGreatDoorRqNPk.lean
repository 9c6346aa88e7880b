/- strings.NewReplacer of three bytes. -/
import Derived.Test.YtinallojhkaogaaGreatDoorRqPPk
import Derived.Test.YtinallojhkaogaaGreatDoorRpNewPk
namespace Go.Proofs.YtinallojhkaogaaGreatDoor.Rq
open Go.RowKit
open Go.Proofs.YtinallojhkaogaaGreatDoor.Rp (S infoString ls_cells)
set_option linter.unusedVariables false
set_option linter.unusedSimpArgs false
def fl (t : List Tp) : List Value := t.flatMap fun x => [S [x.o], S [x.p, x.q]]
theorem fl_at : ∀ (t : List Tp) (k : Nat) (h : k < t.length), (fl t)[2 * k]? = some (S [t[k].o]) ∧ (fl t)[2 * k + 1]? = some (S [t[k].p, t[k].q])
  | [], _, h => absurd h (by simp)
  | _ :: _, 0, _ => ⟨rfl, rfl⟩
  | x :: r, k + 1, h => by
    have e : fl (x :: r) = S [x.o] :: S [x.p, x.q] :: fl r := rfl
    obtain ⟨h1, h2⟩ := fl_at r k (by simpa using h)
    rw [e]
    exact ⟨h1, h2⟩
/-- A replacer that was made, and not yet used: its block b, the texts' block d. -/
structure Made (b d : Nat) (t : List Tp) (w : World) : Prop where
  rep : ∃ cap, w.heap[b]? = some (.cells #[.int .u32 0, .int .i32 0, .int .u32 0, .nilIface, .slice (some ⟨d, 0, none⟩) 6 cap] 149 (0, 0))
  old : ∃ cur, w.heap[d]? = some (.cells cur 9 (0, 0)) ∧ cur.toList.take 6 = fl t
  ne : d ≠ b
set_option maxRecDepth 100000 in
set_option maxHeartbeats 1600000 in
theorem newReplacer_any (a : Nat) (x y z : Tp) (w : World) (ha : w.heap[a]? = some (.cells #[S [x.o], S [x.p, x.q], S [y.o], S [y.p, y.q], S [z.o], S [z.p, z.q]] 9 (0, 0))) :
    Calls Tryz.prog 61 #[.slice (some ⟨a, 0, none⟩) 6 6] w fun e w' => ∃ b d, e = .returned (.pointer (some ⟨b, 0, none⟩)) ∧ Made b d [x, y, z] w' ∧ Below w.heap.size w w' ∧ w.heap.size ≤ b := by
  obtain ⟨i0, hi, hz0, hz1, hz2⟩ := info_parts infoString
  have HL := Lib.hid (show fl [x, y, z] = [S [x.o], S [x.p, x.q], S [y.o], S [y.p, y.q], S [z.o], S [z.p, z.q]] from rfl)
  generalize [x, y, z] = t at *
  generalize [x.o] = s1 at *
  generalize [x.p, x.q] = s2 at *
  generalize [y.o] = s3 at *
  generalize [y.p, y.q] = s4 at *
  generalize [z.o] = s5 at *
  generalize [z.p, z.q] = s6 at *
  have HC := Lib.hid (show ∀ j u, [S s1, S s2, S s3, S s4, S s5, S s6][j]? = some u → w.cell? ((⟨a, 0, none⟩ : Addr).add j) = some u from ls_cells fun j u hj => by
    rw [Lib.cell_of_heap ha]
    simpa using hj)
  have H1 : ∀ u ∈ [S s1, S s2, S s3, S s4, S s5, S s6], u.oneCell' = true := by simp [Value.oneCell']
  have H63 : 0 + 6 ≤ maxLen := by unfold maxLen; omega
  go_enter Tryz.func61, Tryz.ntmps61
  go_wp2_with (at_builtin; refine wpList_append_own _ rfl _ _ 133 rfl w.heap.size 9 i0 _ 1 16 Tryz.underlying133 hi hz0 hz1 hz2 rfl (by decide) _ 0 [] rfl (World.ownsRow_nil _ _ _ _) ⟨a, 0, none⟩ 6 6 [S s1, S s2, S s3, S s4, S s5, S s6] rfl rfl HC.out H1 H63 (by decide) (Nat.le_refl _) ?_)
  rintro v' w1 hown hgrow -
  obtain ⟨g, cap, cur, rfl, hg, hb, hc1, hc2, hc3, hc4⟩ : ∃ g cap cur, v' = .slice (some ⟨g, 0, none⟩) 6 cap ∧ w.heap.size ≤ g ∧ w1.heap[g]? = some (.cells cur 9 (0, 0)) ∧ 6 ≤ cap ∧ cap ≤ maxLen ∧ cur.size = cap * 1 ∧ cur.toList.take (6 * 1) = [S s1, S s2, S s3, S s4, S s5, S s6] := by
    rcases hown.2 with ⟨_, h⟩ | h
    · simp at h
    · exact h
  have hlt : g < w1.heap.size := by
    rcases Nat.lt_or_ge g w1.heap.size with h | h
    · exact h
    · rw [Array.getElem?_eq_none h] at hb; cases hb
  have HB := (Below.refl w.heap.size w).grown hgrow (Nat.le_refl _) (fun k hk => by cases hk)
  clear hgrow hown hc1 hc2 hc3
  go_wp2
  go_ret
  refine ⟨w1.heap.size, g, rfl, ⟨⟨cap, ?_⟩, ⟨cur, ?_, ?_⟩, by omega⟩, HB.alloc HB.size _, HB.size⟩
  · exact heap_alloc_new w1 _
  · exact (heap_alloc_old w1 _ hlt).trans hb
  · rw [HL.out]; exact hc4
end Go.Proofs.YtinallojhkaogaaGreatDoor.Rq
