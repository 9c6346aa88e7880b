/- strings.NewReplacer of four texts. -/
import Derived.Test.YtinallojhkaogaaGreatDoorRpOncePk
import Derived.Deep.AppendSrc
namespace Go.Proofs.YtinallojhkaogaaGreatDoor.Rp
open Go.RowKit
set_option linter.unusedVariables false
set_option linter.unusedSimpArgs false

abbrev S (l : List UInt8) : Value := .string ⟨l.toArray⟩
/-- A replacer that was made, and not yet used: its block b, the texts' block d. -/
structure Made (b d : Nat) (s1 s2 s3 s4 : Value) (w : World) : Prop where
  rep : ∃ cap, w.heap[b]? = some (.cells #[.int .u32 0, .int .i32 0, .int .u32 0, .nilIface, .slice (some ⟨d, 0, none⟩) 4 cap] 149 (0, 0))
  old : ∃ cur, w.heap[d]? = some (.cells cur 9 (0, 0)) ∧ cur.toList.take 4 = [s1, s2, s3, s4]
  ne : d ≠ b
theorem infoString : (Tryz.prog.info? 9).map (fun i => (i.zero, i.size, i.bytes)) = some (some (.string ⟨#[]⟩), 1, 16) := by kernel_rfl
theorem ls_cells {w : World} {a off : Nat} {vs : List Value} (h : ∀ j u, vs[j]? = some u → w.cell? ⟨a, off + j, none⟩ = some u) : ∀ j u, vs[j]? = some u → w.cell? ((⟨a, off, none⟩ : Addr).add j) = some u := by
  intro j u hj
  rw [Addr.add_lit]
  exact h j u hj
theorem stopHere {p : Prop} (h : Hid p) : p := h.out
theorem goHere {p : Prop} (h : p) : Hid p := Lib.hid h
theorem ret1 {a a' : Value} (h1 : a = a') : Ending.returned a = .returned a' := by rw [h1]
set_option maxRecDepth 100000 in
set_option maxHeartbeats 1600000 in
theorem newReplacer_any (a : Nat) (s1 s2 s3 s4 : List UInt8) (w : World) (ha : w.heap[a]? = some (.cells #[S s1, S s2, S s3, S s4] 9 (0, 0))) :
    Calls Tryz.prog 61 #[.slice (some ⟨a, 0, none⟩) 4 4] w fun e w' => ∃ b d, e = .returned (.pointer (some ⟨b, 0, none⟩)) ∧ Made b d (S s1) (S s2) (S s3) (S s4) w' ∧ Below w.heap.size w w' ∧ w.heap.size ≤ b := by
  obtain ⟨i0, hi, hz0, hz1, hz2⟩ := info_parts infoString
  have HC := Lib.hid (show ∀ j u, [S s1, S s2, S s3, S s4][j]? = some u → w.cell? ((⟨a, 0, none⟩ : Addr).add j) = some u from ls_cells fun j u hj => by
    rw [Lib.cell_of_heap ha]
    simpa using hj)
  have H1 : ∀ u ∈ [S s1, S s2, S s3, S s4], u.oneCell' = true := by simp [Value.oneCell']
  have H63 : 0 + 4 ≤ maxLen := by unfold maxLen; omega
  go_enter Tryz.func61, Tryz.ntmps61
  go_wp2_with (at_builtin; refine wpList_append_own _ rfl _ _ 133 rfl w.heap.size 9 i0 _ 1 16 Tryz.underlying133 hi hz0 hz1 hz2 rfl (by decide) _ 0 [] rfl (World.ownsRow_nil _ _ _ _) ⟨a, 0, none⟩ 4 4 [S s1, S s2, S s3, S s4] rfl rfl HC.out H1 H63 (by decide) (Nat.le_refl _) ?_)
  rintro v' w1 hown hgrow -
  obtain ⟨g, cap, cur, rfl, hg, hb, hc1, hc2, hc3, hc4⟩ : ∃ g cap cur, v' = .slice (some ⟨g, 0, none⟩) 4 cap ∧ w.heap.size ≤ g ∧ w1.heap[g]? = some (.cells cur 9 (0, 0)) ∧ 4 ≤ cap ∧ cap ≤ maxLen ∧ cur.size = cap * 1 ∧ cur.toList.take (4 * 1) = [S s1, S s2, S s3, S s4] := by
    rcases hown.2 with ⟨_, h⟩ | h
    · simp at h
    · exact h
  have hlt : g < w1.heap.size := by
    rcases Nat.lt_or_ge g w1.heap.size with h | h
    · exact h
    · rw [Array.getElem?_eq_none h] at hb; cases hb
  have HB := (Below.refl w.heap.size w).grown hgrow (Nat.le_refl _) (fun k hk => by cases hk)
  clear hgrow hown hc1 hc2 hc3
  go_wp2
  go_ret
  refine ⟨w1.heap.size, g, rfl, ⟨⟨cap, ?_⟩, ⟨cur, ?_, hc4⟩, by omega⟩, HB.alloc HB.size _, HB.size⟩
  · exact heap_alloc_new w1 _
  · exact (heap_alloc_old w1 _ hlt).trans hb
end Go.Proofs.YtinallojhkaogaaGreatDoor.Rp
