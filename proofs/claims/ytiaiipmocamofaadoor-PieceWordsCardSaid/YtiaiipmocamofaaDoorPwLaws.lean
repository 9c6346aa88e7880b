/- PieceWords: the walk. -/
import Derived.Test.YtiaiipmocamofaaDoorPwWord
import Derived.Test.YtiaiipmocamofaaDoorPwRef2
import Derived.Test.YtiaiipmocamofaaDoorPwRef3
namespace Go.Proofs.YtiaiipmocamofaaDoor.Pc
open Go.RowKit Bld
set_option linter.unusedVariables false
set_option linter.unusedSimpArgs false
set_option maxRecDepth 100000 in
set_option maxHeartbeats 2000000 in
theorem words_le (l : List UInt8) (at_ : Int) (ends : List UInt8) (w : World) (hl : l.length ≤ 300) (he : ends.length ≤ 100) (ha : -9223372036854775808 ≤ at_) (ha' : at_ ≤ 9223372036854775807) (hE : Errs w) :
    Calls Tryd.prog 4 #[S l, E at_, S ends] w fun e w' => e = .returned (.bool true) ∧ Below w.heap.size w w' := by
  have HE := Lib.hid hE
  clear hE
  have CN := fun W h => number_any l at_ W (by omega) ha ha' h
  have CR := fun W => rnumber_any l at_ W (by omega)
  have CW := fun W => word_any l at_ ends W (by omega) ha ha'
  have CV := fun W => rword_any l at_ ends W (by omega) (by omega)
  have CB := fun W => blanks_any l at_ W (by omega) ha ha'
  have CC := fun W => rblanks_any l at_ W (by omega)
  generalize numL l at_ = x at *
  generalize wordL l at_ ends = y at *
  generalize blanksL l at_ = z at *
  have hsl := size_mk l
  have hse := size_mk ends
  have hI1 : ¬ (300 : Int) < (l.length : Int) := by omega
  have hI2 : ¬ (100 : Int) < (ends.length : Int) := by omega
  have HLL := Lib.hid (And.intro hl he)
  clear hl he
  obtain ⟨x1, x2, x3⟩ := x
  obtain ⟨y1, y2⟩ := y
  have q1 : ((x1 : Int) == (x1 : Int)) = true := beq_self_eq_true _
  have q2 : ((x2 : Int) == (x2 : Int)) = true := beq_self_eq_true _
  have q3 : (x3 == x3) = true := beq_self_eq_true _
  have q4 : ((y2 : Int) == (y2 : Int)) = true := beq_self_eq_true _
  have q5 : ((z : Int) == (z : Int)) = true := beq_self_eq_true _
  have q6 : (y1 == y1) = true := beq_self_eq_true _
  go_enter Tryd.func4, Tryd.ntmps4
  go_wp2_with (first
    | (go_at_call 5; refine (shown_any _).mono ?_; rintro e w1 ⟨rfl, hb1⟩)
    | (go_at_call 10; refine (CN _ (HE.out.below hb1)).mono ?_; rintro e w2 ⟨rfl, hb2⟩)
    | (go_at_call 11; refine (CR _).mono ?_; rintro e w' ⟨rfl, rfl⟩)
    | (go_at_call 12; refine (CW _).mono ?_; rintro e w3 ⟨rfl, hb3⟩)
    | (go_at_call 13; refine (CV _).mono ?_; rintro e w' ⟨rfl, rfl⟩)
    | (go_at_call 14; refine (CB _).mono ?_; rintro e w4 ⟨rfl, hb4⟩)
    | (go_at_call 15; refine (CC _).mono ?_; rintro e w' ⟨rfl, rfl⟩))
  go_ret
  exact ⟨rfl, ((hb1.trans (hb2.mono hb1.size)).trans (hb3.mono (Nat.le_trans hb1.size hb2.size))).trans (hb4.mono (Nat.le_trans hb1.size (Nat.le_trans hb2.size hb3.size)))⟩
set_option maxHeartbeats 1000000 in
theorem words_gt (l : List UInt8) (at_ : Int) (ends : List UInt8) (w : World) (h : 300 < l.length ∨ 100 < ends.length) (hm : l.length ≤ 9223372036854775807) (hm' : ends.length ≤ 9223372036854775807) :
    Calls Tryd.prog 4 #[S l, E at_, S ends] w fun e w' => e = .returned (.bool true) ∧ Below w.heap.size w w' := by
  have hsl := size_mk l
  have hse := size_mk ends
  by_cases h1 : 300 < l.length
  · have hI1 : (300 : Int) < (l.length : Int) := by omega
    clear h
    go_enter Tryd.func4, Tryd.ntmps4
    go_wp2_with (first
      | (go_at_call 5; refine (shown_any _).mono ?_; rintro e w1 ⟨rfl, hb1⟩))
    go_ret
    exact ⟨rfl, hb1⟩
  · have hI1 : ¬ (300 : Int) < (l.length : Int) := by omega
    have hI2 : (100 : Int) < (ends.length : Int) := by omega
    clear h h1
    go_enter Tryd.func4, Tryd.ntmps4
    go_wp2_with (first
      | (go_at_call 5; refine (shown_any _).mono ?_; rintro e w1 ⟨rfl, hb1⟩))
    go_ret
    exact ⟨rfl, hb1⟩
theorem pieceWords_walk (s : ByteArray) (a : Int) (t : ByteArray) (ws : s.size ≤ maxLen) (wa : (Lit.int .i64 a).wf = true) (wt : t.size ≤ maxLen) (w : World) (hE : Errs w) :
    Calls Tryd.prog 4 #[.string s, .int .i64 a, .string t] w fun e w' => e = .returned (.bool true) ∧ Below w.heap.size w w' := by
  obtain ⟨l, rfl, hl⟩ := as_list s
  obtain ⟨m, rfl, hm⟩ := as_list t
  obtain ⟨h1, h2⟩ := wf_i64 wa
  by_cases h : 300 < l.length ∨ 100 < m.length
  · exact words_gt l a m w h (by rw [hl]; exact ws) (by rw [hm]; exact wt)
  · exact words_le l a m w (by omega) (by omega) h1 h2 hE
end Go.Proofs.YtiaiipmocamofaaDoor.Pc
