/- SetWords: the walk. -/
import Derived.Test.YtmlgbjdohijlnaaDoorSr5
import Derived.Test.YtmlgbjdohijlnaaDoorSr2
import Derived.Test.YtmlgbjdohijlnaaDoorStB
namespace Go.Proofs.YtmlgbjdohijlnaaDoor.St
open Go.RowKit
set_option linter.unusedVariables false
set_option linter.unusedSimpArgs false
theorem run_eq24 (a b c d : Nat) (w : World) : (Op.equalIn 10000 24 (.agg #[.int .u64 (a : Int), .int .u64 (b : Int), .int .u64 (c : Int), .int .u64 (d : Int)]) (.agg #[.int .u64 (a : Int), .int .u64 (b : Int), .int .u64 (c : Int), .int .u64 (d : Int)])).run Tryd.prog w = .ok true w := by
  have u3 := Tryd.underlying23
  have a3 := Tryd.isAgg23
  have z3 := Tryd.sizeOf23
  rw [show (10000 : Nat) = 9999 + 1 from rfl, Op.equalIn]
  simp only [Sem.run_bind, run_underlying Tryd.underlying24, Result.andThen_ok]
  simp only [Std.Legacy.Range.forIn_eq_forIn_range', Std.Legacy.Range.size, Nat.sub_zero, Nat.add_sub_cancel, Nat.div_one, List.range'_succ, List.range'_zero, List.forIn_cons, List.forIn_nil]
  go_simp
theorem Tab.below' {w w' : World} (hT : Tab w) (hb : Below w.heap.size w w') (hg : 0 < w.heap.size) : Tab w' ∧ 0 < w'.heap.size :=
  ⟨hT.below hb hg, Nat.lt_of_lt_of_le hg hb.size⟩
set_option maxHeartbeats 1000000 in
theorem setWords_list (l : List UInt8) (w : World) (hg : 0 < w.heap.size) (hT : Tab w) :
    Calls Tryd.prog 5 #[.string ⟨l.toArray⟩] w fun e w' => e = .returned (.bool true) ∧ Below w.heap.size w w' := by
  have HT := Lib.hid hT
  clear hT
  have hw := wf_ofL l
  have HSV := Lib.hid (SV_eq hw)
  have hsz : (ByteArray.mk l.toArray).size = l.length := by simp [ByteArray.size]
  have CS := fun W h1 h2 => shown_any W h1 h2
  have HQ := fun W => run_eq24 (word (ofL l) 0) (word (ofL l) 1) (word (ofL l) 2) (word (ofL l) 3) W
  by_cases hle : l.length ≤ 300
  · have hl : l.length ≤ 1000000 := by omega
    have hI : ¬ (300 : Int) < (l.length : Int) := by omega
    have CO := fun W => of_any l W hl
    have CR := fun W => refOf_any l W hl
    have CW := fun W => refWords_any (ofL l) W hw
    simp only [HSV.out] at CO CW
    have HLE := Lib.hid hle
    clear hle
    go_enter Tryd.func5, Tryd.ntmps5
    go_wp2_with (first
      | (go_at_call 10; refine (CS _ hg HT.out).mono ?_; rintro e w1 ⟨rfl, hb1⟩)
      | (go_at_call 17; refine (CO _).mono ?_; rintro e w2 ⟨rfl, hb2⟩)
      | (go_at_call 19; refine (CR _).mono ?_; rintro e w3 ⟨rfl, hb3⟩)
      | (go_at_call 18; refine (CW _).mono ?_; rintro e w4 ⟨rfl, hb4⟩))
    go_ret
    exact ⟨rfl, ((hb1.trans (hb2.mono hb1.size)).trans (hb3.mono (Nat.le_trans hb1.size hb2.size))).trans (hb4.mono (Nat.le_trans hb1.size (Nat.le_trans hb2.size hb3.size)))⟩
  · have hI : (300 : Int) < (l.length : Int) := by omega
    have HLE := Lib.hid hle
    clear hle
    go_enter Tryd.func5, Tryd.ntmps5
    go_wp2_with (first
      | (go_at_call 10; refine (CS _ hg HT.out).mono ?_; rintro e w1 ⟨rfl, hb1⟩))
    go_ret
    exact ⟨rfl, hb1⟩
theorem setWords_walk (s : ByteArray) (ws : s.size ≤ maxLen) (W : World) (hg : 0 < W.heap.size) (hT : Tab W) :
    Calls Tryd.prog 5 #[.string s] W fun e w' => e = .returned (.bool true) ∧ Below W.heap.size W w' := by
  have := setWords_list s.data.toList W hg hT
  rwa [Array.toArray_toList] at this
end Go.Proofs.YtmlgbjdohijlnaaDoor.St
