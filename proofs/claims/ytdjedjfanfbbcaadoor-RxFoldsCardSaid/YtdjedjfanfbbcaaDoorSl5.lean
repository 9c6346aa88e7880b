/- Sets of bytes: walks of OnesCount64 and Size. -/
import Derived.Test.YtdjedjfanfbbcaaDoorSl4
import Derived.Test.YtdjedjfanfbbcaaDoorStPop
import Derived.Laws.Bits128
namespace Go.Proofs.YtdjedjfanfbbcaaDoor.St
open Go.RowKit
set_option linter.unusedVariables false
set_option linter.unusedSimpArgs false

theorem u64_and_lit (x m : Nat) (h : x < 18446744073709551616) (hm : m < 18446744073709551616) : bits BinOp.and IntKind.u64 (x : Int) (m : Int) = ((x &&& m : Nat) : Int) := u64_and_nat _ _ h hm
theorem idx_run (a b c d : Value) (w : World) : 
    (Instr.index 37 (.agg #[a, b, c, d]) (.int .i64 0)).run Tryd.prog w = .ok a w ∧ (Instr.index 37 (.agg #[a, b, c, d]) (.int .i64 1)).run Tryd.prog w = .ok b w ∧ (Instr.index 37 (.agg #[a, b, c, d]) (.int .i64 2)).run Tryd.prog w = .ok c w ∧ (Instr.index 37 (.agg #[a, b, c, d]) (.int .i64 3)).run Tryd.prog w = .ok d w := ⟨by kernel_rfl, by kernel_rfl, by kernel_rfl, by kernel_rfl⟩
theorem idx_word (ws : List Nat) {k : Nat} (hk : k < 4) (w : World) : (Instr.index 37 (.agg #[.int .u64 (word ws 0 : Int), .int .u64 (word ws 1 : Int), .int .u64 (word ws 2 : Int), .int .u64 (word ws 3 : Int)]) (.int .i64 (k : Int))).run Tryd.prog w = .ok (.int .u64 (word ws k : Int)) w := by
  obtain ⟨h0, h1, h2, h3⟩ := idx_run (.int .u64 (word ws 0 : Int)) (.int .u64 (word ws 1 : Int)) (.int .u64 (word ws 2 : Int)) (.int .u64 (word ws 3 : Int)) w
  match k, hk with
  | 0, _ => exact h0
  | 1, _ => exact h1
  | 2, _ => exact h2
  | 3, _ => exact h3
end Go.Proofs.YtdjedjfanfbbcaaDoor.St
