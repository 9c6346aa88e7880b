/- Walks of OnesCount64 and Size for law06 (St5 over other texts). -/
import Derived.Test.YtlicoffnjphphaaGreatDoorQk08
import Derived.Test.YtlicoffnjphphaaGreatDoorQk27
import Derived.Laws.Bits128
set_option maxHeartbeats 1000000
namespace Go.Proofs.YtlicoffnjphphaaGreatDoor.St
open Go.RowKit
set_option linter.unusedVariables false
set_option linter.unusedSimpArgs false
theorem ones_any (x : Nat) (w : World) (h : x < 2 ^ 64) :
  Calls Tryz.prog 43 #[.int .u64 (x : Int)] w fun e w' => e = .returned (.int .i64 (bitsN 64 x : Int)) ∧ w' = w := by
 obtain ⟨x1, x2, x3, e1, e2, e3, h1, h2, h3, hh⟩ := pop_eq h;obtain ⟨y, hy⟩ : ∃ y, y = x3 + x3 / 256 := ⟨_, rfl⟩;obtain ⟨z, hz⟩ : ∃ z, z = y + y / 65536 := ⟨_, rfl⟩;obtain ⟨u, hu⟩ : ∃ u, u = z + z / 4294967296 := ⟨_, rfl⟩;obtain ⟨hy', hz', hu', hr⟩ := hh y z u hy hz hu;(have wr64 : ∀ t : Nat, t < 2 ^ 64 → IntKind.u64.wrap (t : Int) = (t : Int) := fun t ht => by rw [IntKind.wrap_u64]; omega);have a1 : bits BinOp.and IntKind.u64 ((x : Int) / 2) 6148914691236517205 + bits BinOp.and IntKind.u64 (x : Int) 6148914691236517205 = (x1 : Int) := by
  rw [← e1];have p := u64_and_lit (x / 2) 6148914691236517205 (by omega) (by decide);have q := u64_and_lit x 6148914691236517205 (by omega) (by decide);rw [show ((x : Int) / 2) = ((x / 2 : Nat) : Int) from by omega];rw [show (6148914691236517205 : Int) = ((6148914691236517205 : Nat) : Int) from rfl, p, q];exact (Int.natCast_add _ _).symm
 have b1 := wr64 x1 h1;have a2 : bits BinOp.and IntKind.u64 ((x1 : Int) / 4) 3689348814741910323 + bits BinOp.and IntKind.u64 (x1 : Int) 3689348814741910323 = (x2 : Int) := by
  rw [← e2];have p := u64_and_lit (x1 / 4) 3689348814741910323 (by omega) (by decide);have q := u64_and_lit x1 3689348814741910323 (by omega) (by decide);rw [show ((x1 : Int) / 4) = ((x1 / 4 : Nat) : Int) from by omega];rw [show (3689348814741910323 : Int) = ((3689348814741910323 : Nat) : Int) from rfl, p, q];exact (Int.natCast_add _ _).symm
 have b2 := wr64 x2 (by omega);have a3 : bits BinOp.and IntKind.u64 (IntKind.u64.wrap ((x2 : Int) / 16 + (x2 : Int))) 1085102592571150095 = (x3 : Int) := by
  rw [← e3, show ((x2 : Int) / 16 + (x2 : Int)) = ((x2 / 16 + x2 : Nat) : Int) from by omega, wr64 _ (by omega)];exact u64_and_lit (x2 / 16 + x2) 1085102592571150095 (by omega) (by decide)
 have b3 := wr64 x3 (by omega);(have ay : (x3 : Int) + (x3 : Int) / 256 = (y : Int) := by omega);have by' := wr64 y (by omega);(have az : (y : Int) + (y : Int) / 65536 = (z : Int) := by omega);have bz := wr64 z (by omega);(have au : (z : Int) + (z : Int) / 4294967296 = (u : Int) := by omega);have bu := wr64 u (by omega);(have bi : IntKind.i64.wrap (u : Int) = (u : Int) := by rw [IntKind.wrap_i64]; omega);(have af : bits BinOp.and IntKind.i64 (u : Int) 127 = (bitsN 64 x : Int) := by rw [i64_and127]; omega);clear hh hy hz hu e1 e2 e3 hr h h1 h2 h3 hy' hz' hu' wr64;go_enter Tryz.func43, Tryz.ntmps43;go_wp2;go_ret;exact ⟨rfl, rfl⟩
theorem size_any (ws : List Nat) (w : World) (h : Wf ws) :
  Calls Tryz.prog 29 #[SV ws] w fun e w' => e = .returned (.int .i64 (sizeW ws : Int)) ∧ Below w.heap.size w w' := by
 have g0 := word_get h (i := 0) (by omega);have g1 := word_get h (i := 1) (by omega);have g2 := word_get h (i := 2) (by omega);have g3 := word_get h (i := 3) (by omega);go_enter Tryz.func29, Tryz.ntmps29;go_wp2;go_loopw [2, 4, 6] (fun n _ i wr => ∃ k : Nat, k ≤ 4 ∧ i = .int .i64 (k : Int) ∧ n = .int .i64 (sizeK ws k : Int) ∧ Below w.heap.size w wr) (fun _ _ i _ => 4 - (intOf i).toNat);(case atStart => exact ⟨0, Nat.zero_le _, rfl, rfl, (Below.refl _ w).alloc (Nat.le_refl _) _⟩);case round =>
  obtain ⟨k, hk, rfl, rfl, hB⟩ := hrel;by_cases hlt : k < 4
  ·
   (have hI : (k : Int) < 4 := by omega);have hi := idx_word ws hlt wr;have hx := word_lt h k;have HK := Lib.hid (show sizeK ws (k + 1) = sizeK ws k + bitsN 64 (word ws k) from rfl);have hb1 := sizeK_le ws k;have hb2 := bitsN_le 64 (word ws k);generalize word ws k = x at *;go_wp2_with (first | (go_at_call 43; refine (ones_any x _ hx).mono ?_; rintro e w' ⟨rfl, rfl⟩));go_roundw;case rel =>
    refine ⟨k + 1, by omega, by go_num, ?_, hB⟩;rw [HK.out]; rfl
   case measure => simp [intOf]; omega
  · (obtain rfl : k = 4 := by omega);have HF := Lib.hid (sizeK_four ws);go_wp2;go_ret;exact ⟨congrArg (fun n : Nat => Ending.returned (Value.int .i64 (n : Int))) HF.out, hB⟩
end Go.Proofs.YtlicoffnjphphaaGreatDoor.St