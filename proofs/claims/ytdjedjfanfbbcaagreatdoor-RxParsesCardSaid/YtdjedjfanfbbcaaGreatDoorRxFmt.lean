/- A digit to the base 16: the walk of FormatUint. -/
import Derived.Test.YtdjedjfanfbbcaaGreatDoorRxW1
import Derived.Test.YtdjedjfanfbbcaaGreatDoorRxText
import Derived.Test.YtdjedjfanfbbcaaGreatDoorSlA
namespace Go.Proofs.YtdjedjfanfbbcaaGreatDoor.Rx
open Go.RowKit Go.Shelf
open Go.Proofs.YtdjedjfanfbbcaaGreatDoor.St (Tab tz_any)
set_option linter.unusedVariables false
set_option linter.unusedSimpArgs false
abbrev Y (n : Nat) : Value := .int .u8 (n : Int)
theorem zero_65 : (∀ w, (zeroValue 128).run Tryz.prog w = .ok (.agg (Array.replicate 65 (Y 0))) w) ∧ (Tryz.prog.info? 128).map (·.size) = some 65 :=
  zero_of_info (P := Tryz.prog) (t := 128) (v := .agg (Array.replicate 65 (Y 0))) (n := 65) (by kernel_rfl)
theorem hex_at : ∀ j : Nat, j < 16 → ∀ h, ((⟨#[48, 49, 50, 51, 52, 53, 54, 55, 56, 57, 97, 98, 99, 100, 101, 102, 103, 104, 105, 106, 107, 108, 109, 110, 111, 112, 113, 114, 115, 116, 117, 118, 119, 120, 121, 122]⟩ : ByteArray)[j]'h) = hexd j := by decide
theorem conv_at (row : Array Value) (o : Nat) (l : List UInt8) (hl : ∀ j (hj : j < l.length), row[o + j]? = some (.int .u8 (l[j].toNat : Int))) (w : World) (n c : Nat) (hn : n = l.length) :
    (convert 64 9 (.slice (some ⟨w.heap.size, o, none⟩) n c)).run Tryz.prog (w.alloc (.cells row 128)) = .ok (S l) (w.alloc (.cells row 128)) := by
  subst hn
  exact run_convert_bytes_back (P := Tryz.prog) _ 64 9 5 ⟨w.heap.size, o, none⟩ c l Tryz.underlying64 Tryz.underlying5 Tryz.underlying9 (by
    intro j hj
    rw [Addr.add_lit, Lib.cell_of_heap (heap_alloc_new w _)]
    exact hl j hj)
theorem tz16 (w : World) (hT : Tab w) : Calls Tryz.prog 70 #[.int .u64 16] w fun e w' => e = .returned (.int .i64 4) ∧ w = w' := by
  have h := tz_any 16 (by decide) (by decide) w hT
  refine h.mono ?_
  rintro e w' ⟨rfl, rfl⟩
  exact ⟨by rw [show Lib.ctz 64 16 = 4 from by decide]; rfl, rfl⟩
set_option maxRecDepth 100000 in
set_option maxHeartbeats 1600000 in
theorem fmtBits16 (u : Nat) (hu : u < 16) (w : World) (hT : Tab w) (hg : 0 < w.heap.size) :
    Calls Tryz.prog 74 #[.slice none 0 0, .int .u64 u, E 16, .bool false, .bool false] w fun e w' => e = .returned (.tuple #[.slice none 0 0, S [hexd u]]) ∧ Below w.heap.size w w' := by
  have hz := zero_65.1
  have hsz := zero_65.2
  have HT := Lib.hid (hT.below ((Below.refl w.heap.size w).alloc (Nat.le_refl _) (.cells (Array.replicate 65 (Y 0)) 128)) hg)
  have hp2 : (bits BinOp.and IntKind.i64 16 15 == 0) = true := by decide
  have hd1 := hex_at u hu
  have hcv := conv_at ((Array.replicate 65 (Y 0)).setIfInBounds 64 (.int .u8 ((hexd u).toNat : Int))) 64 [hexd u] (by
    intro j hj
    obtain rfl : j = 0 := by simpa using hj
    rw [Array.getElem?_setIfInBounds_self_of_lt (by simp)]; rfl) w 1 1 rfl
  go_enter Tryz.func74, Tryz.ntmps74
  go_wp2_with (first | (go_at_call 70; refine (tz16 _ HT.out).mono ?_; rintro e w' ⟨rfl, rfl⟩) | go_in)
  go_rounds 1
  go_ret2
  exact ⟨rfl, (Below.refl w.heap.size w).alloc (Nat.le_refl _) _⟩
theorem ifmt16 (u : Nat) (hu : u < 16) (w : World) (hT : Tab w) (hg : 0 < w.heap.size) :
    Calls Tryz.prog 53 #[.int .u64 u, E 16] w fun e w' => e = .returned (S [hexd u]) ∧ Below w.heap.size w w' := by
  have HC := Lib.hid (fmtBits16 u hu w hT hg)
  clear hT hg
  go_enter Tryz.func53, Tryz.ntmps53
  go_wp2_with (go_at_call 74; refine HC.out.mono ?_; rintro e w1 ⟨rfl, hb⟩; have HB := Lib.hid hb; clear hb)
  go_ret
  exact ⟨rfl, HB.out⟩
theorem fmt16 (u : Nat) (hu : u < 16) (w : World) (hT : Tab w) (hg : 0 < w.heap.size) :
    Calls Tryz.prog 28 #[.int .u64 u, E 16] w fun e w' => e = .returned (S [hexd u]) ∧ Below w.heap.size w w' := by
  have HC := Lib.hid (ifmt16 u hu w hT hg)
  clear hT hg
  go_enter Tryz.func28, Tryz.ntmps28
  go_wp2_with (go_at_call 53; refine HC.out.mono ?_; rintro e w1 ⟨rfl, hb⟩; have HB := Lib.hid hb; clear hb)
  go_ret
  exact ⟨rfl, HB.out⟩
end Go.Proofs.YtdjedjfanfbbcaaGreatDoor.Rx
