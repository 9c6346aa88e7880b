/- Numbers below 256, to the base 8. -/
import Derived.Test.YtpgglnibfojdgaaGreatDoorShelf
import Derived.Test.YtpgglnibfojdgaaGreatDoorBld
import Derived.Test.YtpgglnibfojdgaaGreatDoorTrPlain
import Derived.Lib.Hide
import Derived.LoopN
import Derived.Handy
import Derived.Deep.WholeRow
import Derived.Shelf.Spec.TrailingZeros
namespace Go.Proofs.YtpgglnibfojdgaaGreatDoor.Tr
open Go.RowKit Go.Shelf Bld
set_option linter.unusedVariables false
set_option linter.unusedSimpArgs false

abbrev S (l : List UInt8) : Value := .string ⟨l.toArray⟩
abbrev E (n : Int) : Value := .int .i64 n
abbrev Y (n : Nat) : Value := .int .u8 (n : Int)
theorem ret1 {a a' : Value} (h1 : a = a') : Ending.returned a = .returned a' := by rw [h1]
theorem ret2 {a b a' b' : Value} (h1 : a = a') (h2 : b = b') : Ending.returned (.tuple #[a, b]) = .returned (.tuple #[a', b']) := by rw [h1, h2]
theorem stopHere {p : Prop} (h : Hid p) : p := h.out
theorem goHere {p : Prop} (h : p) : Hid p := Lib.hid h
/-- The library's table lies in its variable. -/
def Tab (w : World) : Prop := TabAt 5 Lib.deBruijn64tab w ∧ 5 < w.heap.size
theorem Tab.below {w w' : World} (h : Tab w) (hb : Below w.heap.size w w') : Tab w' := ⟨fun j hj => (hb.cell (p := ⟨5, j, none⟩) h.2).trans (h.1 j hj), Nat.lt_of_lt_of_le h.2 hb.size⟩
set_option maxHeartbeats 400000 in
theorem tz_core (x k idx : Nat) (w : World) (hx0 : ((x : Int) == 0) = false)
    (key : IntKind.u64.wrap (bits BinOp.and IntKind.u64 (x : Int) (IntKind.u64.wrap (-(x : Int))) * 285870213051353865) / 288230376151711744 = (idx : Int))
    (hi : idx < 64) (hk : k < 64) (hcell : w.cell? ⟨5, idx, none⟩ = some (.int .u8 k)) :
    Calls Tryz.prog 92 #[.int .u64 x] w fun e w' => e = .returned (.int .i64 k) ∧ w' = w := by
  go_enter Tryz.func92, Tryz.ntmps92
  go_wp2_with (simp only [key])
  go_ret
  exact ⟨rfl, rfl⟩
theorem tz8 (w : World) (hT : Tab w) : Calls Tryz.prog 92 #[.int .u64 8] w fun e w' => e = .returned (.int .i64 3) ∧ w = w' := by
  obtain ⟨hlow, hk⟩ := Lib.lowest_bit 64 8 (by decide) (by decide)
  obtain ⟨hi, htab⟩ := Lib.deBruijn64_at _ hk
  have hcell := hT.1 _ hi
  rw [htab] at hcell
  refine (tz_core 8 _ _ w (by decide) (tz64_key 8 _ (by decide) (by decide) hlow) hi hk hcell).mono ?_
  rintro e w' ⟨rfl, rfl⟩
  exact ⟨by rw [show Lib.ctz 64 8 = 3 from by decide]; rfl, rfl⟩
/-- A digit. -/
def dg (j : Nat) : UInt8 := UInt8.ofNat (48 + j)
/-- The digits of a number. -/
def octD (u : Nat) : List UInt8 :=
  if u < 8 then [dg u] else if u < 64 then [dg (u / 8), dg (u % 8)] else [dg (u / 64), dg (u / 8 % 8), dg (u % 8)]
theorem zero_65 : (∀ w, (zeroValue 140).run Tryz.prog w = .ok (.agg (Array.replicate 65 (Y 0))) w) ∧ (Tryz.prog.info? 140).map (·.size) = some 65 :=
  zero_of_info (P := Tryz.prog) (t := 140) (v := .agg (Array.replicate 65 (Y 0))) (n := 65) (by kernel_rfl)
theorem digits_at : ∀ j : Nat, j < 8 → ∀ h, ((⟨#[48, 49, 50, 51, 52, 53, 54, 55, 56, 57, 97, 98, 99, 100, 101, 102, 103, 104, 105, 106, 107, 108, 109, 110, 111, 112, 113, 114, 115, 116, 117, 118, 119, 120, 121, 122]⟩ : ByteArray)[j]'h) = dg j := by decide
theorem and7 : ∀ u : Nat, u < 256 → bits BinOp.and IntKind.u64 (u : Int) 7 = ((u % 8 : Nat) : Int) := by decide +kernel
theorem conv_at (row : Array Value) (o : Nat) (l : List UInt8) (hl : ∀ j (hj : j < l.length), row[o + j]? = some (.int .u8 (l[j].toNat : Int))) (w : World) (n c : Nat) (hn : n = l.length) :
    (convert 36 9 (.slice (some ⟨w.heap.size, o, none⟩) n c)).run Tryz.prog (w.alloc (.cells row 140)) = .ok (S l) (w.alloc (.cells row 140)) := by
  subst hn
  exact run_convert_bytes_back (P := Tryz.prog) _ 36 9 5 ⟨w.heap.size, o, none⟩ c l Tryz.underlying36 Tryz.underlying5 Tryz.underlying9 (by
    intro j hj
    rw [Addr.add_lit, Lib.cell_of_heap (heap_alloc_new w _)]
    exact hl j hj)
set_option maxRecDepth 100000 in
set_option maxHeartbeats 1600000 in
theorem fmtBits_any (u : Nat) (hu : u < 256) (w : World) (hT : Tab w) :
    Calls Tryz.prog 64 #[.slice none 0 0, .int .u64 u, E 8, .bool false, .bool false] w fun e w' => e = .returned (.tuple #[.slice none 0 0, S (octD u)]) ∧ Below w.heap.size w w' := by
  have hz := zero_65.1
  have hsz := zero_65.2
  have HT := Lib.hid (hT.below ((Below.refl w.heap.size w).alloc (Nat.le_refl _) (.cells (Array.replicate 65 (Y 0)) 140)))
  have hp2 : (bits BinOp.and IntKind.i64 8 7 == 0) = true := by decide
  by_cases h8 : u < 8
  · have hd1 := digits_at u h8
    have hcv := conv_at ((Array.replicate 65 (Y 0)).setIfInBounds 64 (.int .u8 ((dg u).toNat : Int))) 64 [dg u] (by
      intro j hj
      obtain rfl : j = 0 := by simpa using hj
      rw [Array.getElem?_setIfInBounds_self_of_lt (by simp)]; rfl) w 1 1 rfl
    go_enter Tryz.func64, Tryz.ntmps64
    go_wp2_with (first | (go_at_call 92; refine (tz8 _ HT.out).mono ?_; rintro e w' ⟨rfl, rfl⟩) | go_in)
    go_rounds 1
    go_ret2
    rw [show octD u = [dg u] from if_pos h8]
    exact ⟨rfl, (Below.refl w.heap.size w).alloc (Nat.le_refl _) _⟩
  by_cases h64 : u < 64
  · have hd1 := digits_at (u % 8) (by omega)
    have hd2 := digits_at (u / 8) (by omega)
    have ha := and7 u hu
    have hcv := conv_at (((Array.replicate 65 (Y 0)).setIfInBounds 64 (.int .u8 ((dg (u % 8)).toNat : Int))).setIfInBounds 63 (.int .u8 ((dg (u / 8)).toNat : Int))) 63 [dg (u / 8), dg (u % 8)] (by
      intro j hj
      match j, hj with
      | 0, _ => rw [Array.getElem?_setIfInBounds_self_of_lt (by simp)]; rfl
      | 1, _ => rw [Array.getElem?_setIfInBounds_ne (by omega), Array.getElem?_setIfInBounds_self_of_lt (by simp)]; rfl) w 2 2 rfl
    go_enter Tryz.func64, Tryz.ntmps64
    go_wp2_with (first | (go_at_call 92; refine (tz8 _ HT.out).mono ?_; rintro e w' ⟨rfl, rfl⟩) | go_in)
    go_rounds 2
    go_ret2
    rw [show octD u = [dg (u / 8), dg (u % 8)] from by unfold octD; rw [if_neg h8, if_pos h64]]
    exact ⟨rfl, (Below.refl w.heap.size w).alloc (Nat.le_refl _) _⟩
  · have hd1 := digits_at (u % 8) (by omega)
    have hd2 := digits_at (u / 8 % 8) (by omega)
    have hd3 := digits_at (u / 64) (by omega)
    have ha := and7 u hu
    have ha2 : bits BinOp.and IntKind.u64 ((u : Int) / 8) 7 = ((u / 8 % 8 : Nat) : Int) := by
      have := and7 (u / 8) (by omega)
      rw [← this]; rfl
    have hdd : (u : Int) / 8 / 8 = ((u / 64 : Nat) : Int) := by omega
    have hl1 : (8 : Int) ≤ (u : Int) / 8 := by omega
    have hl2 : ¬ (8 : Int) ≤ ((u / 64 : Nat) : Int) := by omega
    have hcv := conv_at ((((Array.replicate 65 (Y 0)).setIfInBounds 64 (.int .u8 ((dg (u % 8)).toNat : Int))).setIfInBounds 63 (.int .u8 ((dg (u / 8 % 8)).toNat : Int))).setIfInBounds 62 (.int .u8 ((dg (u / 64)).toNat : Int))) 62 [dg (u / 64), dg (u / 8 % 8), dg (u % 8)] (by
      intro j hj
      match j, hj with
      | 0, _ => rw [Array.getElem?_setIfInBounds_self_of_lt (by simp)]; rfl
      | 1, _ => rw [Array.getElem?_setIfInBounds_ne (by omega), Array.getElem?_setIfInBounds_self_of_lt (by simp)]; rfl
      | 2, _ => rw [Array.getElem?_setIfInBounds_ne (by omega), Array.getElem?_setIfInBounds_ne (by omega), Array.getElem?_setIfInBounds_self_of_lt (by simp)]; rfl) w 3 3 rfl
    go_enter Tryz.func64, Tryz.ntmps64
    go_wp2_with (first | (go_at_call 92; refine (tz8 _ HT.out).mono ?_; rintro e w' ⟨rfl, rfl⟩) | go_in)
    go_rounds 3
    go_ret2
    rw [show octD u = [dg (u / 64), dg (u / 8 % 8), dg (u % 8)] from by unfold octD; rw [if_neg h8, if_neg h64]]
    exact ⟨rfl, (Below.refl w.heap.size w).alloc (Nat.le_refl _) _⟩
end Go.Proofs.YtpgglnibfojdgaaGreatDoor.Tr
