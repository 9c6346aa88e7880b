/- The texts RxFmt RxPu RxC RxNum. -/
import Derived.OwnWalk
import Derived.Lib.SmallJoins
import Derived.Test.YthpiapemjadgdaaGreatDoorCk01
import Derived.Test.YthpiapemjadgdaaGreatDoorCk02
import Derived.Test.YthpiapemjadgdaaGreatDoorCk06
import Derived.Test.YthpiapemjadgdaaGreatDoorCk07
set_option linter.unusedVariables false
set_option linter.unusedSimpArgs false
set_option maxHeartbeats 3200000
set_option maxRecDepth 100000
namespace Go.Proofs.YthpiapemjadgdaaGreatDoor.Rx
open Go.RowKit Go.Shelf
open St (Tab tz_any)
abbrev Y (n : Nat) : Value := .int .u8 (n : Int)
theorem zero_65 : (∀ w, (zeroValue 252).run Tryz.prog w = .ok (.agg (Array.replicate 65 (Y 0))) w) ∧ (Tryz.prog.info? 252).map (·.size) = some 65 :=
 zero_of_info (P := Tryz.prog) (t := 252) (v := .agg (Array.replicate 65 (Y 0))) (n := 65) (by kernel_rfl)
theorem hex_at : ∀ j : Nat, j < 16 → ∀ h, ((⟨#[48, 49, 50, 51, 52, 53, 54, 55, 56, 57, 97, 98, 99, 100, 101, 102, 103, 104, 105, 106, 107, 108, 109, 110, 111, 112, 113, 114, 115, 116, 117, 118, 119, 120, 121, 122]⟩ : ByteArray)[j]'h) = hexd j := by decide
theorem conv_at (row : Array Value) (o : Nat) (l : List UInt8) (hl : ∀ j (hj : j < l.length), row[o + j]? = some (.int .u8 (l[j].toNat : Int))) (w : World) (n c : Nat) (hn : n = l.length) :
  (convert 94 9 (.slice (some ⟨w.heap.size, o, none⟩) n c)).run Tryz.prog (w.alloc (.cells row 252)) = .ok (S l) (w.alloc (.cells row 252)) := by
 subst hn;exact run_convert_bytes_back (P := Tryz.prog) _ 94 9 5 ⟨w.heap.size, o, none⟩ c l Tryz.underlying94 Tryz.underlying5 Tryz.underlying9 (by
  intro j hj;rw [Addr.add_lit, Lib.cell_of_heap (heap_alloc_new w _)];exact hl j hj)
theorem tz16 (w : World) (hT : Tab w) : Calls Tryz.prog 147 #[.int .u64 16] w fun e w' => e = .returned (.int .i64 4) ∧ w = w' := by
 have h := tz_any 16 (by decide) (by decide) w hT;refine h.mono ?_;rintro e w' ⟨rfl, rfl⟩;exact ⟨by rw [show Lib.ctz 64 16 = 4 from by decide]; rfl, rfl⟩
theorem fmtBits16 (u : Nat) (hu : u < 16) (w : World) (hT : Tab w) (hg : 2 < w.heap.size) :
  Calls Tryz.prog 139 #[.slice none 0 0, .int .u64 u, E 16, .bool false, .bool false] w fun e w' => e = .returned (.tuple #[.slice none 0 0, S [hexd u]]) ∧ Below w.heap.size w w' := by
 have hz := zero_65.1;have hsz := zero_65.2;have HT := Lib.hid (hT.below ((Below.refl w.heap.size w).alloc (Nat.le_refl _) (.cells (Array.replicate 65 (Y 0)) 252)) hg);(have hp2 : (bits BinOp.and IntKind.i64 16 15 == 0) = true := by decide);have hd1 := hex_at u hu;have hcv := conv_at ((Array.replicate 65 (Y 0)).setIfInBounds 64 (.int .u8 ((hexd u).toNat : Int))) 64 [hexd u] (by
  intro j hj;(obtain rfl : j = 0 := by simpa using hj);rw [Array.getElem?_setIfInBounds_self_of_lt (by simp)]; rfl) w 1 1 rfl
 go_enter Tryz.func139, Tryz.ntmps139;go_wp2_with (first | (go_at_call 147; refine (tz16 _ HT.out).mono ?_; rintro e w' ⟨rfl, rfl⟩) | go_in)
 go_rounds 1
 go_ret2
 exact ⟨rfl, (Below.refl w.heap.size w).alloc (Nat.le_refl _) _⟩
theorem ifmt16 (u : Nat) (hu : u < 16) (w : World) (hT : Tab w) (hg : 2 < w.heap.size) :
  Calls Tryz.prog 117 #[.int .u64 u, E 16] w fun e w' => e = .returned (S [hexd u]) ∧ Below w.heap.size w w' := by
 have HC := Lib.hid (fmtBits16 u hu w hT hg);clear hT hg;go_enter Tryz.func117, Tryz.ntmps117;go_wp2_with (go_at_call 139; refine HC.out.mono ?_; rintro e w1 ⟨rfl, hb⟩; have HB := Lib.hid hb; clear hb);go_ret;exact ⟨rfl, HB.out⟩
theorem fmt16 (u : Nat) (hu : u < 16) (w : World) (hT : Tab w) (hg : 2 < w.heap.size) :
  Calls Tryz.prog 89 #[.int .u64 u, E 16] w fun e w' => e = .returned (S [hexd u]) ∧ Below w.heap.size w w' := by
 have HC := Lib.hid (ifmt16 u hu w hT hg);clear hT hg;go_enter Tryz.func89, Tryz.ntmps89;go_wp2_with (go_at_call 117; refine HC.out.mono ?_; rintro e w1 ⟨rfl, hb⟩; have HB := Lib.hid hb; clear hb);go_ret;exact ⟨rfl, HB.out⟩
abbrev SE (n : Int) : Value := .iface 255 (.int .i64 n)
theorem bytes_cell (w : World) (t : List UInt8) (cap : Nat) (fz : Nat × Nat) (j : Nat) (hj : j < t.length) :
  (w.alloc (.cells (bytesRow ⟨t.toArray⟩ cap) 5 fz)).cell? ⟨w.heap.size, j, none⟩ = some (.int .u8 (t[j].toNat : Int)) := by
 rw [Lib.cell_of_heap (heap_alloc_new w _)];unfold bytesRow;rw [Array.getElem?_append_left (by simpa using hj)];simp [List.getElem?_eq_getElem hj]
def hexN (c : Nat) : Option Nat := if 48 ≤ c ∧ c ≤ 57 then some (c - 48) else if 97 ≤ c ∧ c ≤ 102 then some (c - 87) else if 65 ≤ c ∧ c ≤ 70 then some (c - 55) else none
def hexL (acc : Nat) : List UInt8 → Option Nat
 | [] => some acc
 | c :: r => match hexV c with
  | some v => hexL (acc * 16 + v) r
  | none => none
theorem hex_drop {t : List UInt8} {k : Nat} (h : k < t.length) (acc : Nat) : hexL acc (t.drop k) = match hexN t[k].toNat with
  | some v => hexL (acc * 16 + v) (t.drop (k + 1))
  | none => none := by
 rw [List.drop_eq_getElem_cons h]; rfl
theorem low_letter : ∀ c : Nat, c < 256 → 0 ≤ bits .or .u8 (c : Int) 32 ∧ bits .or .u8 (c : Int) 32 ≤ 255 := by decide +kernel
theorem low_hex : ∀ c : Nat, c < 256 → ¬ (48 ≤ c ∧ c ≤ 57) → (97 ≤ (bits .or .u8 (c : Int) 32).toNat ∧ (bits .or .u8 (c : Int) 32).toNat ≤ 102 → hexN c = some ((bits .or .u8 (c : Int) 32).toNat - 97 + 10)) ∧ (¬ (97 ≤ (bits .or .u8 (c : Int) 32).toNat ∧ (bits .or .u8 (c : Int) 32).toNat ≤ 102) → hexN c = none) := by decide +kernel
/-- What ParseUint answers to the base 16, for 8 bits. -/
def Par (t : List UInt8) (e : Ending) : Prop :=
 (∃ x : Nat, hexL 0 t = some x ∧ e = .returned (.tuple #[.int .u64 x, .nilIface])) ∨ (hexL 0 t = none ∧ e = .returned (.tuple #[.int .u64 0, SE 2]))
theorem parse16_any (t : List UInt8) (h1 : 1 ≤ t.length) (h2 : t.length ≤ 2) (w : World) :
  Calls Tryz.prog 141 #[S t, E 16, E 8] w fun e w' =>
   Par t e ∧ Below w.heap.size w w' := by
 (have hne : (t == []) = false := by cases t with | nil => simp at h1 | cons => rfl);have hcv := run_bytes_of_string (P := Tryz.prog) w 9 94 5 ⟨t.toArray⟩ Tryz.underlying9 Tryz.underlying94 Tryz.underlying5;(have hsz : (ByteArray.mk t.toArray).size = t.length := by simp [ByteArray.size]);rw [hsz] at hcv;generalize grownCap w t.length 0 5 = gc at hcv;have HC := Lib.hid (bytes_cell w t gc ((bytesRow ⟨t.toArray⟩ gc).size, (bytesRow ⟨t.toArray⟩ gc).size + 1));have HB := Lib.hid ((Below.refl w.heap.size w).alloc (Nat.le_refl _) (.cells (bytesRow ⟨t.toArray⟩ gc) 5 ((bytesRow ⟨t.toArray⟩ gc).size, (bytesRow ⟨t.toArray⟩ gc).size + 1))).drew;generalize Obj.cells (bytesRow ⟨t.toArray⟩ gc) 5 ((bytesRow ⟨t.toArray⟩ gc).size, (bytesRow ⟨t.toArray⟩ gc).size + 1) = ob at *;go_enter Tryz.func141, Tryz.ntmps141;go_wp2
 go_loop [12, 13, 101] (fun un n i => ∃ k acc : Nat, k ≤ t.length ∧ un = .bool false ∧ i = .int .i64 (k : Nat) ∧ n = .int .u64 (acc : Nat) ∧ Hid (k = 0 ∧ acc = 0 ∨ k = 1 ∧ acc ≤ 15 ∨ k = 2 ∧ acc ≤ 255) ∧ Hid (hexL 0 t = hexL acc (t.drop k))) (fun _ _ i => t.length - (intOf i).toNat)
 (case atStart => exact ⟨0, 0, Nat.zero_le _, rfl, rfl, rfl, Lib.hid (Or.inl ⟨rfl, rfl⟩), Lib.hid (by simp)⟩);case round =>
  obtain ⟨k, acc, hk, rfl, rfl, rfl, HACC, HR⟩ := hrel;by_cases hlt : k < t.length
  ·
   (have hacc : acc ≤ 15 := by rcases HACC.out with ⟨_, h⟩ | ⟨_, h⟩ | ⟨h, _⟩ <;> omega);have hcell := HC.out k hlt;have OD := Lib.hid (hex_drop hlt acc);have hcb := UInt8.toNat_lt t[k];clear HC;generalize t[k].toNat = c at *;have HL := Lib.hid (low_letter c hcb);(have hcut : ¬ (1152921504606846976 : Int) ≤ ((acc : Nat) : Int) := by omega);by_cases hd : 48 ≤ c ∧ c ≤ 57
   ·
    (have d1 : (48 : Int) ≤ c := by omega);(have d2 : (c : Int) ≤ 57 := by omega);(have d3 : ((c : Int) - 48) = ((c - 48 : Nat) : Int) := by omega);(have d4 : ¬ (16 : Int) ≤ ((c - 48 : Nat) : Int) := by omega);have HO := Lib.hid (show hexL 0 t = hexL (acc * 16 + (c - 48)) (t.drop (k + 1)) from by rw [HR.out, OD.out, show hexN c = some (c - 48) from if_pos hd]);(have s1 : ((acc : Nat) : Int) * 16 + ((c - 48 : Nat) : Int) ≤ 255 := by omega);(have hd9 : c - 48 ≤ 15 := by omega);generalize c - 48 = d at *;clear hd OD HR;go_wp2
    go_round
    (case rel => exact ⟨k + 1, acc * 16 + d, by omega, rfl, by go_num, by go_num, Lib.hid (by rcases HACC.out with ⟨h, h'⟩ | ⟨h, h'⟩ | ⟨h, h'⟩ <;> omega), HO⟩);case measure => simp [intOf]; omega
   ·
    have HLX := Lib.hid (low_hex c hcb hd);obtain ⟨l, hl⟩ : ∃ l : Nat, bits .or .u8 (c : Int) 32 = (l : Int) := ⟨(bits .or .u8 (c : Int) 32).toNat, by have := HL.out; omega⟩;(have hl255 : l ≤ 255 := by have := HL.out.2; omega);have HLX2 : Hid ((97 ≤ l ∧ l ≤ 102 → hexN c = some (l - 97 + 10)) ∧ (¬ (97 ≤ l ∧ l ≤ 102) → hexN c = none)) := Lib.hid (by have := HLX.out; rw [hl] at this; exact this);have HLOW := Lib.hid (show ∀ w, Calls Tryz.prog 165 #[.int .u8 (c : Int)] w fun e w' => e = .returned (Y l) ∧ w' = w from fun w => by
     have := Tryz.internal_strconv_lower (c : Int) w;rw [hl] at this;exact this)
    clear hl HL HLX;cases e95 : (((c : Nat) : Int) == 95)
    ·
     by_cases d48 : 48 ≤ c
     ·
      (have d1 : (48 : Int) ≤ c := by omega);(have d2 : ¬ (c : Int) ≤ 57 := by omega);clear hd;by_cases l97 : 97 ≤ l
      ·
       (have l1 : (97 : Int) ≤ l := by omega);by_cases l102 : l ≤ 102
       ·
        have HO := Lib.hid (show hexL 0 t = hexL (acc * 16 + (l - 97 + 10)) (t.drop (k + 1)) from by rw [HR.out, OD.out, HLX2.out.1 ⟨l97, l102⟩]);(have l2 : (l : Int) ≤ 122 := by omega);(have l4 : ¬ (16 : Int) ≤ (l : Int) - 97 + 10 := by omega);(have s1 : ((acc : Nat) : Int) * 16 + ((l : Int) - 97 + 10) ≤ 255 := by omega);have hcutB : decide ((1152921504606846976 : Int) ≤ ((acc : Nat) : Int)) = false := decide_eq_false hcut;have HD15 := Lib.hid (show l - 97 + 10 ≤ 15 by omega);have HL97 := Lib.hid (And.intro l97 hacc);clear OD HR HLX2 l97 l102 hcut;go_wp2_with (go_at_call 165; refine (HLOW.out _).mono ?_; rintro e w' ⟨rfl, rfl⟩; (try clear hcell); (try clear d1); (try clear d2); (try clear e95); (try clear hcb); (try clear hl255); (try clear hcv); (try clear hacc); (try clear hd9))
        go_round
        (case rel => exact ⟨k + 1, acc * 16 + (l - 97 + 10), by omega, rfl, by go_num, congrArg (Value.int .u64) (by have := HL97.out; omega), Lib.hid (by have h5 := HD15.out; have h6 := HL97.out; rcases HACC.out with ⟨h, h'⟩ | ⟨h, h'⟩ | ⟨h, h'⟩ <;> omega), HO⟩);case measure => simp [intOf]; omega
       ·
        have HO := Lib.hid (show hexL 0 t = none from by rw [HR.out, OD.out, HLX2.out.2 (fun q => l102 q.2)]);clear OD HR HLX2;by_cases l122 : l ≤ 122
        ·
         (have l2 : (l : Int) ≤ 122 := by omega);(have l4 : (16 : Int) ≤ (l : Int) - 97 + 10 := by omega);go_wp2_with (go_at_call 165; refine (HLOW.out _).mono ?_; rintro e w' ⟨rfl, rfl⟩; (try clear hcell); (try clear d1); (try clear d2); (try clear e95); (try clear hcb); (try clear hcut); (try clear hacc); (try clear hk); (try clear hl255); (try clear hcv))
         go_ret2
         exact ⟨Or.inr ⟨HO.out, rfl⟩, HB.out⟩
        ·
         (have l2 : ¬ (l : Int) ≤ 122 := by omega);go_wp2_with (go_at_call 165; refine (HLOW.out _).mono ?_; rintro e w' ⟨rfl, rfl⟩; (try clear hcell); (try clear d1); (try clear d2); (try clear e95); (try clear hcb); (try clear hcut); (try clear hacc); (try clear hk); (try clear hl255); (try clear hcv))
         go_ret2
         exact ⟨Or.inr ⟨HO.out, rfl⟩, HB.out⟩
      ·
       (have l1 : ¬ (97 : Int) ≤ l := by omega);have HO := Lib.hid (show hexL 0 t = none from by rw [HR.out, OD.out, HLX2.out.2 (fun q => l97 q.1)]);clear OD HR HLX2;go_wp2_with (go_at_call 165; refine (HLOW.out _).mono ?_; rintro e w' ⟨rfl, rfl⟩; (try clear hcell); (try clear d1); (try clear d2); (try clear e95); (try clear hcb); (try clear hcut); (try clear hacc); (try clear hk); (try clear hl255); (try clear hcv))
       go_ret2
       exact ⟨Or.inr ⟨HO.out, rfl⟩, HB.out⟩
     ·
      (have d1 : ¬ (48 : Int) ≤ c := by omega);clear hd;by_cases l97 : 97 ≤ l
      ·
       (have l1 : (97 : Int) ≤ l := by omega);by_cases l102 : l ≤ 102
       ·
        have HO := Lib.hid (show hexL 0 t = hexL (acc * 16 + (l - 97 + 10)) (t.drop (k + 1)) from by rw [HR.out, OD.out, HLX2.out.1 ⟨l97, l102⟩]);(have l2 : (l : Int) ≤ 122 := by omega);(have l4 : ¬ (16 : Int) ≤ (l : Int) - 97 + 10 := by omega);(have s1 : ((acc : Nat) : Int) * 16 + ((l : Int) - 97 + 10) ≤ 255 := by omega);have hcutB : decide ((1152921504606846976 : Int) ≤ ((acc : Nat) : Int)) = false := decide_eq_false hcut;have HD15 := Lib.hid (show l - 97 + 10 ≤ 15 by omega);have HL97 := Lib.hid (And.intro l97 hacc);clear OD HR HLX2 l97 l102 hcut;go_wp2_with (go_at_call 165; refine (HLOW.out _).mono ?_; rintro e w' ⟨rfl, rfl⟩; (try clear hcell); (try clear d1); (try clear d2); (try clear e95); (try clear hcb); (try clear hl255); (try clear hcv); (try clear hacc); (try clear hd9))
        go_round
        (case rel => exact ⟨k + 1, acc * 16 + (l - 97 + 10), by omega, rfl, by go_num, congrArg (Value.int .u64) (by have := HL97.out; omega), Lib.hid (by have h5 := HD15.out; have h6 := HL97.out; rcases HACC.out with ⟨h, h'⟩ | ⟨h, h'⟩ | ⟨h, h'⟩ <;> omega), HO⟩);case measure => simp [intOf]; omega
       ·
        have HO := Lib.hid (show hexL 0 t = none from by rw [HR.out, OD.out, HLX2.out.2 (fun q => l102 q.2)]);clear OD HR HLX2;by_cases l122 : l ≤ 122
        ·
         (have l2 : (l : Int) ≤ 122 := by omega);(have l4 : (16 : Int) ≤ (l : Int) - 97 + 10 := by omega);go_wp2_with (go_at_call 165; refine (HLOW.out _).mono ?_; rintro e w' ⟨rfl, rfl⟩; (try clear hcell); (try clear d1); (try clear d2); (try clear e95); (try clear hcb); (try clear hcut); (try clear hacc); (try clear hk); (try clear hl255); (try clear hcv))
         go_ret2
         exact ⟨Or.inr ⟨HO.out, rfl⟩, HB.out⟩
        ·
         (have l2 : ¬ (l : Int) ≤ 122 := by omega);go_wp2_with (go_at_call 165; refine (HLOW.out _).mono ?_; rintro e w' ⟨rfl, rfl⟩; (try clear hcell); (try clear d1); (try clear d2); (try clear e95); (try clear hcb); (try clear hcut); (try clear hacc); (try clear hk); (try clear hl255); (try clear hcv))
         go_ret2
         exact ⟨Or.inr ⟨HO.out, rfl⟩, HB.out⟩
      ·
       (have l1 : ¬ (97 : Int) ≤ l := by omega);have HO := Lib.hid (show hexL 0 t = none from by rw [HR.out, OD.out, HLX2.out.2 (fun q => l97 q.1)]);clear OD HR HLX2;go_wp2_with (go_at_call 165; refine (HLOW.out _).mono ?_; rintro e w' ⟨rfl, rfl⟩; (try clear hcell); (try clear d1); (try clear d2); (try clear e95); (try clear hcb); (try clear hcut); (try clear hacc); (try clear hk); (try clear hl255); (try clear hcv))
       go_ret2
       exact ⟨Or.inr ⟨HO.out, rfl⟩, HB.out⟩
    ·
     by_cases d48 : 48 ≤ c
     ·
      (have d1 : (48 : Int) ≤ c := by omega);(have d2 : ¬ (c : Int) ≤ 57 := by omega);clear hd;by_cases l97 : 97 ≤ l
      ·
       (have l1 : (97 : Int) ≤ l := by omega);by_cases l102 : l ≤ 102
       ·
        have HO := Lib.hid (show hexL 0 t = hexL (acc * 16 + (l - 97 + 10)) (t.drop (k + 1)) from by rw [HR.out, OD.out, HLX2.out.1 ⟨l97, l102⟩]);(have l2 : (l : Int) ≤ 122 := by omega);(have l4 : ¬ (16 : Int) ≤ (l : Int) - 97 + 10 := by omega);(have s1 : ((acc : Nat) : Int) * 16 + ((l : Int) - 97 + 10) ≤ 255 := by omega);have hcutB : decide ((1152921504606846976 : Int) ≤ ((acc : Nat) : Int)) = false := decide_eq_false hcut;have HD15 := Lib.hid (show l - 97 + 10 ≤ 15 by omega);have HL97 := Lib.hid (And.intro l97 hacc);clear OD HR HLX2 l97 l102 hcut;go_wp2_with (go_at_call 165; refine (HLOW.out _).mono ?_; rintro e w' ⟨rfl, rfl⟩; (try clear hcell); (try clear d1); (try clear d2); (try clear e95); (try clear hcb); (try clear hl255); (try clear hcv); (try clear hacc); (try clear hd9))
        go_round
        (case rel => exact ⟨k + 1, acc * 16 + (l - 97 + 10), by omega, rfl, by go_num, congrArg (Value.int .u64) (by have := HL97.out; omega), Lib.hid (by have h5 := HD15.out; have h6 := HL97.out; rcases HACC.out with ⟨h, h'⟩ | ⟨h, h'⟩ | ⟨h, h'⟩ <;> omega), HO⟩);case measure => simp [intOf]; omega
       ·
        have HO := Lib.hid (show hexL 0 t = none from by rw [HR.out, OD.out, HLX2.out.2 (fun q => l102 q.2)]);clear OD HR HLX2;by_cases l122 : l ≤ 122
        ·
         (have l2 : (l : Int) ≤ 122 := by omega);(have l4 : (16 : Int) ≤ (l : Int) - 97 + 10 := by omega);go_wp2_with (go_at_call 165; refine (HLOW.out _).mono ?_; rintro e w' ⟨rfl, rfl⟩; (try clear hcell); (try clear d1); (try clear d2); (try clear e95); (try clear hcb); (try clear hcut); (try clear hacc); (try clear hk); (try clear hl255); (try clear hcv))
         go_ret2
         exact ⟨Or.inr ⟨HO.out, rfl⟩, HB.out⟩
        ·
         (have l2 : ¬ (l : Int) ≤ 122 := by omega);go_wp2_with (go_at_call 165; refine (HLOW.out _).mono ?_; rintro e w' ⟨rfl, rfl⟩; (try clear hcell); (try clear d1); (try clear d2); (try clear e95); (try clear hcb); (try clear hcut); (try clear hacc); (try clear hk); (try clear hl255); (try clear hcv))
         go_ret2
         exact ⟨Or.inr ⟨HO.out, rfl⟩, HB.out⟩
      ·
       (have l1 : ¬ (97 : Int) ≤ l := by omega);have HO := Lib.hid (show hexL 0 t = none from by rw [HR.out, OD.out, HLX2.out.2 (fun q => l97 q.1)]);clear OD HR HLX2;go_wp2_with (go_at_call 165; refine (HLOW.out _).mono ?_; rintro e w' ⟨rfl, rfl⟩; (try clear hcell); (try clear d1); (try clear d2); (try clear e95); (try clear hcb); (try clear hcut); (try clear hacc); (try clear hk); (try clear hl255); (try clear hcv))
       go_ret2
       exact ⟨Or.inr ⟨HO.out, rfl⟩, HB.out⟩
     ·
      (have d1 : ¬ (48 : Int) ≤ c := by omega);clear hd;by_cases l97 : 97 ≤ l
      ·
       (have l1 : (97 : Int) ≤ l := by omega);by_cases l102 : l ≤ 102
       ·
        have HO := Lib.hid (show hexL 0 t = hexL (acc * 16 + (l - 97 + 10)) (t.drop (k + 1)) from by rw [HR.out, OD.out, HLX2.out.1 ⟨l97, l102⟩]);(have l2 : (l : Int) ≤ 122 := by omega);(have l4 : ¬ (16 : Int) ≤ (l : Int) - 97 + 10 := by omega);(have s1 : ((acc : Nat) : Int) * 16 + ((l : Int) - 97 + 10) ≤ 255 := by omega);have hcutB : decide ((1152921504606846976 : Int) ≤ ((acc : Nat) : Int)) = false := decide_eq_false hcut;have HD15 := Lib.hid (show l - 97 + 10 ≤ 15 by omega);have HL97 := Lib.hid (And.intro l97 hacc);clear OD HR HLX2 l97 l102 hcut;go_wp2_with (go_at_call 165; refine (HLOW.out _).mono ?_; rintro e w' ⟨rfl, rfl⟩; (try clear hcell); (try clear d1); (try clear d2); (try clear e95); (try clear hcb); (try clear hl255); (try clear hcv); (try clear hacc); (try clear hd9))
        go_round
        (case rel => exact ⟨k + 1, acc * 16 + (l - 97 + 10), by omega, rfl, by go_num, congrArg (Value.int .u64) (by have := HL97.out; omega), Lib.hid (by have h5 := HD15.out; have h6 := HL97.out; rcases HACC.out with ⟨h, h'⟩ | ⟨h, h'⟩ | ⟨h, h'⟩ <;> omega), HO⟩);case measure => simp [intOf]; omega
       ·
        have HO := Lib.hid (show hexL 0 t = none from by rw [HR.out, OD.out, HLX2.out.2 (fun q => l102 q.2)]);clear OD HR HLX2;by_cases l122 : l ≤ 122
        ·
         (have l2 : (l : Int) ≤ 122 := by omega);(have l4 : (16 : Int) ≤ (l : Int) - 97 + 10 := by omega);go_wp2_with (go_at_call 165; refine (HLOW.out _).mono ?_; rintro e w' ⟨rfl, rfl⟩; (try clear hcell); (try clear d1); (try clear d2); (try clear e95); (try clear hcb); (try clear hcut); (try clear hacc); (try clear hk); (try clear hl255); (try clear hcv))
         go_ret2
         exact ⟨Or.inr ⟨HO.out, rfl⟩, HB.out⟩
        ·
         (have l2 : ¬ (l : Int) ≤ 122 := by omega);go_wp2_with (go_at_call 165; refine (HLOW.out _).mono ?_; rintro e w' ⟨rfl, rfl⟩; (try clear hcell); (try clear d1); (try clear d2); (try clear e95); (try clear hcb); (try clear hcut); (try clear hacc); (try clear hk); (try clear hl255); (try clear hcv))
         go_ret2
         exact ⟨Or.inr ⟨HO.out, rfl⟩, HB.out⟩
      ·
       (have l1 : ¬ (97 : Int) ≤ l := by omega);have HO := Lib.hid (show hexL 0 t = none from by rw [HR.out, OD.out, HLX2.out.2 (fun q => l97 q.1)]);clear OD HR HLX2;go_wp2_with (go_at_call 165; refine (HLOW.out _).mono ?_; rintro e w' ⟨rfl, rfl⟩; (try clear hcell); (try clear d1); (try clear d2); (try clear e95); (try clear hcb); (try clear hcut); (try clear hacc); (try clear hk); (try clear hl255); (try clear hcv))
       go_ret2
       exact ⟨Or.inr ⟨HO.out, rfl⟩, HB.out⟩
  ·
   (obtain rfl : k = t.length := by omega);have HO := Lib.hid (show hexL 0 t = some acc from by rw [HR.out, List.drop_of_length_le (by omega)]; rfl);clear HR HC;go_wp2
   go_ret2
   exact ⟨Or.inl ⟨acc, HO.out, rfl⟩, HB.out⟩
/-- The library's two sentinels lie in their variables. -/
structure Errs (w : World) : Prop where
 syn : ∃ ev, w.cell? ⟨3, 0, none⟩ = some ev ∧ (ev = .nilIface ∨ ∃ te pe, ev = .iface te pe)
 rng : ∃ ev, w.cell? ⟨4, 0, none⟩ = some ev ∧ (ev = .nilIface ∨ ∃ te pe, ev = .iface te pe)
 l1 : 3 < w.heap.size
 l2 : 4 < w.heap.size
theorem Errs.below {w w' : World} (h : Errs w) (hb : Below w.heap.size w w') : Errs w' where
 syn := by obtain ⟨ev, h1, h2⟩ := h.syn; exact ⟨ev, (hb.cell (p := ⟨3, 0, none⟩) h.l1).trans h1, h2⟩
 rng := by obtain ⟨ev, h1, h2⟩ := h.rng; exact ⟨ev, (hb.cell (p := ⟨4, 0, none⟩) h.l2).trans h1, h2⟩
 l1 := Nat.lt_of_lt_of_le h.l1 hb.size
 l2 := Nat.lt_of_lt_of_le h.l2 hb.size
/-- What the public ParseUint answers: a number below 256 and no error, or 0 and one. -/
def Pub (t : List UInt8) (e : Ending) : Prop :=
 (∃ x : Nat, hexL 0 t = some x ∧ e = .returned (.tuple #[.int .u64 x, .nilIface])) ∨ (hexL 0 t = none ∧ ∃ (te : TypeId) (pe : Value), e = .returned (.tuple #[.int .u64 0, .iface te pe]))
theorem pub16_any (t : List UInt8) (h1 : 1 ≤ t.length) (h3 : t.length ≤ 2) (w : World) (hE : Errs w) :
  Calls Tryz.prog 109 #[S t, E 16, E 8] w fun e w' => Pub t e ∧ Below w.heap.size w w' := by
 have HP := Lib.hid (parse16_any t h1 h3 w);have HE := Lib.hid hE;clear hE;(have hsz : (ByteArray.mk t.toArray).size ≤ 281474976710656 := by simp [ByteArray.size]; omega);have HSZ := Lib.hid hsz;clear hsz;go_enter Tryz.func109, Tryz.ntmps109;go_wp2_with (go_at_call 141; refine HP.out.mono ?_);rintro e w1 ⟨hp | ⟨ho, he⟩, hb⟩
 ·
  obtain ⟨x, ho, rfl⟩ := hp;(have HO : Hid (∀ e : Ending, e = .returned (.tuple #[.int .u64 x, .nilIface]) → Pub t e) := Lib.hid fun e he => Or.inl ⟨x, ho, he⟩);have HB := Lib.hid hb;clear ho hb;go_wp2
  go_ret2
  exact ⟨HO.out _ rfl, HB.out⟩
 ·
  subst he;(have HO : Hid (∀ (e : Ending) (te : TypeId) (pe : Value), e = .returned (.tuple #[.int .u64 0, .iface te pe]) → Pub t e) := Lib.hid fun e te pe he => Or.inr ⟨ho, te, pe, he⟩);have HB := Lib.hid hb;have HE1 := HE.out.below hb;obtain ⟨es, s1, s2⟩ := HE1.syn;clear ho hb HE1;have HT := Lib.hid (Tryz.strconv_toError_syntax ⟨#[80, 97, 114, 115, 101, 85, 105, 110, 116]⟩ ⟨t.toArray⟩ 16 8 es w1 HSZ.out s1 s2);clear s1 s2;go_wp2_with (go_at_call 142; refine HT.out.mono ?_; rintro e w2 ⟨N, rfl, _, _, hb2⟩; have HB2 := Lib.hid (HB.out.trans (hb2.mono HB.out.size)); clear hb2)
  go_ret2
  exact ⟨HO.out _ _ _ rfl, HB2.out⟩
theorem hexL_pair (c d : UInt8) : (∃ x y, hexV c = some x ∧ hexV d = some y ∧ hexL 0 [c, d] = some (x * 16 + y) ∧ pairV c d = (x * 16 + y, true)) ∨ (hexL 0 [c, d] = none ∧ pairV c d = (0, false)) := by
 unfold pairV;cases h1 : hexV c with
 | none => right; exact ⟨by unfold hexL; rw [h1], rfl⟩
 | some x =>
  cases h2 : hexV d with
  | none => right; exact ⟨by unfold hexL; rw [h1]; show hexL _ [d] = none; unfold hexL; rw [h2], rfl⟩
  | some y => left; exact ⟨x, y, rfl, rfl, by unfold hexL; rw [h1]; show hexL _ [d] = _; unfold hexL; rw [h2]; show some _ = some _; congr 1; omega, rfl⟩
open Ad (cutB cutB_at atoiV dec_len)
open St (Tab)
theorem ibyte (c : UInt8) : ∀ l : List UInt8, (Lib.indexByte l c = -1 ∧ cutB c l = (l, [], false)) ∨ (∃ k : Nat, k < l.length ∧ Lib.indexByte l c = (k : Int) ∧ cutB c l = (l.take k, l.drop (k + 1), true))
 | [] => by left; exact ⟨rfl, rfl⟩
 | b :: r => by
  unfold Lib.indexByte cutB;by_cases h : b = c
  · right;subst h;exact ⟨0, by simp, by simp, by simp⟩
  ·
   (have hB : (b == c) = false := by rw [beq_eq_false_iff_ne]; exact h);rw [hB, if_neg h];rcases ibyte c r with ⟨h1, h2⟩ | ⟨k, h0, h1, h2⟩
   · left;rw [h1, h2];exact ⟨rfl, rfl⟩
   ·
    right;refine ⟨k + 1, by simp; omega, ?_, ?_⟩
    · rw [h1];(have hn : ((k : Int) == -1) = false := by rw [beq_eq_false_iff_ne]; omega);rw [hn];simp
    · rw [h2]; simp
theorem ex_take {l : List UInt8} (k : Nat) : (⟨l.toArray⟩ : ByteArray).extract 0 k = ⟨(l.take k).toArray⟩ := by
 rw [Go.Lib.extract_eq]; simp
theorem ex_drop {l : List UInt8} (k : Nat) : (⟨l.toArray⟩ : ByteArray).extract k l.length = ⟨(l.drop k).toArray⟩ := by
 rw [Go.Lib.extract_eq];simp only;rw [List.take_of_length_le (by simp)]
abbrev CutR (c : UInt8) (l : List UInt8) : Ending := .returned (.tuple #[S (cutB c l).1, S (cutB c l).2.1, .bool (cutB c l).2.2])
theorem scut_any (l : List UInt8) (c : UInt8) (w : World) (hl : l.length ≤ 100000) :
  Calls Tryz.prog 164 #[S l, S [c]] w fun e w' => e = CutR c l ∧ Below w.heap.size w w' := by
 (have hsz : (ByteArray.mk l.toArray).size = l.length := by simp [ByteArray.size]);(have hs1 : (ByteArray.mk #[c]).size = 1 := by rfl);have HI : Hid (∀ w, Calls Tryz.prog 184 #[S l, .string ⟨#[c]⟩] w fun e w' => e = .returned (E (Lib.indexByte l c)) ∧ w' = w) := Lib.hid (fun w => by
  have h := Tryz.stringslite_Index_one ⟨l.toArray⟩ c w;simpa using h)
 rcases ibyte c l with ⟨h1, h2⟩ | ⟨k, h0, h1, h2⟩
 ·
  have HO := Lib.hid h2;clear h2;rw [h1] at HI;go_enter Tryz.func164, Tryz.ntmps164;go_wp2_with (go_at_call 184; refine (HI.out _).mono ?_; rintro e w' ⟨rfl, rfl⟩)
  go_ret3
  exact ⟨by unfold CutR; rw [HO.out]; rfl, Below.refl _ _⟩
 ·
  have HO := Lib.hid h2;clear h2;rw [h1] at HI;have e1 := ex_take (l := l) k;have e2 := ex_drop (l := l) (k + 1);(have hk : ((k : Nat) : Int) ≤ ((l.length : Nat) : Int) := by omega);(have hk1 : ((k : Nat) : Int) + 1 ≤ ((l.length : Nat) : Int) := by omega);(have hk2 : (((k : Nat) : Int) + 1).toNat = k + 1 := by omega);go_enter Tryz.func164, Tryz.ntmps164;go_wp2_with (go_at_call 184; refine (HI.out _).mono ?_; rintro e w' ⟨rfl, rfl⟩);go_region;go_wp2
  go_ret3
  exact ⟨by unfold CutR; rw [HO.out]; rfl, (Below.refl _ _).drew⟩
theorem cut_any (l : List UInt8) (c : UInt8) (w : World) (hl : l.length ≤ 100000) :
  Calls Tryz.prog 140 #[S l, S [c]] w fun e w' => e = CutR c l ∧ Below w.heap.size w w' := by
 have HC := Lib.hid (fun w => scut_any l c w hl);unfold CutR at *;go_enter Tryz.func140, Tryz.ntmps140;go_wp2_with (go_at_call 164; refine (HC.out _).mono ?_; rintro e w' ⟨rfl, hb⟩; have HB := Lib.hid hb; clear hb)
 go_ret3
 exact ⟨rfl, HB.out⟩
/-- What the library's functions find in its variables. -/
structure Lay (w : World) : Prop where
 tab : Tab w
 tl : 2 < w.heap.size
 pow : Go.Lib.TabIs Tryz.prog w "internal/strconv.uint64pow10" .u64 Go.Lib.pow10Tab
 err : Errs w
theorem gPow : Tryz.prog.globalNamed "internal/strconv.uint64pow10" = some 1 := by kernel_rfl
theorem Lay.below {w w' : World} (h : Lay w) (hb : Below w.heap.size w w') : Lay w' :=
 ⟨h.tab.below hb h.tl, Nat.lt_of_lt_of_le h.tl hb.size, Go.Joins.tab_stays gPow h.pow hb (Nat.le_refl _), h.err.below hb⟩
theorem below_grow (w : World) (os : Array Obj) : Below w.heap.size w (Go.Sort.grow w os) := ⟨rfl, rfl, rfl, by simp, fun k hk => Go.Sort.heap_grow_old w os hk⟩
theorem itoa_any (n : Int) (h0 : -1 ≤ n) (h1 : n ≤ 999999999) (w : World) (hL : Lay w) :
  Calls Tryz.prog 59 #[E n] w fun e w' => e = .returned (S (Lib.itoa n)) ∧ Below w.heap.size w w' := by
 refine (Tryz.strconv_Itoa n (by omega) (by omega) w hL.pow).mono ?_;rintro e w' ⟨rfl, k, os, rfl⟩;exact ⟨rfl, (Go.Joins.below_draws w.heap.size w k).trans (below_grow (w.drewN k) os)⟩
/-- The error of Atoi. -/
def ErrIs (ok : Bool) (ev : Value) : Prop := if ok = true then ev = .nilIface else ∃ (te : TypeId) (pe : Value), ev = .iface te pe
theorem atoi_any (l : List UInt8) (w : World) (hL : Lay w) (hl : l.length ≤ 100000) :
  Calls Tryz.prog 111 #[S l] w fun e w' => ∃ ev, ErrIs (atoiK l) ev ∧ e = .returned (.tuple #[E (atoiV l), ev]) ∧ Below w.heap.size w w' := by
 (have hsz : (ByteArray.mk l.toArray).size = l.length := by simp [ByteArray.size]);(have hd : (ByteArray.mk l.toArray).data.toList = l := by simp);unfold atoiV atoiK;rcases h : Lib.atoiAll l with v | _ | _
 ·
  refine (Tryz.strconv_Atoi_ok ⟨l.toArray⟩ (by rw [hsz]; omega) v (by rw [hd]; exact h) w).mono ?_;rintro e w' ⟨rfl, rfl | ⟨t, rfl⟩⟩
  · exact ⟨_, rfl, rfl, Below.refl _ _⟩
  · exact ⟨_, rfl, rfl, Go.Joins.below_bytesWorld _ _ _ _ (Nat.le_refl _)⟩
 · obtain ⟨ev, hv, hev⟩ := hL.err.syn;refine (Tryz.strconv_Atoi_syntax ⟨l.toArray⟩ (by rw [hsz]; omega) (by rw [hd]; exact h) ev w hv hev).mono ?_;rintro e w' ⟨N, rfl, _, _, hb⟩;exact ⟨_, ⟨_, _, rfl⟩, rfl, hb⟩
 · obtain ⟨ev, hv, hev⟩ := hL.err.rng;refine (Tryz.strconv_Atoi_range ⟨l.toArray⟩ (by rw [hsz]; omega) (by rw [hd]; exact h) ev w hv hev).mono ?_;rintro e w' ⟨N, rfl, _, _, hb⟩;exact ⟨_, ⟨_, _, rfl⟩, by rw [hd], hb⟩
open St (Wf word zeroW)
open Tr
abbrev BA (l : List Bool) : Array Value := (l.map Value.bool).toArray
abbrev CLO (H : Nat) : Array Value := #[PT H, PT (H + 5), PT (H + 1), PT (H + 3), PT (H + 4), PT (H + 2)]
abbrev FV (H : Nat) : Value := .func (.func 101) #[] (CLO H)
/-- The cells that the walk through a tree writes. -/
structure NW (w0 : World) (v : Value) (s : NSt) (w : World) : Prop where
 l : w.heap[w0.heap.size]? = some (.cells #[v] 22 (0, 0))
 g : w.heap[w0.heap.size + 1]? = some (.cells #[E s.g] 3 (0, 0))
 r : w.heap[w0.heap.size + 2]? = some (.cells #[.bool s.r] 4 (0, 0))
 ok : w.heap[w0.heap.size + 3]? = some (.cells #[.bool s.ok] 4 (0, 0))
 e : w.heap[w0.heap.size + 4]? = some (.cells (BA s.e) 157 (0, 0))
 f : w.heap[w0.heap.size + 5]? = some (.cells #[FV w0.heap.size] 174 (0, 0))
 len : s.e.length = 10
 bel : Below w0.heap.size w0 w
/-- What a walk through a tree keeps. -/
structure Kp (w0 w w' : World) : Prop where
 size : w.heap.size ≤ w'.heap.size
 far : ∀ k, w0.heap.size + 5 ≤ k → k < w.heap.size → w'.heap[k]? = w.heap[k]?
theorem Kp.refl (w0 w : World) : Kp w0 w w := ⟨Nat.le_refl _, fun _ _ _ => rfl⟩
theorem Kp.trans {w0 a b c : World} (h : Kp w0 a b) (k : Kp w0 b c) : Kp w0 a c := ⟨Nat.le_trans h.size k.size, fun i h1 h2 => (k.far i h1 (Nat.lt_of_lt_of_le h2 h.size)).trans (h.far i h1 h2)⟩
theorem Kp.alloc {w0 a b : World} (h : Kp w0 a b) (o : Obj) : Kp w0 a (b.alloc o) := ⟨by have := h.size; simp; omega, fun i h1 h2 => (Below.heap_alloc _ _ _ (Nat.lt_of_lt_of_le h2 h.size)).trans (h.far i h1 h2)⟩
theorem Kp.set {w0 a b : World} (h : Kp w0 a b) {k : Nat} (hk : k < w0.heap.size + 5) (i : Nat) (u : Value) : Kp w0 a (b.setCell ⟨k, i, none⟩ u) :=
 ⟨by have := h.size; simpa using this, fun j h1 h2 => (Below.heap_setCell b ⟨k, i, none⟩ u j (by show j ≠ k; omega)).trans (h.far j h1 h2)⟩
theorem NW.cells {w0 w : World} {v : Value} {s : NSt} (h : NW w0 v s w) :
  (w.cell? ⟨w0.heap.size, 0, none⟩ = some v ∧ w.cell? ⟨w0.heap.size + 1, 0, none⟩ = some (E s.g) ∧ w.cell? ⟨w0.heap.size + 2, 0, none⟩ = some (.bool s.r) ∧ w.cell? ⟨w0.heap.size + 3, 0, none⟩ = some (.bool s.ok) ∧ w.cell? ⟨w0.heap.size + 5, 0, none⟩ = some (FV w0.heap.size)) ∧
  (w.frozen? ⟨w0.heap.size + 1, 0, none⟩ = false ∧ w.frozen? ⟨w0.heap.size + 2, 0, none⟩ = false ∧ w.frozen? ⟨w0.heap.size + 3, 0, none⟩ = false) :=
 ⟨⟨cell_of_one h.l, cell_of_one h.g, cell_of_one h.r, cell_of_one h.ok, cell_of_one h.f⟩, free_of_one h.g, free_of_one h.r, free_of_one h.ok⟩
theorem NW.ended {w0 w : World} {v : Value} {s : NSt} (h : NW w0 v s w) {u : Nat} (hu : u < 10) : w.cell? ⟨w0.heap.size + 4, u, none⟩ = some (.bool ((s.e[u]?).getD false)) ∧ w.frozen? ⟨w0.heap.size + 4, u, none⟩ = false := by
 have he := h.e;have hl := h.len;refine ⟨?_, by simp [World.frozen?, he]⟩;rw [Lib.cell_of_heap he];(have hu' : u < s.e.length := by omega);simp [List.getElem?_eq_getElem hu']
theorem NW.sz {w0 w : World} {v : Value} {s : NSt} (h : NW w0 v s w) : w0.heap.size + 6 ≤ w.heap.size := lt_heap' h.f
theorem NW.alloc {w0 w : World} {v : Value} {s : NSt} (h : NW w0 v s w) (o : Obj) : NW w0 v s (w.alloc o) := by
 have hs := h.sz;(have e : ∀ {k o'}, w.heap[k]? = some o' → (w.alloc o).heap[k]? = some o' := fun hk => (Below.heap_alloc _ _ _ (lt_heap' hk)).trans hk);exact ⟨e h.l, e h.g, e h.r, e h.ok, e h.e, e h.f, h.len, h.bel.alloc (by omega) _⟩
theorem setne {w : World} {a b i : Nat} {u : Value} {o : Obj} (h : w.heap[a]? = some o) (hne : a ≠ b) : (w.setCell ⟨b, i, none⟩ u).heap[a]? = some o := (Below.heap_setCell w ⟨b, i, none⟩ u a hne).trans h
theorem NW.setG {w0 w : World} {v : Value} {s : NSt} (h : NW w0 v s w) (x : Int) : NW w0 v ⟨x, s.e, s.r, s.ok⟩ (w.setCell ⟨w0.heap.size + 1, 0, none⟩ (E x)) :=
 ⟨setne h.l (by omega), one_setCell h.g, setne h.r (by omega), setne h.ok (by omega), setne h.e (by omega), setne h.f (by omega), h.len, h.bel.setCell (by simp) _⟩
theorem NW.setR {w0 w : World} {v : Value} {s : NSt} (h : NW w0 v s w) (x : Bool) : NW w0 v ⟨s.g, s.e, x, s.ok⟩ (w.setCell ⟨w0.heap.size + 2, 0, none⟩ (.bool x)) :=
 ⟨setne h.l (by omega), setne h.g (by omega), one_setCell h.r, setne h.ok (by omega), setne h.e (by omega), setne h.f (by omega), h.len, h.bel.setCell (by simp) _⟩
theorem NW.setO {w0 w : World} {v : Value} {s : NSt} (h : NW w0 v s w) (x : Bool) : NW w0 v ⟨s.g, s.e, s.r, x⟩ (w.setCell ⟨w0.heap.size + 3, 0, none⟩ (.bool x)) :=
 ⟨setne h.l (by omega), setne h.g (by omega), setne h.r (by omega), one_setCell h.ok, setne h.e (by omega), setne h.f (by omega), h.len, h.bel.setCell (by simp) _⟩
theorem NW.setE {w0 w : World} {v : Value} {s : NSt} (h : NW w0 v s w) (u : Nat) : NW w0 v ⟨s.g, s.e.set u true, s.r, s.ok⟩ (w.setCell ⟨w0.heap.size + 4, u, none⟩ (.bool true)) :=
 ⟨setne h.l (by omega), setne h.g (by omega), setne h.r (by omega), setne h.ok (by omega), by
  have := Go.Joins.block_setCell h.e (i := u) (.bool true);rw [this]
  congr 2
  apply Array.ext';simp, setne h.f (by omega), by simpa using h.len, h.bel.setCell (by simp) _⟩
/-- A block with a node, beside the cells. -/
structure NN (w0 : World) (v : Value) (s : NSt) (K : Nat) (n : Nd) (w : World) : Prop where
 nw : NW w0 v s w
 nb : NB w K n
 far : w0.heap.size + 6 ≤ K
theorem NN.new {w0 w : World} {v : Value} {s : NSt} (h : NW w0 v s w) (n : Nd) : NN w0 v s w.heap.size n (w.alloc (.cells (NC n) 48)) := ⟨h.alloc _, heap_alloc_new _ _, h.sz⟩
theorem NN.node {w0 w : World} {v : Value} {s : NSt} {K : Nat} {n : Nd} (h : NN w0 v s K n w) : NH w0 w K n := NB.held h.nb h.nw.bel
theorem NN.step {w0 w w' : World} {v : Value} {s s' : NSt} {K : Nat} {n : Nd} (h : NN w0 v s K n w) (hn : NW w0 v s' w') (hk : Kp w0 w w') : NN w0 v s' K n w' := ⟨hn, (hk.far K (by have := h.far; omega) (lt_heap' h.nb)).trans h.nb, h.far⟩
theorem NN.setG {w0 w : World} {v : Value} {s : NSt} {K : Nat} {n : Nd} (h : NN w0 v s K n w) (x : Int) : NN w0 v ⟨x, s.e, s.r, s.ok⟩ K n (w.setCell ⟨w0.heap.size + 1, 0, none⟩ (E x)) := ⟨h.nw.setG x, setne h.nb (by have := h.far; omega), h.far⟩
theorem NN.setR {w0 w : World} {v : Value} {s : NSt} {K : Nat} {n : Nd} (h : NN w0 v s K n w) (x : Bool) : NN w0 v ⟨s.g, s.e, x, s.ok⟩ K n (w.setCell ⟨w0.heap.size + 2, 0, none⟩ (.bool x)) := ⟨h.nw.setR x, setne h.nb (by have := h.far; omega), h.far⟩
theorem NN.setO {w0 w : World} {v : Value} {s : NSt} {K : Nat} {n : Nd} (h : NN w0 v s K n w) (x : Bool) : NN w0 v ⟨s.g, s.e, s.r, x⟩ K n (w.setCell ⟨w0.heap.size + 3, 0, none⟩ (.bool x)) := ⟨h.nw.setO x, setne h.nb (by have := h.far; omega), h.far⟩
theorem NN.setE {w0 w : World} {v : Value} {s : NSt} {K : Nat} {n : Nd} (h : NN w0 v s K n w) (u : Nat) : NN w0 v ⟨s.g, s.e.set u true, s.r, s.ok⟩ K n (w.setCell ⟨w0.heap.size + 4, u, none⟩ (.bool true)) := ⟨h.nw.setE u, setne h.nb (by have := h.far; omega), h.far⟩
/-- What a walk through a part does. -/
abbrev Wlk (w0 : World) (v : Value) (i : Nat) (f : NSt → NSt) (s : NSt) (w : World) : Prop :=
 Calls Tryz.prog 101 #[E (i : Nat), PT w0.heap.size, PT (w0.heap.size + 5), PT (w0.heap.size + 1), PT (w0.heap.size + 3), PT (w0.heap.size + 4), PT (w0.heap.size + 2)] w fun e w' => e = .returned (.tuple #[]) ∧ NW w0 v (f s) w' ∧ Kp w0 w w'
theorem num_leaf (w0 w : World) (b0 o0 L c i : Nat) (s : NSt) (hi : (i : Int) < (L : Int)) (n : Nd) (h4 : (n.k == 4) = false) (h5 : (n.k == 5) = false) (h6 : (n.k == 6) = false) (h7 : (n.k == 7) = false) (h8 : (n.k == 8) = false) (hN : NW w0 (.slice (some ⟨b0, o0, none⟩) L c) s w) (hq : NCell w b0 (o0 + i * 10) n) :
  Wlk w0 (.slice (some ⟨b0, o0, none⟩) L c) i (fun s => s) s w := by
 (have hi0 : (0 : Int) ≤ (i : Int) := by omega);have HN0 := Lib.hid hN;clear hN;obtain ⟨⟨c0, c1, c2, c3, c5⟩, cf1, cf2, cf3⟩ := HN0.out.cells;obtain ⟨q0, q1, q2, q3, q4, q5, q6, q7, q8, q9⟩ := hq;have HN1 := Lib.hid (NN.new HN0.out n);have HK1 := Lib.hid ((Kp.refl w0 w).alloc (.cells (NC n) 48));obtain ⟨⟨d0, d1, d2, d3, d5⟩, df1, df2, df3⟩ := HN1.out.nw.cells; obtain ⟨r0, r1, r2, r3, r4, r5, r6, r7, r8, r9, _⟩ := HN1.out.node;go_enter Tryz.func101, Tryz.ntmps101;go_wp2;go_end0;exact ⟨rfl, HN1.out.nw, HK1.out⟩
theorem num_4 (w0 w : World) (b0 o0 L c i : Nat) (s : NSt) (hi : (i : Int) < (L : Int)) (z : List Nat) (a b : Nat) (mn mx m : Int) (fa fb : NSt → NSt) (HXa : Hid (∀ w, NW w0 (.slice (some ⟨b0, o0, none⟩) L c) (s) w → Wlk w0 (.slice (some ⟨b0, o0, none⟩) L c) a fa (s) w)) (HXb : Hid (∀ w, NW w0 (.slice (some ⟨b0, o0, none⟩) L c) (fa s) w → Wlk w0 (.slice (some ⟨b0, o0, none⟩) L c) b fb (fa s) w)) (hN : NW w0 (.slice (some ⟨b0, o0, none⟩) L c) s w) (hq : NCell w b0 (o0 + i * 10) ⟨4, z, (a : Nat), (b : Nat), mn, mx, m⟩) :
  Wlk w0 (.slice (some ⟨b0, o0, none⟩) L c) i (fun s => fb (fa s)) s w := by
 (have hi0 : (0 : Int) ≤ (i : Int) := by omega);have HN0 := Lib.hid hN;clear hN;obtain ⟨⟨c0, c1, c2, c3, c5⟩, cf1, cf2, cf3⟩ := HN0.out.cells;obtain ⟨q0, q1, q2, q3, q4, q5, q6, q7, q8, q9⟩ := hq;have HN1 := Lib.hid (NN.new HN0.out ⟨4, z, (a : Nat), (b : Nat), mn, mx, m⟩);have HK1 := Lib.hid ((Kp.refl w0 w).alloc (.cells (NC ⟨4, z, (a : Nat), (b : Nat), mn, mx, m⟩) 48));obtain ⟨⟨d0, d1, d2, d3, d5⟩, df1, df2, df3⟩ := HN1.out.nw.cells; obtain ⟨r0, r1, r2, r3, r4, r5, r6, r7, r8, r9, _⟩ := HN1.out.node;go_enter Tryz.func101, Tryz.ntmps101;go_wp2_with (first
  | (go_at_call 101; refine (HXa.out _ HN1.out.nw).mono ?_; rintro e w2 ⟨rfl, hn, hk⟩; have HN2 := Lib.hid (HN1.out.step hn hk); have HK2 := Lib.hid (HK1.out.trans hk); clear hn hk HXa; obtain ⟨⟨e0, e1, e2, e3, e5⟩, ef1, ef2, ef3⟩ := HN2.out.nw.cells; obtain ⟨t0, t1, t2, t3, t4, t5, t6, t7, t8, t9, _⟩ := HN2.out.node)
  | (go_at_call 101; refine (HXb.out _ HN2.out.nw).mono ?_; rintro e w3 ⟨rfl, hn, hk⟩; have HN3 := Lib.hid (HN2.out.step hn hk); have HK3 := Lib.hid (HK2.out.trans hk); clear hn hk HXb; obtain ⟨⟨f0, f1, f2, f3, f5⟩, ff1, ff2, ff3⟩ := HN3.out.nw.cells; obtain ⟨u0, u1, u2, u3, u4, u5, u6, u7, u8, u9, _⟩ := HN3.out.node))
 (all_goals go_end0);exact ⟨rfl, HN3.out.nw, HK3.out⟩
theorem num_5 (w0 w : World) (b0 o0 L c i : Nat) (s : NSt) (hi : (i : Int) < (L : Int)) (z : List Nat) (a b : Nat) (mn mx m : Int) (fa fb : NSt → NSt) (HXa : Hid (∀ w, NW w0 (.slice (some ⟨b0, o0, none⟩) L c) (s) w → Wlk w0 (.slice (some ⟨b0, o0, none⟩) L c) a fa (s) w)) (HXb : Hid (∀ w, NW w0 (.slice (some ⟨b0, o0, none⟩) L c) (fa s) w → Wlk w0 (.slice (some ⟨b0, o0, none⟩) L c) b fb (fa s) w)) (hN : NW w0 (.slice (some ⟨b0, o0, none⟩) L c) s w) (hq : NCell w b0 (o0 + i * 10) ⟨5, z, (a : Nat), (b : Nat), mn, mx, m⟩) :
  Wlk w0 (.slice (some ⟨b0, o0, none⟩) L c) i (fun s => fb (fa s)) s w := by
 (have hi0 : (0 : Int) ≤ (i : Int) := by omega);have HN0 := Lib.hid hN;clear hN;obtain ⟨⟨c0, c1, c2, c3, c5⟩, cf1, cf2, cf3⟩ := HN0.out.cells;obtain ⟨q0, q1, q2, q3, q4, q5, q6, q7, q8, q9⟩ := hq;have HN1 := Lib.hid (NN.new HN0.out ⟨5, z, (a : Nat), (b : Nat), mn, mx, m⟩);have HK1 := Lib.hid ((Kp.refl w0 w).alloc (.cells (NC ⟨5, z, (a : Nat), (b : Nat), mn, mx, m⟩) 48));obtain ⟨⟨d0, d1, d2, d3, d5⟩, df1, df2, df3⟩ := HN1.out.nw.cells; obtain ⟨r0, r1, r2, r3, r4, r5, r6, r7, r8, r9, _⟩ := HN1.out.node;go_enter Tryz.func101, Tryz.ntmps101;go_wp2_with (first
  | (go_at_call 101; refine (HXa.out _ HN1.out.nw).mono ?_; rintro e w2 ⟨rfl, hn, hk⟩; have HN2 := Lib.hid (HN1.out.step hn hk); have HK2 := Lib.hid (HK1.out.trans hk); clear hn hk HXa; obtain ⟨⟨e0, e1, e2, e3, e5⟩, ef1, ef2, ef3⟩ := HN2.out.nw.cells; obtain ⟨t0, t1, t2, t3, t4, t5, t6, t7, t8, t9, _⟩ := HN2.out.node)
  | (go_at_call 101; refine (HXb.out _ HN2.out.nw).mono ?_; rintro e w3 ⟨rfl, hn, hk⟩; have HN3 := Lib.hid (HN2.out.step hn hk); have HK3 := Lib.hid (HK2.out.trans hk); clear hn hk HXb; obtain ⟨⟨f0, f1, f2, f3, f5⟩, ff1, ff2, ff3⟩ := HN3.out.nw.cells; obtain ⟨u0, u1, u2, u3, u4, u5, u6, u7, u8, u9, _⟩ := HN3.out.node))
 (all_goals go_end0);exact ⟨rfl, HN3.out.nw, HK3.out⟩
theorem num_6 (w0 w : World) (b0 o0 L c i : Nat) (s : NSt) (hi : (i : Int) < (L : Int)) (z : List Nat) (a : Nat) (b mn mx m : Int) (fa : NSt → NSt) (HXa : Hid (∀ w, NW w0 (.slice (some ⟨b0, o0, none⟩) L c) (s) w → Wlk w0 (.slice (some ⟨b0, o0, none⟩) L c) a fa (s) w)) (hN : NW w0 (.slice (some ⟨b0, o0, none⟩) L c) s w) (hq : NCell w b0 (o0 + i * 10) ⟨6, z, (a : Nat), b, mn, mx, m⟩) :
  Wlk w0 (.slice (some ⟨b0, o0, none⟩) L c) i (fun s => fa s) s w := by
 (have hi0 : (0 : Int) ≤ (i : Int) := by omega);have HN0 := Lib.hid hN;clear hN;obtain ⟨⟨c0, c1, c2, c3, c5⟩, cf1, cf2, cf3⟩ := HN0.out.cells;obtain ⟨q0, q1, q2, q3, q4, q5, q6, q7, q8, q9⟩ := hq;have HN1 := Lib.hid (NN.new HN0.out ⟨6, z, (a : Nat), b, mn, mx, m⟩);have HK1 := Lib.hid ((Kp.refl w0 w).alloc (.cells (NC ⟨6, z, (a : Nat), b, mn, mx, m⟩) 48));obtain ⟨⟨d0, d1, d2, d3, d5⟩, df1, df2, df3⟩ := HN1.out.nw.cells; obtain ⟨r0, r1, r2, r3, r4, r5, r6, r7, r8, r9, _⟩ := HN1.out.node;go_enter Tryz.func101, Tryz.ntmps101;go_wp2_with (go_at_call 101; refine (HXa.out _ HN1.out.nw).mono ?_; rintro e w2 ⟨rfl, hn, hk⟩; have HN2 := Lib.hid (HN1.out.step hn hk); have HK2 := Lib.hid (HK1.out.trans hk); clear hn hk HXa; obtain ⟨⟨e0, e1, e2, e3, e5⟩, ef1, ef2, ef3⟩ := HN2.out.nw.cells; obtain ⟨t0, t1, t2, t3, t4, t5, t6, t7, t8, t9, _⟩ := HN2.out.node);go_end0;exact ⟨rfl, HN2.out.nw, HK2.out⟩
theorem num_7f (w0 w : World) (b0 o0 L c i : Nat) (s : NSt) (hi : (i : Int) < (L : Int)) (z : List Nat) (a m : Nat) (b mn mx : Int) (fa : NSt → NSt) (hm10 : m < 10) (hg0 : 0 ≤ s.g) (hg1 : s.g ≤ 1000) (hok : s.ok = false) (HXa : Hid (∀ w, NW w0 (.slice (some ⟨b0, o0, none⟩) L c) (⟨s.g + 1, s.e, s.r, false⟩) w → Wlk w0 (.slice (some ⟨b0, o0, none⟩) L c) a fa (⟨s.g + 1, s.e, s.r, false⟩) w)) (hN : NW w0 (.slice (some ⟨b0, o0, none⟩) L c) s w) (hq : NCell w b0 (o0 + i * 10) ⟨7, z, (a : Nat), b, mn, mx, (m : Nat)⟩) :
  Wlk w0 (.slice (some ⟨b0, o0, none⟩) L c) i (fun s => ⟨(fa ⟨s.g + 1, s.e, s.r, false⟩).g, (fa ⟨s.g + 1, s.e, s.r, false⟩).e.set m true, (fa ⟨s.g + 1, s.e, s.r, false⟩).r, (fa ⟨s.g + 1, s.e, s.r, false⟩).ok⟩) s w := by
 (have hi0 : (0 : Int) ≤ (i : Int) := by omega);have HN0 := Lib.hid hN;clear hN;obtain ⟨⟨c0, c1, c2, c3, c5⟩, cf1, cf2, cf3⟩ := HN0.out.cells;obtain ⟨q0, q1, q2, q3, q4, q5, q6, q7, q8, q9⟩ := hq;(have hw1 : IntKind.i64.wrap (s.g + 1) = s.g + 1 := by rw [IntKind.wrap_i64]; omega);(have hm0 : (0 : Int) ≤ (m : Int) := by omega);(have hm10' : (m : Int) < 10 := by omega);have HN1 := Lib.hid (NN.new HN0.out ⟨7, z, (a : Nat), b, mn, mx, (m : Nat)⟩);have HK1 := Lib.hid ((Kp.refl w0 w).alloc (.cells (NC ⟨7, z, (a : Nat), b, mn, mx, (m : Nat)⟩) 48));obtain ⟨⟨d0, d1, d2, d3, d5⟩, df1, df2, df3⟩ := HN1.out.nw.cells; obtain ⟨r0, r1, r2, r3, r4, r5, r6, r7, r8, r9, _⟩ := HN1.out.node;have HN2 := Lib.hid (HN1.out.setG (s.g + 1));have HK2 := Lib.hid (HK1.out.set (k := w0.heap.size + 1) (by omega) 0 (E (s.g + 1)));obtain ⟨⟨e0, e1, e2, e3, e5⟩, ef1, ef2, ef3⟩ := HN2.out.nw.cells; obtain ⟨t0, t1, t2, t3, t4, t5, t6, t7, t8, t9, _⟩ := HN2.out.node;have HN3 := Lib.hid (HN2.out.setO false);have HK3 := Lib.hid (HK2.out.set (k := w0.heap.size + 3) (by omega) 0 (.bool false));obtain ⟨⟨f0, f1, f2, f3, f5⟩, ff1, ff2, ff3⟩ := HN3.out.nw.cells; obtain ⟨u0, u1, u2, u3, u4, u5, u6, u7, u8, u9, _⟩ := HN3.out.node;dsimp only at e0 e1 e2 e3 e5 f0 f1 f2 f3 f5;rw [hok] at c3 d3 e3;clear hok;go_enter Tryz.func101, Tryz.ntmps101;go_wp2_with (go_at_call 101; refine (HXa.out _ HN3.out.nw).mono ?_; rintro e w4 ⟨rfl, hn, hk⟩; have HN4 := Lib.hid (HN3.out.step hn hk); have HK4 := Lib.hid (HK3.out.trans hk); clear hn hk HXa; obtain ⟨⟨g0, g1, g2, g3, g5⟩, gf1, gf2, gf3⟩ := HN4.out.nw.cells; obtain ⟨v0, v1, v2, v3, v4, v5, v6, v7, v8, v9, _⟩ := HN4.out.node; obtain ⟨gc, gf⟩ := HN4.out.nw.ended hm10);go_end0;exact ⟨rfl, (HN4.out.setE m).nw, HK4.out.set (by omega) _ _⟩
theorem num_7t (w0 w : World) (b0 o0 L c i : Nat) (s : NSt) (hi : (i : Int) < (L : Int)) (z : List Nat) (a m : Nat) (b mn mx : Int) (fa : NSt → NSt) (hm10 : m < 10) (hg0 : 0 ≤ s.g) (hg1 : s.g ≤ 1000) (hok : s.ok = true) (hm : ((m : Int) == s.g + 1) = true) (HXa : Hid (∀ w, NW w0 (.slice (some ⟨b0, o0, none⟩) L c) (⟨s.g + 1, s.e, s.r, true⟩) w → Wlk w0 (.slice (some ⟨b0, o0, none⟩) L c) a fa (⟨s.g + 1, s.e, s.r, true⟩) w)) (hN : NW w0 (.slice (some ⟨b0, o0, none⟩) L c) s w) (hq : NCell w b0 (o0 + i * 10) ⟨7, z, (a : Nat), b, mn, mx, (m : Nat)⟩) :
  Wlk w0 (.slice (some ⟨b0, o0, none⟩) L c) i (fun s => ⟨(fa ⟨s.g + 1, s.e, s.r, true⟩).g, (fa ⟨s.g + 1, s.e, s.r, true⟩).e.set m true, (fa ⟨s.g + 1, s.e, s.r, true⟩).r, (fa ⟨s.g + 1, s.e, s.r, true⟩).ok⟩) s w := by
 (have hi0 : (0 : Int) ≤ (i : Int) := by omega);have HN0 := Lib.hid hN;clear hN;obtain ⟨⟨c0, c1, c2, c3, c5⟩, cf1, cf2, cf3⟩ := HN0.out.cells;obtain ⟨q0, q1, q2, q3, q4, q5, q6, q7, q8, q9⟩ := hq;(have hw1 : IntKind.i64.wrap (s.g + 1) = s.g + 1 := by rw [IntKind.wrap_i64]; omega);(have hm0 : (0 : Int) ≤ (m : Int) := by omega);(have hm10' : (m : Int) < 10 := by omega);have HN1 := Lib.hid (NN.new HN0.out ⟨7, z, (a : Nat), b, mn, mx, (m : Nat)⟩);have HK1 := Lib.hid ((Kp.refl w0 w).alloc (.cells (NC ⟨7, z, (a : Nat), b, mn, mx, (m : Nat)⟩) 48));obtain ⟨⟨d0, d1, d2, d3, d5⟩, df1, df2, df3⟩ := HN1.out.nw.cells; obtain ⟨r0, r1, r2, r3, r4, r5, r6, r7, r8, r9, _⟩ := HN1.out.node;have HN2 := Lib.hid (HN1.out.setG (s.g + 1));have HK2 := Lib.hid (HK1.out.set (k := w0.heap.size + 1) (by omega) 0 (E (s.g + 1)));obtain ⟨⟨e0, e1, e2, e3, e5⟩, ef1, ef2, ef3⟩ := HN2.out.nw.cells; obtain ⟨t0, t1, t2, t3, t4, t5, t6, t7, t8, t9, _⟩ := HN2.out.node;have HN3 := Lib.hid (HN2.out.setO true);have HK3 := Lib.hid (HK2.out.set (k := w0.heap.size + 3) (by omega) 0 (.bool true));obtain ⟨⟨f0, f1, f2, f3, f5⟩, ff1, ff2, ff3⟩ := HN3.out.nw.cells; obtain ⟨u0, u1, u2, u3, u4, u5, u6, u7, u8, u9, _⟩ := HN3.out.node;dsimp only at e0 e1 e2 e3 e5 f0 f1 f2 f3 f5;rw [hok] at c3 d3 e3;clear hok;go_enter Tryz.func101, Tryz.ntmps101;go_wp2_with (go_at_call 101; refine (HXa.out _ HN3.out.nw).mono ?_; rintro e w4 ⟨rfl, hn, hk⟩; have HN4 := Lib.hid (HN3.out.step hn hk); have HK4 := Lib.hid (HK3.out.trans hk); clear hn hk HXa; obtain ⟨⟨g0, g1, g2, g3, g5⟩, gf1, gf2, gf3⟩ := HN4.out.nw.cells; obtain ⟨v0, v1, v2, v3, v4, v5, v6, v7, v8, v9, _⟩ := HN4.out.node; obtain ⟨gc, gf⟩ := HN4.out.nw.ended hm10);go_end0;exact ⟨rfl, (HN4.out.setE m).nw, HK4.out.set (by omega) _ _⟩
theorem num_7n (w0 w : World) (b0 o0 L c i : Nat) (s : NSt) (hi : (i : Int) < (L : Int)) (z : List Nat) (a m : Nat) (b mn mx : Int) (fa : NSt → NSt) (hm10 : m < 10) (hg0 : 0 ≤ s.g) (hg1 : s.g ≤ 1000) (hok : s.ok = true) (hm : ((m : Int) == s.g + 1) = false) (HXa : Hid (∀ w, NW w0 (.slice (some ⟨b0, o0, none⟩) L c) (⟨s.g + 1, s.e, s.r, false⟩) w → Wlk w0 (.slice (some ⟨b0, o0, none⟩) L c) a fa (⟨s.g + 1, s.e, s.r, false⟩) w)) (hN : NW w0 (.slice (some ⟨b0, o0, none⟩) L c) s w) (hq : NCell w b0 (o0 + i * 10) ⟨7, z, (a : Nat), b, mn, mx, (m : Nat)⟩) :
  Wlk w0 (.slice (some ⟨b0, o0, none⟩) L c) i (fun s => ⟨(fa ⟨s.g + 1, s.e, s.r, false⟩).g, (fa ⟨s.g + 1, s.e, s.r, false⟩).e.set m true, (fa ⟨s.g + 1, s.e, s.r, false⟩).r, (fa ⟨s.g + 1, s.e, s.r, false⟩).ok⟩) s w := by
 (have hi0 : (0 : Int) ≤ (i : Int) := by omega);have HN0 := Lib.hid hN;clear hN;obtain ⟨⟨c0, c1, c2, c3, c5⟩, cf1, cf2, cf3⟩ := HN0.out.cells;obtain ⟨q0, q1, q2, q3, q4, q5, q6, q7, q8, q9⟩ := hq;(have hw1 : IntKind.i64.wrap (s.g + 1) = s.g + 1 := by rw [IntKind.wrap_i64]; omega);(have hm0 : (0 : Int) ≤ (m : Int) := by omega);(have hm10' : (m : Int) < 10 := by omega);have HN1 := Lib.hid (NN.new HN0.out ⟨7, z, (a : Nat), b, mn, mx, (m : Nat)⟩);have HK1 := Lib.hid ((Kp.refl w0 w).alloc (.cells (NC ⟨7, z, (a : Nat), b, mn, mx, (m : Nat)⟩) 48));obtain ⟨⟨d0, d1, d2, d3, d5⟩, df1, df2, df3⟩ := HN1.out.nw.cells; obtain ⟨r0, r1, r2, r3, r4, r5, r6, r7, r8, r9, _⟩ := HN1.out.node;have HN2 := Lib.hid (HN1.out.setG (s.g + 1));have HK2 := Lib.hid (HK1.out.set (k := w0.heap.size + 1) (by omega) 0 (E (s.g + 1)));obtain ⟨⟨e0, e1, e2, e3, e5⟩, ef1, ef2, ef3⟩ := HN2.out.nw.cells; obtain ⟨t0, t1, t2, t3, t4, t5, t6, t7, t8, t9, _⟩ := HN2.out.node;have HN3 := Lib.hid (HN2.out.setO false);have HK3 := Lib.hid (HK2.out.set (k := w0.heap.size + 3) (by omega) 0 (.bool false));obtain ⟨⟨f0, f1, f2, f3, f5⟩, ff1, ff2, ff3⟩ := HN3.out.nw.cells; obtain ⟨u0, u1, u2, u3, u4, u5, u6, u7, u8, u9, _⟩ := HN3.out.node;dsimp only at e0 e1 e2 e3 e5 f0 f1 f2 f3 f5;rw [hok] at c3 d3 e3;clear hok;go_enter Tryz.func101, Tryz.ntmps101;go_wp2_with (go_at_call 101; refine (HXa.out _ HN3.out.nw).mono ?_; rintro e w4 ⟨rfl, hn, hk⟩; have HN4 := Lib.hid (HN3.out.step hn hk); have HK4 := Lib.hid (HK3.out.trans hk); clear hn hk HXa; obtain ⟨⟨g0, g1, g2, g3, g5⟩, gf1, gf2, gf3⟩ := HN4.out.nw.cells; obtain ⟨v0, v1, v2, v3, v4, v5, v6, v7, v8, v9, _⟩ := HN4.out.node; obtain ⟨gc, gf⟩ := HN4.out.nw.ended hm10);go_end0;exact ⟨rfl, (HN4.out.setE m).nw, HK4.out.set (by omega) _ _⟩
theorem num_8f (w0 w : World) (b0 o0 L c i : Nat) (s : NSt) (hi : (i : Int) < (L : Int)) (z : List Nat) (m : Nat) (a b mn mx : Int) (hm10 : m < 10) (hok : s.ok = false) (hN : NW w0 (.slice (some ⟨b0, o0, none⟩) L c) s w) (hq : NCell w b0 (o0 + i * 10) ⟨8, z, a, b, mn, mx, (m : Nat)⟩) :
  Wlk w0 (.slice (some ⟨b0, o0, none⟩) L c) i (fun s => ⟨s.g, s.e, true, false⟩) s w := by
 (have hi0 : (0 : Int) ≤ (i : Int) := by omega);have HN0 := Lib.hid hN;clear hN;obtain ⟨⟨c0, c1, c2, c3, c5⟩, cf1, cf2, cf3⟩ := HN0.out.cells;obtain ⟨q0, q1, q2, q3, q4, q5, q6, q7, q8, q9⟩ := hq;(have hm0 : (0 : Int) ≤ (m : Int) := by omega);(have hm10' : (m : Int) < 10 := by omega);have HN1 := Lib.hid (NN.new HN0.out ⟨8, z, a, b, mn, mx, (m : Nat)⟩);have HK1 := Lib.hid ((Kp.refl w0 w).alloc (.cells (NC ⟨8, z, a, b, mn, mx, (m : Nat)⟩) 48));obtain ⟨⟨d0, d1, d2, d3, d5⟩, df1, df2, df3⟩ := HN1.out.nw.cells; obtain ⟨r0, r1, r2, r3, r4, r5, r6, r7, r8, r9, _⟩ := HN1.out.node;have HN2 := Lib.hid (HN1.out.setR true);have HK2 := Lib.hid (HK1.out.set (k := w0.heap.size + 2) (by omega) 0 (.bool true));obtain ⟨⟨e0, e1, e2, e3, e5⟩, ef1, ef2, ef3⟩ := HN2.out.nw.cells; obtain ⟨t0, t1, t2, t3, t4, t5, t6, t7, t8, t9, _⟩ := HN2.out.node;obtain ⟨gc, gf⟩ := HN2.out.nw.ended hm10;dsimp only at e0 e1 e2 e3 e5 gc;rw [hok] at c3 d3 e3;generalize hx : (s.e[m]?).getD false = x at gc;have HN3 := Lib.hid (HN2.out.setO false);have HK3 := Lib.hid (HK2.out.set (k := w0.heap.size + 3) (by omega) 0 (.bool false));clear hok;go_enter Tryz.func101, Tryz.ntmps101;go_wp2;go_end0;exact ⟨rfl, HN3.out.nw, HK3.out⟩
theorem num_8t (w0 w : World) (b0 o0 L c i : Nat) (s : NSt) (hi : (i : Int) < (L : Int)) (z : List Nat) (m : Nat) (a b mn mx : Int) (hm10 : m < 10) (hok : s.ok = true) (hN : NW w0 (.slice (some ⟨b0, o0, none⟩) L c) s w) (hq : NCell w b0 (o0 + i * 10) ⟨8, z, a, b, mn, mx, (m : Nat)⟩) :
  Wlk w0 (.slice (some ⟨b0, o0, none⟩) L c) i (fun s => ⟨s.g, s.e, true, ((s.e[m]?).getD false)⟩) s w := by
 (have hi0 : (0 : Int) ≤ (i : Int) := by omega);have HN0 := Lib.hid hN;clear hN;obtain ⟨⟨c0, c1, c2, c3, c5⟩, cf1, cf2, cf3⟩ := HN0.out.cells;obtain ⟨q0, q1, q2, q3, q4, q5, q6, q7, q8, q9⟩ := hq;(have hm0 : (0 : Int) ≤ (m : Int) := by omega);(have hm10' : (m : Int) < 10 := by omega);have HN1 := Lib.hid (NN.new HN0.out ⟨8, z, a, b, mn, mx, (m : Nat)⟩);have HK1 := Lib.hid ((Kp.refl w0 w).alloc (.cells (NC ⟨8, z, a, b, mn, mx, (m : Nat)⟩) 48));obtain ⟨⟨d0, d1, d2, d3, d5⟩, df1, df2, df3⟩ := HN1.out.nw.cells; obtain ⟨r0, r1, r2, r3, r4, r5, r6, r7, r8, r9, _⟩ := HN1.out.node;have HN2 := Lib.hid (HN1.out.setR true);have HK2 := Lib.hid (HK1.out.set (k := w0.heap.size + 2) (by omega) 0 (.bool true));obtain ⟨⟨e0, e1, e2, e3, e5⟩, ef1, ef2, ef3⟩ := HN2.out.nw.cells; obtain ⟨t0, t1, t2, t3, t4, t5, t6, t7, t8, t9, _⟩ := HN2.out.node;obtain ⟨gc, gf⟩ := HN2.out.nw.ended hm10;dsimp only at e0 e1 e2 e3 e5 gc;rw [hok] at c3 d3 e3;generalize hx : (s.e[m]?).getD false = x at gc;have HN3 := Lib.hid (HN2.out.setO x);have HK3 := Lib.hid (HK2.out.set (k := w0.heap.size + 3) (by omega) 0 (.bool x));clear hok;go_enter Tryz.func101, Tryz.ntmps101;go_wp2;go_end0;exact ⟨rfl, by subst hx; exact HN3.out.nw, HK3.out⟩
end Go.Proofs.YthpiapemjadgdaaGreatDoor.Rx
