/- The texts SlA RxFmt RxPu RxC. -/
import Derived.Laws.Bits128
import Derived.RangeFuncNested
import Derived.RangeFuncBound
import Derived.RangeFuncCalls
import Derived.RangeFuncLeaves
import Derived.Shelf.Abstract
import Derived.Shelf.RegionOpen
import Derived.OwnWalkIn
import Derived.TacticsInMore
import Derived.LoopNIn
import Derived.LoopIn
import Derived.Shelf.Spec.TrailingZeros
import Derived.OwnWalk
import Derived.Lib.SmallJoins
import Derived.Test.YtlicoffnjphphaaGreatDoorPk01
import Derived.Test.YtlicoffnjphphaaGreatDoorPk06
import Derived.Test.YtlicoffnjphphaaGreatDoorPk07
set_option linter.unusedVariables false
set_option linter.unusedSimpArgs false
namespace Go.Proofs.YtlicoffnjphphaaGreatDoor.St
open Go.RowKit
theorem has_bits {ws : List Nat} (h : Wf ws) (b : Nat) : (bits BinOp.and IntKind.u64 ((word ws (b / 64) : Int) / 2 ^ (b % 64)) 1 == 1) = mem ws b := by
  have hx := word_lt h (b / 64)
  generalize hxe : word ws (b / 64) = x at *
  have e1 : ((x : Int) / 2 ^ (b % 64)) = ((x / 2 ^ (b % 64) : Nat) : Int) := by simp
  have h2 : x / 2 ^ (b % 64) < 18446744073709551616 := Nat.lt_of_le_of_lt (Nat.div_le_self _ _) hx
  rw [e1, show (1 : Int) = ((1 : Nat) : Int) from rfl, u64_and_nat _ _ h2 (by decide), nat_mask1]
  unfold mem
  rw [Nat.testBit_eq_decide_div_mod_eq]
  rw [show word ws (b / 64) = x from hxe]
  generalize x / 2 ^ (b % 64) = t
  rw [Bool.eq_iff_iff]
  simp only [beq_iff_eq, decide_eq_true_eq]
  omega
theorem two_new (w : World) (a b : Obj) : ((w.alloc a).alloc b).heap[w.heap.size]? = some a ∧ ((w.alloc a).alloc b).heap[w.heap.size + 1]? = some b := by
  have hs : (w.alloc a).heap.size = w.heap.size + 1 := by show (w.heap.push a).size = _; simp
  refine ⟨?_, ?_⟩
  · rw [@heap_alloc_old _ _ _ (by rw [hs]; exact Nat.lt_succ_self _)]; exact heap_alloc_new w a
  · rw [← hs]; exact heap_alloc_new _ b
/-- Four words are put in a block. -/
def put4 (w : World) (b : Nat) (vs : List Nat) : World :=
  ((((w.setCell ⟨b, 0, none⟩ (.int .u64 (word vs 0 : Int))).setCell ⟨b, 1, none⟩ (.int .u64 (word vs 1 : Int))).setCell ⟨b, 2, none⟩ (.int .u64 (word vs 2 : Int))).setCell ⟨b, 3, none⟩ (.int .u64 (word vs 3 : Int)))
theorem put4_eq (w : World) (b : Nat) (vs : List Nat) : ((((w.setCell ⟨b, 0, none⟩ (.int .u64 (word vs 0 : Int))).setCell ⟨b, 1, none⟩ (.int .u64 (word vs 1 : Int))).setCell ⟨b, 2, none⟩ (.int .u64 (word vs 2 : Int))).setCell ⟨b, 3, none⟩ (.int .u64 (word vs 3 : Int))) = put4 w b vs := rfl
theorem SB.put {w : World} {b : Nat} {zs vs : List Nat} (h : SB w b zs) (hz : Wf zs) (hv : Wf vs) : SB (put4 w b vs) b vs := by
  have hq : (((zs.set 0 (word vs 0)).set 1 (word vs 1)).set 2 (word vs 2)).set 3 (word vs 3) = vs := by
    obtain ⟨hl, _⟩ := hz
    obtain ⟨hl', _⟩ := hv
    match zs, vs, hl, hl' with
    | [_, _, _, _], [_, _, _, _], _, _ => rfl
  have e := SB.set (SB.set (SB.set (SB.set h 0 (word vs 0)) 1 (word vs 1)) 2 (word vs 2)) 3 (word vs 3)
  rw [hq] at e
  unfold put4
  exact e
theorem put4_below {B : Nat} {w0 w : World} {b : Nat} (h : Below B w0 w) (hb : B ≤ b) (vs : List Nat) : Below B w0 (put4 w b vs) := below_again h hb _ _ _ _
/-- The sets of a list lie in a block. -/
def Ls (w : World) (b : Nat) (l : List (List Nat)) : Prop := ∀ k (h : k < l.length), ∀ j, j < 4 → w.cell? ⟨b, k * 4 + j, none⟩ = some (.int .u64 (word l[k] j : Int))
theorem wc_eq {ws : List Nat} (h : Wf ws) : wc ws = #[.int .u64 (word ws 0 : Int), .int .u64 (word ws 1 : Int), .int .u64 (word ws 2 : Int), .int .u64 (word ws 3 : Int)] := by
  obtain ⟨hl, _⟩ := h
  match ws, hl with
  | [a, b, c, d], _ => rfl
set_option maxHeartbeats 400000 in
theorem or_any (l : List (List Nat)) (bk : Nat) (w : World) (h : ∀ v ∈ l, Wf v) (hl : l.length ≤ 4) (hb : bk < w.heap.size) (hc : Ls w bk l) :
    Calls Tryz.prog 82 #[.slice (some ⟨bk, 0, none⟩) l.length l.length] w fun e w' => e = .returned (SV (orL l)) ∧ Below w.heap.size w w' := by
  go_enter Tryz.func82, Tryz.ntmps82
  go_wp2
  go_loopw [4, 5, 8] (fun _ _ i wr => ∃ k : Nat, k ≤ l.length ∧ i = .int .i64 (k : Int) ∧ SB wr w.heap.size (orL (l.take k)) ∧ Below w.heap.size w wr) (fun _ _ i _ => l.length - (intOf i).toNat)
  case atStart => exact ⟨0, Nat.zero_le _, rfl, heap_alloc_new w _, (Below.refl _ w).alloc (Nat.le_refl _) _⟩
  case round =>
    obtain ⟨k, hk, rfl, hS, hB⟩ := hrel
    have hw := wf_orL (l := l.take k) (fun v hv => h v (List.mem_of_mem_take hv))
    by_cases hlt : k < l.length
    · have hv := h l[k] (List.getElem_mem hlt)
      have HSN := Lib.hid (show orL (l.take (k + 1)) = or2 (orL (l.take k)) l[k] by unfold orL; rw [List.take_succ_eq_append_getElem hlt, List.foldl_append]; rfl)
      have d0 := (hB.cell (p := ⟨bk, k * 4, none⟩) hb).trans (hc k hlt 0 (by omega))
      have d1 := (hB.cell (p := ⟨bk, k * 4 + 1, none⟩) hb).trans (hc k hlt 1 (by omega))
      have d2 := (hB.cell (p := ⟨bk, k * 4 + 2, none⟩) hb).trans (hc k hlt 2 (by omega))
      have d3 := (hB.cell (p := ⟨bk, k * 4 + 3, none⟩) hb).trans (hc k hlt 3 (by omega))
      have HL := Lib.hid (show w.heap.size < wr.heap.size from (Array.getElem?_eq_some_iff.1 hS).1)
      have hI : (k : Int) < (l.length : Int) := by omega
      generalize orL (l.take k) = ws at *
      generalize hvs : l[k] = vs at *
      clear hvs hc
      go_wp2
      go_loopw [5, 12] (fun _ i wv => ∃ j : Nat, j ≤ 4 ∧ i = .int .i64 (j : Int) ∧ SB wv w.heap.size (orK ws vs j) ∧ SB wv wr.heap.size vs ∧ Below w.heap.size w wv) (fun _ i _ => 4 - (intOf i).toNat)
      case atStart =>
        refine ⟨0, Nat.zero_le _, rfl, ?_, ?_, hB.alloc hB.size _⟩
        · exact (@heap_alloc_old _ _ _ HL.out).trans hS
        · show (wr.alloc _).heap[wr.heap.size]? = some (.cells (wc vs) _ _)
          rw [heap_alloc_new, wc_eq hv]
      case round =>
        clear hS d0 d1 d2 d3
        obtain ⟨j, hj, rfl, hS, hV, hB'⟩ := hrel
        have hwj := (orK_spec hw hv j hj).1
        have HSJ := Lib.hid (show orK ws vs (j + 1) = (orK ws vs j).set j (word (orK ws vs j) j ||| word vs j) from rfl)
        have HO4 := Lib.hid (orK_four hw hv)
        by_cases hjl : j < 4
        · have c1 := hS.cell hwj hjl
          have f1 := Lib.frozen_of_heap hS j
          have c2 := SB.cell hV hv hjl
          have hx := u64_or_nat _ _ (word_lt hwj j) (word_lt hv j)
          have hJ : (j : Int) < 4 := by omega
          have hj' : ((j : Int)).toNat < 4 := hjl
          generalize hq : orK ws vs j = qs at *
          clear hq
          go_wp2
          go_region
          go_wp2
          go_roundw
          case rel => exact ⟨j + 1, by omega, by go_num, by rw [HSJ.out]; exact (SB.set hS _ _).drew, (heap_set_other hV (Nat.ne_of_lt HL.out) _ _), (hB'.setCell (Nat.le_refl _) _).drew⟩
          case measure => simp [intOf]; omega
        · obtain rfl : j = 4 := by omega
          have HS := Lib.hid hS
          clear hS hV hB
          go_wp2
          go_roundw
          case rel => exact ⟨k + 1, by omega, by go_num, by rw [HSN.out, ← HO4.out]; exact HS.out, hB'⟩
          case measure => simp [intOf]; omega
    · obtain rfl : k = l.length := by omega
      rw [List.take_of_length_le (Nat.le_refl _)] at *
      generalize hws : orL l = WS at *
      have HWS := Lib.hid hws
      clear hws
      have g0 := hS.cell hw (i := 0) (by omega)
      have g1 := hS.cell hw (i := 1) (by omega)
      have g2 := hS.cell hw (i := 2) (by omega)
      have g3 := hS.cell hw (i := 3) (by omega)
      have f0 := Lib.frozen_of_heap hS 0
      have f1 := Lib.frozen_of_heap hS 1
      have f2 := Lib.frozen_of_heap hS 2
      have f3 := Lib.frozen_of_heap hS 3
      have HSV := Lib.hid (SV_eq hw)
      have hS4 := hS.put hw hw
      have hB4 := put4_below hB (Nat.le_refl _) WS
      clear hS
      go_wp2
      rw [put4_eq]
      generalize put4 wr w.heap.size WS = W at *
      have k0 := hS4.cell hw (i := 0) (by omega)
      have k1 := hS4.cell hw (i := 1) (by omega)
      have k2 := hS4.cell hw (i := 2) (by omega)
      have k3 := hS4.cell hw (i := 3) (by omega)
      exact bodyPost_ret (v := SV WS) (by rw [HSV.out]; simp [results, Tryz.results82, go_sem, k0, k1, k2, k3]) rfl ⟨by rw [HWS.out], hB4⟩
theorem idx_run (a b c d : Value) (w : World) : 
    (Instr.index 53 (.agg #[a, b, c, d]) (.int .i64 0)).run Tryz.prog w = .ok a w ∧ (Instr.index 53 (.agg #[a, b, c, d]) (.int .i64 1)).run Tryz.prog w = .ok b w ∧ (Instr.index 53 (.agg #[a, b, c, d]) (.int .i64 2)).run Tryz.prog w = .ok c w ∧ (Instr.index 53 (.agg #[a, b, c, d]) (.int .i64 3)).run Tryz.prog w = .ok d w := ⟨by kernel_rfl, by kernel_rfl, by kernel_rfl, by kernel_rfl⟩
theorem idx_word (ws : List Nat) {k : Nat} (hk : k < 4) (w : World) : (Instr.index 53 (.agg #[.int .u64 (word ws 0 : Int), .int .u64 (word ws 1 : Int), .int .u64 (word ws 2 : Int), .int .u64 (word ws 3 : Int)]) (.int .i64 (k : Int))).run Tryz.prog w = .ok (.int .u64 (word ws k : Int)) w := by
  obtain ⟨h0, h1, h2, h3⟩ := idx_run (.int .u64 (word ws 0 : Int)) (.int .u64 (word ws 1 : Int)) (.int .u64 (word ws 2 : Int)) (.int .u64 (word ws 3 : Int)) w
  match k, hk with
  | 0, _ => exact h0
  | 1, _ => exact h1
  | 2, _ => exact h2
  | 3, _ => exact h3
open Go.RowKit Go.Shelf
attribute [local go_sem] Oper.semAt_some
/-- The library's table lies in its variable. -/
def Tab (w : World) : Prop := TabAt 0 Lib.deBruijn64tab w
theorem Tab.below {w w' : World} (h : Tab w) {B : Nat} (hb : Below B w w') (hB : 0 < B) : Tab w' := fun j hj => (hb.cell (p := ⟨0, j, none⟩) hB).trans (h j hj)
set_option maxHeartbeats 400000 in
theorem tz_core (x k idx : Nat) (w : World) (hx0 : ((x : Int) == 0) = false)
    (key : IntKind.u64.wrap (bits BinOp.and IntKind.u64 (x : Int) (IntKind.u64.wrap (-(x : Int))) * 285870213051353865) / 288230376151711744 = (idx : Int))
    (hi : idx < 64) (hk : k < 64) (hcell : w.cell? ⟨0, idx, none⟩ = some (.int .u8 k)) :
    Calls Tryz.prog 110 #[.int .u64 x] w fun e w' => e = .returned (.int .i64 k) ∧ w' = w := by
  go_enter Tryz.func110, Tryz.ntmps110
  go_wp2_with (simp only [key])
  go_ret
  exact ⟨rfl, rfl⟩
theorem tz_any (x : Nat) (hx : x < 18446744073709551616) (hx0 : x ≠ 0) (w : World) (hT : Tab w) :
    Calls Tryz.prog 110 #[.int .u64 x] w fun e w' => e = .returned (.int .i64 (Lib.ctz 64 x : Int)) ∧ w' = w := by
  obtain ⟨hlow, hk⟩ := Lib.lowest_bit 64 x hx0 hx
  obtain ⟨hi, htab⟩ := Lib.deBruijn64_at _ hk
  have hcell := hT _ hi
  rw [htab] at hcell
  exact tz_core x _ _ w (by simp; omega) (tz64_key x _ hx hx0 hlow) hi hk hcell
theorem all_any (ws : List Nat) (w : World) (h : Wf ws) :
    Calls Tryz.prog 91 #[SV ws] w fun e w' => e = .returned (.func (.func 109) #[] #[.pointer (some ⟨w.heap.size, 0, none⟩)]) ∧ w' = w.alloc (.cells (wc ws) 53) := by
  go_enter Tryz.func91, Tryz.ntmps91
  go_wp2
  go_ret
  exact ⟨rfl, rfl⟩
end Go.Proofs.YtlicoffnjphphaaGreatDoor.St
namespace Go.Proofs.YtlicoffnjphphaaGreatDoor.Rx
open Go.RowKit Go.Shelf
open Go.Proofs.YtlicoffnjphphaaGreatDoor.St (Tab tz_any)
abbrev Y (n : Nat) : Value := .int .u8 (n : Int)
theorem zero_65 : (∀ w, (zeroValue 193).run Tryz.prog w = .ok (.agg (Array.replicate 65 (Y 0))) w) ∧ (Tryz.prog.info? 193).map (·.size) = some 65 :=
  zero_of_info (P := Tryz.prog) (t := 193) (v := .agg (Array.replicate 65 (Y 0))) (n := 65) (by kernel_rfl)
theorem hex_at : ∀ j : Nat, j < 16 → ∀ h, ((⟨#[48, 49, 50, 51, 52, 53, 54, 55, 56, 57, 97, 98, 99, 100, 101, 102, 103, 104, 105, 106, 107, 108, 109, 110, 111, 112, 113, 114, 115, 116, 117, 118, 119, 120, 121, 122]⟩ : ByteArray)[j]'h) = hexd j := by decide
theorem conv_at (row : Array Value) (o : Nat) (l : List UInt8) (hl : ∀ j (hj : j < l.length), row[o + j]? = some (.int .u8 (l[j].toNat : Int))) (w : World) (n c : Nat) (hn : n = l.length) :
    (convert 107 9 (.slice (some ⟨w.heap.size, o, none⟩) n c)).run Tryz.prog (w.alloc (.cells row 193)) = .ok (S l) (w.alloc (.cells row 193)) := by
  subst hn
  exact run_convert_bytes_back (P := Tryz.prog) _ 107 9 5 ⟨w.heap.size, o, none⟩ c l Tryz.underlying107 Tryz.underlying5 Tryz.underlying9 (by
    intro j hj
    rw [Addr.add_lit, Lib.cell_of_heap (heap_alloc_new w _)]
    exact hl j hj)
theorem tz16 (w : World) (hT : Tab w) : Calls Tryz.prog 110 #[.int .u64 16] w fun e w' => e = .returned (.int .i64 4) ∧ w = w' := by
  have h := tz_any 16 (by decide) (by decide) w hT
  refine h.mono ?_
  rintro e w' ⟨rfl, rfl⟩
  exact ⟨by rw [show Lib.ctz 64 16 = 4 from by decide]; rfl, rfl⟩
set_option maxRecDepth 100000 in
set_option maxHeartbeats 1600000 in
theorem fmtBits16 (u : Nat) (hu : u < 16) (w : World) (hT : Tab w) (hg : 0 < w.heap.size) :
    Calls Tryz.prog 114 #[.slice none 0 0, .int .u64 u, E 16, .bool false, .bool false] w fun e w' => e = .returned (.tuple #[.slice none 0 0, S [hexd u]]) ∧ Below w.heap.size w w' := by
  have hz := zero_65.1
  have hsz := zero_65.2
  have HT := Lib.hid (hT.below ((Below.refl w.heap.size w).alloc (Nat.le_refl _) (.cells (Array.replicate 65 (Y 0)) 193)) hg)
  have hp2 : (bits BinOp.and IntKind.i64 16 15 == 0) = true := by decide
  have hd1 := hex_at u hu
  have hcv := conv_at ((Array.replicate 65 (Y 0)).setIfInBounds 64 (.int .u8 ((hexd u).toNat : Int))) 64 [hexd u] (by
    intro j hj
    obtain rfl : j = 0 := by simpa using hj
    rw [Array.getElem?_setIfInBounds_self_of_lt (by simp)]; rfl) w 1 1 rfl
  go_enter Tryz.func114, Tryz.ntmps114
  go_wp2_with (first | (go_at_call 110; refine (tz16 _ HT.out).mono ?_; rintro e w' ⟨rfl, rfl⟩) | go_in)
  go_rounds 1
  go_ret2
  exact ⟨rfl, (Below.refl w.heap.size w).alloc (Nat.le_refl _) _⟩
theorem ifmt16 (u : Nat) (hu : u < 16) (w : World) (hT : Tab w) (hg : 0 < w.heap.size) :
    Calls Tryz.prog 92 #[.int .u64 u, E 16] w fun e w' => e = .returned (S [hexd u]) ∧ Below w.heap.size w w' := by
  have HC := Lib.hid (fmtBits16 u hu w hT hg)
  clear hT hg
  go_enter Tryz.func92, Tryz.ntmps92
  go_wp2_with (go_at_call 114; refine HC.out.mono ?_; rintro e w1 ⟨rfl, hb⟩; have HB := Lib.hid hb; clear hb)
  go_ret
  exact ⟨rfl, HB.out⟩
theorem fmt16 (u : Nat) (hu : u < 16) (w : World) (hT : Tab w) (hg : 0 < w.heap.size) :
    Calls Tryz.prog 66 #[.int .u64 u, E 16] w fun e w' => e = .returned (S [hexd u]) ∧ Below w.heap.size w w' := by
  have HC := Lib.hid (ifmt16 u hu w hT hg)
  clear hT hg
  go_enter Tryz.func66, Tryz.ntmps66
  go_wp2_with (go_at_call 92; refine HC.out.mono ?_; rintro e w1 ⟨rfl, hb⟩; have HB := Lib.hid hb; clear hb)
  go_ret
  exact ⟨rfl, HB.out⟩
abbrev SE (n : Int) : Value := .iface 178 (.int .i64 n)
theorem bytes_cell (w : World) (t : List UInt8) (cap : Nat) (fz : Nat × Nat) (j : Nat) (hj : j < t.length) :
    (w.alloc (.cells (bytesRow ⟨t.toArray⟩ cap) 5 fz)).cell? ⟨w.heap.size, j, none⟩ = some (.int .u8 (t[j].toNat : Int)) := by
  rw [Lib.cell_of_heap (heap_alloc_new w _)]
  unfold bytesRow
  rw [Array.getElem?_append_left (by simpa using hj)]
  simp [List.getElem?_eq_getElem hj]
def hexN (c : Nat) : Option Nat := if 48 ≤ c ∧ c ≤ 57 then some (c - 48) else if 97 ≤ c ∧ c ≤ 102 then some (c - 87) else if 65 ≤ c ∧ c ≤ 70 then some (c - 55) else none
def hexL (acc : Nat) : List UInt8 → Option Nat
  | [] => some acc
  | c :: r => match hexV c with
    | some v => hexL (acc * 16 + v) r
    | none => none
theorem hex_drop {t : List UInt8} {k : Nat} (h : k < t.length) (acc : Nat) : hexL acc (t.drop k) = match hexN t[k].toNat with
    | some v => hexL (acc * 16 + v) (t.drop (k + 1))
    | none => none := by
  rw [List.drop_eq_getElem_cons h]; rfl
theorem low_letter : ∀ c : Nat, c < 256 → 0 ≤ bits .or .u8 (c : Int) 32 ∧ bits .or .u8 (c : Int) 32 ≤ 255 := by decide +kernel
theorem low_hex : ∀ c : Nat, c < 256 → ¬ (48 ≤ c ∧ c ≤ 57) → (97 ≤ (bits .or .u8 (c : Int) 32).toNat ∧ (bits .or .u8 (c : Int) 32).toNat ≤ 102 → hexN c = some ((bits .or .u8 (c : Int) 32).toNat - 97 + 10)) ∧ (¬ (97 ≤ (bits .or .u8 (c : Int) 32).toNat ∧ (bits .or .u8 (c : Int) 32).toNat ≤ 102) → hexN c = none) := by decide +kernel
/-- What ParseUint answers to the base 16, for 8 bits. -/
def Par (t : List UInt8) (e : Ending) : Prop :=
  (∃ x : Nat, hexL 0 t = some x ∧ e = .returned (.tuple #[.int .u64 x, .nilIface])) ∨ (hexL 0 t = none ∧ e = .returned (.tuple #[.int .u64 0, SE 2]))
set_option maxRecDepth 100000 in
set_option maxHeartbeats 3200000 in
theorem parse16_any (t : List UInt8) (h1 : 1 ≤ t.length) (h2 : t.length ≤ 2) (w : World) :
    Calls Tryz.prog 103 #[S t, E 16, E 8] w fun e w' =>
      Par t e ∧ Below w.heap.size w w' := by
  have hne : (t == []) = false := by cases t with | nil => simp at h1 | cons => rfl
  have hcv := run_bytes_of_string (P := Tryz.prog) w 9 107 5 ⟨t.toArray⟩ Tryz.underlying9 Tryz.underlying107 Tryz.underlying5
  have hsz : (ByteArray.mk t.toArray).size = t.length := by simp [ByteArray.size]
  rw [hsz] at hcv
  generalize grownCap w t.length 0 5 = gc at hcv
  have HC := Lib.hid (bytes_cell w t gc ((bytesRow ⟨t.toArray⟩ gc).size, (bytesRow ⟨t.toArray⟩ gc).size + 1))
  have HB := Lib.hid ((Below.refl w.heap.size w).alloc (Nat.le_refl _) (.cells (bytesRow ⟨t.toArray⟩ gc) 5 ((bytesRow ⟨t.toArray⟩ gc).size, (bytesRow ⟨t.toArray⟩ gc).size + 1))).drew
  generalize Obj.cells (bytesRow ⟨t.toArray⟩ gc) 5 ((bytesRow ⟨t.toArray⟩ gc).size, (bytesRow ⟨t.toArray⟩ gc).size + 1) = ob at *
  go_enter Tryz.func103, Tryz.ntmps103
  go_wp2
  go_loop [12, 13, 101] (fun un n i => ∃ k acc : Nat, k ≤ t.length ∧ un = .bool false ∧ i = .int .i64 (k : Nat) ∧ n = .int .u64 (acc : Nat) ∧ Hid (k = 0 ∧ acc = 0 ∨ k = 1 ∧ acc ≤ 15 ∨ k = 2 ∧ acc ≤ 255) ∧ Hid (hexL 0 t = hexL acc (t.drop k))) (fun _ _ i => t.length - (intOf i).toNat)
  case atStart => exact ⟨0, 0, Nat.zero_le _, rfl, rfl, rfl, Lib.hid (Or.inl ⟨rfl, rfl⟩), Lib.hid (by simp)⟩
  case round =>
    obtain ⟨k, acc, hk, rfl, rfl, rfl, HACC, HR⟩ := hrel
    by_cases hlt : k < t.length
    · have hacc : acc ≤ 15 := by rcases HACC.out with ⟨_, h⟩ | ⟨_, h⟩ | ⟨h, _⟩ <;> omega
      have hcell := HC.out k hlt
      have OD := Lib.hid (hex_drop hlt acc)
      have hcb := UInt8.toNat_lt t[k]
      clear HC
      generalize t[k].toNat = c at *
      have HL := Lib.hid (low_letter c hcb)
      have hcut : ¬ (1152921504606846976 : Int) ≤ ((acc : Nat) : Int) := by omega
      by_cases hd : 48 ≤ c ∧ c ≤ 57
      · have d1 : (48 : Int) ≤ c := by omega
        have d2 : (c : Int) ≤ 57 := by omega
        have d3 : ((c : Int) - 48) = ((c - 48 : Nat) : Int) := by omega
        have d4 : ¬ (16 : Int) ≤ ((c - 48 : Nat) : Int) := by omega
        have HO := Lib.hid (show hexL 0 t = hexL (acc * 16 + (c - 48)) (t.drop (k + 1)) from by rw [HR.out, OD.out, show hexN c = some (c - 48) from if_pos hd])
        have s1 : ((acc : Nat) : Int) * 16 + ((c - 48 : Nat) : Int) ≤ 255 := by omega
        have hd9 : c - 48 ≤ 15 := by omega
        generalize c - 48 = d at *
        clear hd OD HR
        go_wp2
        go_round
        case rel => exact ⟨k + 1, acc * 16 + d, by omega, rfl, by go_num, by go_num, Lib.hid (by rcases HACC.out with ⟨h, h'⟩ | ⟨h, h'⟩ | ⟨h, h'⟩ <;> omega), HO⟩
        case measure => simp [intOf]; omega
      · have HLX := Lib.hid (low_hex c hcb hd)
        obtain ⟨l, hl⟩ : ∃ l : Nat, bits .or .u8 (c : Int) 32 = (l : Int) := ⟨(bits .or .u8 (c : Int) 32).toNat, by have := HL.out; omega⟩
        have hl255 : l ≤ 255 := by have := HL.out.2; omega
        have HLX2 : Hid ((97 ≤ l ∧ l ≤ 102 → hexN c = some (l - 97 + 10)) ∧ (¬ (97 ≤ l ∧ l ≤ 102) → hexN c = none)) := Lib.hid (by have := HLX.out; rw [hl] at this; exact this)
        have HLOW := Lib.hid (show ∀ w, Calls Tryz.prog 120 #[.int .u8 (c : Int)] w fun e w' => e = .returned (Y l) ∧ w' = w from fun w => by
          have := Tryz.internal_strconv_lower (c : Int) w
          rw [hl] at this
          exact this)
        clear hl HL HLX
        cases e95 : (((c : Nat) : Int) == 95)
        · by_cases d48 : 48 ≤ c
          · have d1 : (48 : Int) ≤ c := by omega
            have d2 : ¬ (c : Int) ≤ 57 := by omega
            clear hd
            by_cases l97 : 97 ≤ l
            · have l1 : (97 : Int) ≤ l := by omega
              by_cases l102 : l ≤ 102
              · have HO := Lib.hid (show hexL 0 t = hexL (acc * 16 + (l - 97 + 10)) (t.drop (k + 1)) from by rw [HR.out, OD.out, HLX2.out.1 ⟨l97, l102⟩])
                have l2 : (l : Int) ≤ 122 := by omega
                have l4 : ¬ (16 : Int) ≤ (l : Int) - 97 + 10 := by omega
                have s1 : ((acc : Nat) : Int) * 16 + ((l : Int) - 97 + 10) ≤ 255 := by omega
                have hcutB : decide ((1152921504606846976 : Int) ≤ ((acc : Nat) : Int)) = false := decide_eq_false hcut
                have HD15 := Lib.hid (show l - 97 + 10 ≤ 15 by omega)
                have HL97 := Lib.hid (And.intro l97 hacc)
                clear OD HR HLX2 l97 l102 hcut
                go_wp2_with (go_at_call 120; refine (HLOW.out _).mono ?_; rintro e w' ⟨rfl, rfl⟩; (try clear hcell); (try clear d1); (try clear d2); (try clear e95); (try clear hcb); (try clear hl255); (try clear hcv); (try clear hacc); (try clear hd9))
                go_round
                case rel => exact ⟨k + 1, acc * 16 + (l - 97 + 10), by omega, rfl, by go_num, congrArg (Value.int .u64) (by have := HL97.out; omega), Lib.hid (by have h5 := HD15.out; have h6 := HL97.out; rcases HACC.out with ⟨h, h'⟩ | ⟨h, h'⟩ | ⟨h, h'⟩ <;> omega), HO⟩
                case measure => simp [intOf]; omega
              · have HO := Lib.hid (show hexL 0 t = none from by rw [HR.out, OD.out, HLX2.out.2 (fun q => l102 q.2)])
                clear OD HR HLX2
                by_cases l122 : l ≤ 122
                · have l2 : (l : Int) ≤ 122 := by omega
                  have l4 : (16 : Int) ≤ (l : Int) - 97 + 10 := by omega
                  go_wp2_with (go_at_call 120; refine (HLOW.out _).mono ?_; rintro e w' ⟨rfl, rfl⟩; (try clear hcell); (try clear d1); (try clear d2); (try clear e95); (try clear hcb); (try clear hcut); (try clear hacc); (try clear hk); (try clear hl255); (try clear hcv))
                  go_ret2
                  exact ⟨Or.inr ⟨HO.out, rfl⟩, HB.out⟩
                · have l2 : ¬ (l : Int) ≤ 122 := by omega
                  go_wp2_with (go_at_call 120; refine (HLOW.out _).mono ?_; rintro e w' ⟨rfl, rfl⟩; (try clear hcell); (try clear d1); (try clear d2); (try clear e95); (try clear hcb); (try clear hcut); (try clear hacc); (try clear hk); (try clear hl255); (try clear hcv))
                  go_ret2
                  exact ⟨Or.inr ⟨HO.out, rfl⟩, HB.out⟩
            · have l1 : ¬ (97 : Int) ≤ l := by omega
              have HO := Lib.hid (show hexL 0 t = none from by rw [HR.out, OD.out, HLX2.out.2 (fun q => l97 q.1)])
              clear OD HR HLX2
              go_wp2_with (go_at_call 120; refine (HLOW.out _).mono ?_; rintro e w' ⟨rfl, rfl⟩; (try clear hcell); (try clear d1); (try clear d2); (try clear e95); (try clear hcb); (try clear hcut); (try clear hacc); (try clear hk); (try clear hl255); (try clear hcv))
              go_ret2
              exact ⟨Or.inr ⟨HO.out, rfl⟩, HB.out⟩
          · have d1 : ¬ (48 : Int) ≤ c := by omega
            clear hd
            by_cases l97 : 97 ≤ l
            · have l1 : (97 : Int) ≤ l := by omega
              by_cases l102 : l ≤ 102
              · have HO := Lib.hid (show hexL 0 t = hexL (acc * 16 + (l - 97 + 10)) (t.drop (k + 1)) from by rw [HR.out, OD.out, HLX2.out.1 ⟨l97, l102⟩])
                have l2 : (l : Int) ≤ 122 := by omega
                have l4 : ¬ (16 : Int) ≤ (l : Int) - 97 + 10 := by omega
                have s1 : ((acc : Nat) : Int) * 16 + ((l : Int) - 97 + 10) ≤ 255 := by omega
                have hcutB : decide ((1152921504606846976 : Int) ≤ ((acc : Nat) : Int)) = false := decide_eq_false hcut
                have HD15 := Lib.hid (show l - 97 + 10 ≤ 15 by omega)
                have HL97 := Lib.hid (And.intro l97 hacc)
                clear OD HR HLX2 l97 l102 hcut
                go_wp2_with (go_at_call 120; refine (HLOW.out _).mono ?_; rintro e w' ⟨rfl, rfl⟩; (try clear hcell); (try clear d1); (try clear d2); (try clear e95); (try clear hcb); (try clear hl255); (try clear hcv); (try clear hacc); (try clear hd9))
                go_round
                case rel => exact ⟨k + 1, acc * 16 + (l - 97 + 10), by omega, rfl, by go_num, congrArg (Value.int .u64) (by have := HL97.out; omega), Lib.hid (by have h5 := HD15.out; have h6 := HL97.out; rcases HACC.out with ⟨h, h'⟩ | ⟨h, h'⟩ | ⟨h, h'⟩ <;> omega), HO⟩
                case measure => simp [intOf]; omega
              · have HO := Lib.hid (show hexL 0 t = none from by rw [HR.out, OD.out, HLX2.out.2 (fun q => l102 q.2)])
                clear OD HR HLX2
                by_cases l122 : l ≤ 122
                · have l2 : (l : Int) ≤ 122 := by omega
                  have l4 : (16 : Int) ≤ (l : Int) - 97 + 10 := by omega
                  go_wp2_with (go_at_call 120; refine (HLOW.out _).mono ?_; rintro e w' ⟨rfl, rfl⟩; (try clear hcell); (try clear d1); (try clear d2); (try clear e95); (try clear hcb); (try clear hcut); (try clear hacc); (try clear hk); (try clear hl255); (try clear hcv))
                  go_ret2
                  exact ⟨Or.inr ⟨HO.out, rfl⟩, HB.out⟩
                · have l2 : ¬ (l : Int) ≤ 122 := by omega
                  go_wp2_with (go_at_call 120; refine (HLOW.out _).mono ?_; rintro e w' ⟨rfl, rfl⟩; (try clear hcell); (try clear d1); (try clear d2); (try clear e95); (try clear hcb); (try clear hcut); (try clear hacc); (try clear hk); (try clear hl255); (try clear hcv))
                  go_ret2
                  exact ⟨Or.inr ⟨HO.out, rfl⟩, HB.out⟩
            · have l1 : ¬ (97 : Int) ≤ l := by omega
              have HO := Lib.hid (show hexL 0 t = none from by rw [HR.out, OD.out, HLX2.out.2 (fun q => l97 q.1)])
              clear OD HR HLX2
              go_wp2_with (go_at_call 120; refine (HLOW.out _).mono ?_; rintro e w' ⟨rfl, rfl⟩; (try clear hcell); (try clear d1); (try clear d2); (try clear e95); (try clear hcb); (try clear hcut); (try clear hacc); (try clear hk); (try clear hl255); (try clear hcv))
              go_ret2
              exact ⟨Or.inr ⟨HO.out, rfl⟩, HB.out⟩
        · by_cases d48 : 48 ≤ c
          · have d1 : (48 : Int) ≤ c := by omega
            have d2 : ¬ (c : Int) ≤ 57 := by omega
            clear hd
            by_cases l97 : 97 ≤ l
            · have l1 : (97 : Int) ≤ l := by omega
              by_cases l102 : l ≤ 102
              · have HO := Lib.hid (show hexL 0 t = hexL (acc * 16 + (l - 97 + 10)) (t.drop (k + 1)) from by rw [HR.out, OD.out, HLX2.out.1 ⟨l97, l102⟩])
                have l2 : (l : Int) ≤ 122 := by omega
                have l4 : ¬ (16 : Int) ≤ (l : Int) - 97 + 10 := by omega
                have s1 : ((acc : Nat) : Int) * 16 + ((l : Int) - 97 + 10) ≤ 255 := by omega
                have hcutB : decide ((1152921504606846976 : Int) ≤ ((acc : Nat) : Int)) = false := decide_eq_false hcut
                have HD15 := Lib.hid (show l - 97 + 10 ≤ 15 by omega)
                have HL97 := Lib.hid (And.intro l97 hacc)
                clear OD HR HLX2 l97 l102 hcut
                go_wp2_with (go_at_call 120; refine (HLOW.out _).mono ?_; rintro e w' ⟨rfl, rfl⟩; (try clear hcell); (try clear d1); (try clear d2); (try clear e95); (try clear hcb); (try clear hl255); (try clear hcv); (try clear hacc); (try clear hd9))
                go_round
                case rel => exact ⟨k + 1, acc * 16 + (l - 97 + 10), by omega, rfl, by go_num, congrArg (Value.int .u64) (by have := HL97.out; omega), Lib.hid (by have h5 := HD15.out; have h6 := HL97.out; rcases HACC.out with ⟨h, h'⟩ | ⟨h, h'⟩ | ⟨h, h'⟩ <;> omega), HO⟩
                case measure => simp [intOf]; omega
              · have HO := Lib.hid (show hexL 0 t = none from by rw [HR.out, OD.out, HLX2.out.2 (fun q => l102 q.2)])
                clear OD HR HLX2
                by_cases l122 : l ≤ 122
                · have l2 : (l : Int) ≤ 122 := by omega
                  have l4 : (16 : Int) ≤ (l : Int) - 97 + 10 := by omega
                  go_wp2_with (go_at_call 120; refine (HLOW.out _).mono ?_; rintro e w' ⟨rfl, rfl⟩; (try clear hcell); (try clear d1); (try clear d2); (try clear e95); (try clear hcb); (try clear hcut); (try clear hacc); (try clear hk); (try clear hl255); (try clear hcv))
                  go_ret2
                  exact ⟨Or.inr ⟨HO.out, rfl⟩, HB.out⟩
                · have l2 : ¬ (l : Int) ≤ 122 := by omega
                  go_wp2_with (go_at_call 120; refine (HLOW.out _).mono ?_; rintro e w' ⟨rfl, rfl⟩; (try clear hcell); (try clear d1); (try clear d2); (try clear e95); (try clear hcb); (try clear hcut); (try clear hacc); (try clear hk); (try clear hl255); (try clear hcv))
                  go_ret2
                  exact ⟨Or.inr ⟨HO.out, rfl⟩, HB.out⟩
            · have l1 : ¬ (97 : Int) ≤ l := by omega
              have HO := Lib.hid (show hexL 0 t = none from by rw [HR.out, OD.out, HLX2.out.2 (fun q => l97 q.1)])
              clear OD HR HLX2
              go_wp2_with (go_at_call 120; refine (HLOW.out _).mono ?_; rintro e w' ⟨rfl, rfl⟩; (try clear hcell); (try clear d1); (try clear d2); (try clear e95); (try clear hcb); (try clear hcut); (try clear hacc); (try clear hk); (try clear hl255); (try clear hcv))
              go_ret2
              exact ⟨Or.inr ⟨HO.out, rfl⟩, HB.out⟩
          · have d1 : ¬ (48 : Int) ≤ c := by omega
            clear hd
            by_cases l97 : 97 ≤ l
            · have l1 : (97 : Int) ≤ l := by omega
              by_cases l102 : l ≤ 102
              · have HO := Lib.hid (show hexL 0 t = hexL (acc * 16 + (l - 97 + 10)) (t.drop (k + 1)) from by rw [HR.out, OD.out, HLX2.out.1 ⟨l97, l102⟩])
                have l2 : (l : Int) ≤ 122 := by omega
                have l4 : ¬ (16 : Int) ≤ (l : Int) - 97 + 10 := by omega
                have s1 : ((acc : Nat) : Int) * 16 + ((l : Int) - 97 + 10) ≤ 255 := by omega
                have hcutB : decide ((1152921504606846976 : Int) ≤ ((acc : Nat) : Int)) = false := decide_eq_false hcut
                have HD15 := Lib.hid (show l - 97 + 10 ≤ 15 by omega)
                have HL97 := Lib.hid (And.intro l97 hacc)
                clear OD HR HLX2 l97 l102 hcut
                go_wp2_with (go_at_call 120; refine (HLOW.out _).mono ?_; rintro e w' ⟨rfl, rfl⟩; (try clear hcell); (try clear d1); (try clear d2); (try clear e95); (try clear hcb); (try clear hl255); (try clear hcv); (try clear hacc); (try clear hd9))
                go_round
                case rel => exact ⟨k + 1, acc * 16 + (l - 97 + 10), by omega, rfl, by go_num, congrArg (Value.int .u64) (by have := HL97.out; omega), Lib.hid (by have h5 := HD15.out; have h6 := HL97.out; rcases HACC.out with ⟨h, h'⟩ | ⟨h, h'⟩ | ⟨h, h'⟩ <;> omega), HO⟩
                case measure => simp [intOf]; omega
              · have HO := Lib.hid (show hexL 0 t = none from by rw [HR.out, OD.out, HLX2.out.2 (fun q => l102 q.2)])
                clear OD HR HLX2
                by_cases l122 : l ≤ 122
                · have l2 : (l : Int) ≤ 122 := by omega
                  have l4 : (16 : Int) ≤ (l : Int) - 97 + 10 := by omega
                  go_wp2_with (go_at_call 120; refine (HLOW.out _).mono ?_; rintro e w' ⟨rfl, rfl⟩; (try clear hcell); (try clear d1); (try clear d2); (try clear e95); (try clear hcb); (try clear hcut); (try clear hacc); (try clear hk); (try clear hl255); (try clear hcv))
                  go_ret2
                  exact ⟨Or.inr ⟨HO.out, rfl⟩, HB.out⟩
                · have l2 : ¬ (l : Int) ≤ 122 := by omega
                  go_wp2_with (go_at_call 120; refine (HLOW.out _).mono ?_; rintro e w' ⟨rfl, rfl⟩; (try clear hcell); (try clear d1); (try clear d2); (try clear e95); (try clear hcb); (try clear hcut); (try clear hacc); (try clear hk); (try clear hl255); (try clear hcv))
                  go_ret2
                  exact ⟨Or.inr ⟨HO.out, rfl⟩, HB.out⟩
            · have l1 : ¬ (97 : Int) ≤ l := by omega
              have HO := Lib.hid (show hexL 0 t = none from by rw [HR.out, OD.out, HLX2.out.2 (fun q => l97 q.1)])
              clear OD HR HLX2
              go_wp2_with (go_at_call 120; refine (HLOW.out _).mono ?_; rintro e w' ⟨rfl, rfl⟩; (try clear hcell); (try clear d1); (try clear d2); (try clear e95); (try clear hcb); (try clear hcut); (try clear hacc); (try clear hk); (try clear hl255); (try clear hcv))
              go_ret2
              exact ⟨Or.inr ⟨HO.out, rfl⟩, HB.out⟩
    · obtain rfl : k = t.length := by omega
      have HO := Lib.hid (show hexL 0 t = some acc from by rw [HR.out, List.drop_of_length_le (by omega)]; rfl)
      clear HR HC
      go_wp2
      go_ret2
      exact ⟨Or.inl ⟨acc, HO.out, rfl⟩, HB.out⟩
/-- The library's two sentinels lie in their variables. -/
structure Errs (w : World) : Prop where
  syn : ∃ ev, w.cell? ⟨2, 0, none⟩ = some ev ∧ (ev = .nilIface ∨ ∃ te pe, ev = .iface te pe)
  rng : ∃ ev, w.cell? ⟨3, 0, none⟩ = some ev ∧ (ev = .nilIface ∨ ∃ te pe, ev = .iface te pe)
  l1 : 2 < w.heap.size
  l2 : 3 < w.heap.size
theorem Errs.below {w w' : World} (h : Errs w) (hb : Below w.heap.size w w') : Errs w' where
  syn := by obtain ⟨ev, h1, h2⟩ := h.syn; exact ⟨ev, (hb.cell (p := ⟨2, 0, none⟩) h.l1).trans h1, h2⟩
  rng := by obtain ⟨ev, h1, h2⟩ := h.rng; exact ⟨ev, (hb.cell (p := ⟨3, 0, none⟩) h.l2).trans h1, h2⟩
  l1 := Nat.lt_of_lt_of_le h.l1 hb.size
  l2 := Nat.lt_of_lt_of_le h.l2 hb.size
/-- What the public ParseUint answers: a number below 256 and no error, or 0 and one. -/
def Pub (t : List UInt8) (e : Ending) : Prop :=
  (∃ x : Nat, hexL 0 t = some x ∧ e = .returned (.tuple #[.int .u64 x, .nilIface])) ∨ (hexL 0 t = none ∧ ∃ (te : TypeId) (pe : Value), e = .returned (.tuple #[.int .u64 0, .iface te pe]))
set_option maxRecDepth 100000 in
set_option maxHeartbeats 800000 in
theorem pub16_any (t : List UInt8) (h1 : 1 ≤ t.length) (h3 : t.length ≤ 2) (w : World) (hE : Errs w) :
    Calls Tryz.prog 81 #[S t, E 16, E 8] w fun e w' => Pub t e ∧ Below w.heap.size w w' := by
  have HP := Lib.hid (parse16_any t h1 h3 w)
  have HE := Lib.hid hE
  clear hE
  have hsz : (ByteArray.mk t.toArray).size ≤ 281474976710656 := by simp [ByteArray.size]; omega
  have HSZ := Lib.hid hsz
  clear hsz
  go_enter Tryz.func81, Tryz.ntmps81
  go_wp2_with (go_at_call 103; refine HP.out.mono ?_)
  rintro e w1 ⟨hp | ⟨ho, he⟩, hb⟩
  · obtain ⟨x, ho, rfl⟩ := hp
    have HO : Hid (∀ e : Ending, e = .returned (.tuple #[.int .u64 x, .nilIface]) → Pub t e) := Lib.hid fun e he => Or.inl ⟨x, ho, he⟩
    have HB := Lib.hid hb
    clear ho hb
    go_wp2
    go_ret2
    exact ⟨HO.out _ rfl, HB.out⟩
  · subst he
    have HO : Hid (∀ (e : Ending) (te : TypeId) (pe : Value), e = .returned (.tuple #[.int .u64 0, .iface te pe]) → Pub t e) := Lib.hid fun e te pe he => Or.inr ⟨ho, te, pe, he⟩
    have HB := Lib.hid hb
    have HE1 := HE.out.below hb
    obtain ⟨es, s1, s2⟩ := HE1.syn
    clear ho hb HE1
    have HT := Lib.hid (Tryz.strconv_toError_syntax ⟨#[80, 97, 114, 115, 101, 85, 105, 110, 116]⟩ ⟨t.toArray⟩ 16 8 es w1 HSZ.out s1 s2)
    clear s1 s2
    go_wp2_with (go_at_call 104; refine HT.out.mono ?_; rintro e w2 ⟨N, rfl, _, _, hb2⟩; have HB2 := Lib.hid (HB.out.trans (hb2.mono HB.out.size)); clear hb2)
    go_ret2
    exact ⟨HO.out _ _ _ rfl, HB2.out⟩
theorem hexL_pair (c d : UInt8) : (∃ x y, hexV c = some x ∧ hexV d = some y ∧ hexL 0 [c, d] = some (x * 16 + y) ∧ pairV c d = (x * 16 + y, true)) ∨ (hexL 0 [c, d] = none ∧ pairV c d = (0, false)) := by
  unfold pairV
  cases h1 : hexV c with
  | none => right; exact ⟨by unfold hexL; rw [h1], rfl⟩
  | some x =>
    cases h2 : hexV d with
    | none => right; exact ⟨by unfold hexL; rw [h1]; show hexL _ [d] = none; unfold hexL; rw [h2], rfl⟩
    | some y => left; exact ⟨x, y, rfl, rfl, by unfold hexL; rw [h1]; show hexL _ [d] = _; unfold hexL; rw [h2]; show some _ = some _; congr 1; omega, rfl⟩
open Go.Proofs.YtlicoffnjphphaaGreatDoor.Ad (cutB cutB_at atoiV dec_len)
open Go.Proofs.YtlicoffnjphphaaGreatDoor.St (Tab)
theorem ibyte (c : UInt8) : ∀ l : List UInt8, (Lib.indexByte l c = -1 ∧ cutB c l = (l, [], false)) ∨ (∃ k : Nat, k < l.length ∧ Lib.indexByte l c = (k : Int) ∧ cutB c l = (l.take k, l.drop (k + 1), true))
  | [] => by left; exact ⟨rfl, rfl⟩
  | b :: r => by
    unfold Lib.indexByte cutB
    by_cases h : b = c
    · right
      subst h
      exact ⟨0, by simp, by simp, by simp⟩
    · have hB : (b == c) = false := by rw [beq_eq_false_iff_ne]; exact h
      rw [hB, if_neg h]
      rcases ibyte c r with ⟨h1, h2⟩ | ⟨k, h0, h1, h2⟩
      · left
        rw [h1, h2]
        exact ⟨rfl, rfl⟩
      · right
        refine ⟨k + 1, by simp; omega, ?_, ?_⟩
        · rw [h1]
          have hn : ((k : Int) == -1) = false := by rw [beq_eq_false_iff_ne]; omega
          rw [hn]
          simp
        · rw [h2]; simp
theorem ex_take {l : List UInt8} (k : Nat) : (⟨l.toArray⟩ : ByteArray).extract 0 k = ⟨(l.take k).toArray⟩ := by
  rw [Go.Lib.extract_eq]; simp
theorem ex_drop {l : List UInt8} (k : Nat) : (⟨l.toArray⟩ : ByteArray).extract k l.length = ⟨(l.drop k).toArray⟩ := by
  rw [Go.Lib.extract_eq]
  simp only
  rw [List.take_of_length_le (by simp)]
abbrev CutR (c : UInt8) (l : List UInt8) : Ending := .returned (.tuple #[S (cutB c l).1, S (cutB c l).2.1, .bool (cutB c l).2.2])
set_option maxRecDepth 100000 in
theorem scut_any (l : List UInt8) (c : UInt8) (w : World) (hl : l.length ≤ 100000) :
    Calls Tryz.prog 119 #[S l, S [c]] w fun e w' => e = CutR c l ∧ Below w.heap.size w w' := by
  have hsz : (ByteArray.mk l.toArray).size = l.length := by simp [ByteArray.size]
  have hs1 : (ByteArray.mk #[c]).size = 1 := by rfl
  have HI : Hid (∀ w, Calls Tryz.prog 135 #[S l, .string ⟨#[c]⟩] w fun e w' => e = .returned (E (Lib.indexByte l c)) ∧ w' = w) := Lib.hid (fun w => by
    have h := Tryz.stringslite_Index_one ⟨l.toArray⟩ c w
    simpa using h)
  rcases ibyte c l with ⟨h1, h2⟩ | ⟨k, h0, h1, h2⟩
  · have HO := Lib.hid h2
    clear h2
    rw [h1] at HI
    go_enter Tryz.func119, Tryz.ntmps119
    go_wp2_with (go_at_call 135; refine (HI.out _).mono ?_; rintro e w' ⟨rfl, rfl⟩)
    go_ret3
    exact ⟨by unfold CutR; rw [HO.out]; rfl, Below.refl _ _⟩
  · have HO := Lib.hid h2
    clear h2
    rw [h1] at HI
    have e1 := ex_take (l := l) k
    have e2 := ex_drop (l := l) (k + 1)
    have hk : ((k : Nat) : Int) ≤ ((l.length : Nat) : Int) := by omega
    have hk1 : ((k : Nat) : Int) + 1 ≤ ((l.length : Nat) : Int) := by omega
    have hk2 : (((k : Nat) : Int) + 1).toNat = k + 1 := by omega
    go_enter Tryz.func119, Tryz.ntmps119
    go_wp2_with (go_at_call 135; refine (HI.out _).mono ?_; rintro e w' ⟨rfl, rfl⟩)
    go_region
    go_wp2
    go_ret3
    exact ⟨by unfold CutR; rw [HO.out]; rfl, (Below.refl _ _).drew⟩
set_option maxRecDepth 100000 in
theorem cut_any (l : List UInt8) (c : UInt8) (w : World) (hl : l.length ≤ 100000) :
    Calls Tryz.prog 102 #[S l, S [c]] w fun e w' => e = CutR c l ∧ Below w.heap.size w w' := by
  have HC := Lib.hid (fun w => scut_any l c w hl)
  unfold CutR at *
  go_enter Tryz.func102, Tryz.ntmps102
  go_wp2_with (go_at_call 119; refine (HC.out _).mono ?_; rintro e w' ⟨rfl, hb⟩; have HB := Lib.hid hb; clear hb)
  go_ret3
  exact ⟨rfl, HB.out⟩
/-- What the library's functions find in its variables. -/
structure Lay (w : World) : Prop where
  tab : Tab w
  tl : 0 < w.heap.size
  pow : Go.Lib.TabIs Tryz.prog w "internal/strconv.uint64pow10" .u64 Go.Lib.pow10Tab
  err : Errs w
theorem gPow : Tryz.prog.globalNamed "internal/strconv.uint64pow10" = some 1 := by kernel_rfl
theorem Lay.below {w w' : World} (h : Lay w) (hb : Below w.heap.size w w') : Lay w' :=
  ⟨h.tab.below hb h.tl, Nat.lt_of_lt_of_le h.tl hb.size, Go.Joins.tab_stays gPow h.pow hb (Nat.le_refl _), h.err.below hb⟩
theorem below_grow (w : World) (os : Array Obj) : Below w.heap.size w (Go.Sort.grow w os) := ⟨rfl, rfl, rfl, by simp, fun k hk => Go.Sort.heap_grow_old w os hk⟩
theorem itoa_any (n : Int) (h0 : -1 ≤ n) (h1 : n ≤ 999999999) (w : World) (hL : Lay w) :
    Calls Tryz.prog 67 #[E n] w fun e w' => e = .returned (S (Lib.itoa n)) ∧ Below w.heap.size w w' := by
  refine (Tryz.strconv_Itoa n (by omega) (by omega) w hL.pow).mono ?_
  rintro e w' ⟨rfl, k, os, rfl⟩
  exact ⟨rfl, (Go.Joins.below_draws w.heap.size w k).trans (below_grow (w.drewN k) os)⟩
/-- The error of Atoi. -/
def ErrIs (ok : Bool) (ev : Value) : Prop := if ok = true then ev = .nilIface else ∃ (te : TypeId) (pe : Value), ev = .iface te pe
theorem atoi_any (l : List UInt8) (w : World) (hL : Lay w) (hl : l.length ≤ 100000) :
    Calls Tryz.prog 84 #[S l] w fun e w' => ∃ ev, ErrIs (atoiK l) ev ∧ e = .returned (.tuple #[E (atoiV l), ev]) ∧ Below w.heap.size w w' := by
  have hsz : (ByteArray.mk l.toArray).size = l.length := by simp [ByteArray.size]
  have hd : (ByteArray.mk l.toArray).data.toList = l := by simp
  unfold atoiV atoiK
  cases h : Lib.atoiAll l with
  | ok v =>
    refine (Tryz.strconv_Atoi_ok ⟨l.toArray⟩ (by rw [hsz]; omega) v (by rw [hd]; exact h) w).mono ?_
    rintro e w' ⟨rfl, rfl | ⟨t, rfl⟩⟩
    · exact ⟨_, rfl, rfl, Below.refl _ _⟩
    · exact ⟨_, rfl, rfl, Go.Joins.below_bytesWorld _ _ _ _ (Nat.le_refl _)⟩
  | «syntax» =>
    obtain ⟨ev, hv, hev⟩ := hL.err.syn
    refine (Tryz.strconv_Atoi_syntax ⟨l.toArray⟩ (by rw [hsz]; omega) (by rw [hd]; exact h) ev w hv hev).mono ?_
    rintro e w' ⟨N, rfl, _, _, hb⟩
    exact ⟨_, ⟨_, _, rfl⟩, rfl, hb⟩
  | range =>
    obtain ⟨ev, hv, hev⟩ := hL.err.rng
    refine (Tryz.strconv_Atoi_range ⟨l.toArray⟩ (by rw [hsz]; omega) (by rw [hd]; exact h) ev w hv hev).mono ?_
    rintro e w' ⟨N, rfl, _, _, hb⟩
    exact ⟨_, ⟨_, _, rfl⟩, by rw [hd], hb⟩
end Go.Proofs.YtlicoffnjphphaaGreatDoor.Rx
