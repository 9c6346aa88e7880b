/- Subst: what the laws ask of parts: the walks; parts that are handed in. -/
import Derived.Test.YtinallojhkaogaaGreatDoorGk35
import Derived.Test.YtinallojhkaogaaGreatDoorSbQ2Pk
import Derived.Deep.LoopGhost
import Derived.Laws.StructEq
import Derived.ProofKit
import Derived.OpenShut
import Derived.Deep.Grids
import Derived.Laws.IdiomArrays
namespace Go.Proofs.YtinallojhkaogaaGreatDoor.Mt
open Go.RowKit Go.Shelf
open Go.Proofs.YtinallojhkaogaaGreatDoor.Rx
open Go.Proofs.YtinallojhkaogaaGreatDoor.Rq (rep)
set_option linter.unusedVariables false
set_option linter.unusedSimpArgs false
/-! ### What is printed bounds the parts -/
theorem rep_ge (t : List UInt8) : t.length ≤ (rep qT t).length := by
  rw [Rq.rep_len]; omega
theorem okP_ge {last : Int} {p : Pt} {x : List UInt8} (h : okP last p = some x) : 1 ≤ x.length ∧ p.t.length ≤ x.length := by
  unfold okP at h
  split at h
  · rename_i q
    obtain rfl := Option.some.inj h
    have h1 := rep_ge p.t
    have h2 : 1 ≤ p.t.length := List.length_pos_iff.2 q.2.1
    omega
  · split at h
    · rename_i q
      obtain rfl := Option.some.inj h
      simp [q.1]
    · split at h
      · rename_i q
        obtain rfl := Option.some.inj h
        simp [q.1]
      · cases h
theorem print_ge : ∀ (l : List Pt) (last : Int) (y : List UInt8), printP last l = some y → l.length ≤ y.length ∧ ∀ p ∈ l, p.t.length ≤ y.length
  | [], last, y, h => ⟨Nat.zero_le _, fun p hp => by cases hp⟩
  | p :: r, last, y, h => by
    unfold printP at h
    cases ho : okP last p with
    | none => rw [ho] at h; cases h
    | some x =>
      rw [ho] at h
      cases hr : printP p.g r with
      | none => rw [hr] at h; cases h
      | some z =>
        rw [hr] at h
        obtain rfl : x ++ z = y := Option.some.inj h
        obtain ⟨h1, h2⟩ := okP_ge ho
        obtain ⟨h3, h4⟩ := print_ge r p.g z hr
        refine ⟨by simp only [List.length_cons, List.length_append]; omega, fun q hq => ?_⟩
        rw [List.length_append]
        rcases List.mem_cons.1 hq with rfl | hq
        · omega
        · have := h4 q hq; omega
/-! ### The walks -/
def pbL (l : List Pt) : Bool := (l.all fun p => decide (p.t.length ≤ 100)) && decide (l.length ≤ 40)
theorem pbL_ok {l : List Pt} (h : pbL l = true) : l.length ≤ 40 ∧ ∀ p ∈ l, p.t.length ≤ 100 := by
  unfold pbL at h
  rw [Bool.and_eq_true, List.all_eq_true] at h
  exact ⟨of_decide_eq_true h.2, fun p hp => of_decide_eq_true (h.1 p hp)⟩
theorem pb_at {l : List Pt} {k : Nat} (h : k < l.length) (hb : ¬ l[k].t.length ≤ 100) : pbL l = false := by
  unfold pbL
  rw [Bool.and_eq_false_iff]
  left
  rw [List.all_eq_false]
  exact ⟨_, List.getElem_mem h, by simpa using hb⟩
theorem pb_end {l : List Pt} (h : ∀ i (hi : i < l.length), l[i].t.length ≤ 100) : pbL l = decide (l.length ≤ 40) := by
  unfold pbL
  rw [List.all_eq_true.2 (fun p hp => by obtain ⟨i, hi, rfl⟩ := List.getElem_of_mem hp; exact decide_eq_true (h i hi)), Bool.true_and]
set_option maxRecDepth 100000 in
set_option maxHeartbeats 3200000 in
theorem pbounded_any (ao : Option Addr) (c : Nat) (l : List Pt) (w : World) (h : PI2 w ao l) (hl : l.length ≤ maxLen) (hlt : ∀ p ∈ l, p.t.length ≤ maxLen) (R : Bool) (hR : R = pbL l) :
    Calls Tryz.prog 32 #[.slice ao l.length c] w fun e w' => e = .returned (.bool R) ∧ w = w' := by
  have HRR := Lib.hid hR
  have HP := Lib.hid h
  have HML := Lib.hid (show l.length ≤ 9223372036854775807 from by unfold maxLen at hl; omega)
  have HMT := Lib.hid (fun (k : Nat) (hk : k < l.length) => show l[k].t.length ≤ 9223372036854775807 from by have := hlt l[k] (List.getElem_mem hk); unfold maxLen at this; omega)
  clear hR h hl hlt
  go_enter Tryz.func32, Tryz.ntmps32
  go_wp2
  go_loopw [3] (fun iv wr => ∃ k : Nat, k ≤ l.length ∧ iv = .int .i64 (k : Nat) ∧ Hid (∀ i (hi : i < l.length), i < k → l[i].t.length ≤ 100) ∧ Hid (w = wr)) (fun iv _ => l.length - (intOf iv).toNat)
  case atStart => exact ⟨0, Nat.zero_le _, rfl, Lib.hid (fun i hi h => by omega), Lib.hid rfl⟩
  case round =>
    obtain ⟨k, hk, rfl, HI, HE⟩ := hrel
    obtain rfl := HE.out
    by_cases hlt : k < l.length
    · have hlt' : (k : Int) < (l.length : Int) := by omega
      have hk0 : (0 : Int) ≤ (k : Int) := by omega
      have hwk : IntKind.i64.wrap ((k : Int) + 1) = (k : Int) + 1 := by rw [IntKind.wrap_i64]; have := HML.out; omega
      obtain ⟨b, o, rfl, p1, p2⟩ := HP.out k hlt
      have HK := Lib.hid hlt
      by_cases hb : l[k].t.length ≤ 100
      · have hgt : ¬ (100 : Int) < ((l[k].t.length : Nat) : Int) := by omega
        have HI2 := Lib.hid (show ∀ i (hi : i < l.length), i < k + 1 → l[i].t.length ≤ 100 from fun i hi h => by
          rcases Nat.lt_or_ge i k with q | q
          · exact HI.out i hi q
          · obtain rfl : i = k := by omega
            exact hb)
        clear hb HI
        generalize l[k] = p at *
        obtain ⟨t, g⟩ := p
        dsimp only at p1 p2 hgt
        clear hlt hk
        go_wp2
        go_roundw
        case rel => exact ⟨k + 1, by have := HK.out; omega, by go_num, HI2, Lib.hid (by first | exact rfl | trivial)⟩
        case measure => have := HK.out; simp [intOf]; omega
      · have hgt : (100 : Int) < ((l[k].t.length : Nat) : Int) := by omega
        have HB := Lib.hid (pb_at hlt hb)
        clear hb HI
        generalize l[k] = p at *
        obtain ⟨t, g⟩ := p
        dsimp only at p1 p2 hgt
        clear hlt hk
        go_wp2
        go_ret
        exact ⟨by rw [HRR.out, HB.out]; rfl, rfl⟩
    · obtain rfl : k = l.length := by omega
      have hnl : ¬ (l.length : Int) < (l.length : Int) := by omega
      have HB := Lib.hid (show R = decide (l.length ≤ 40) from by rw [HRR.out]; exact pb_end fun i hi => HI.out i hi hi)
      clear hlt hk HI
      by_cases h40 : l.length ≤ 40
      · have h40' : (l.length : Int) ≤ 40 := by omega
        have HC := Lib.hid (show R = true from by rw [HB.out]; exact decide_eq_true h40)
        clear h40
        go_wp2
        go_ret
        exact ⟨by rw [HC.out]; rfl, rfl⟩
      · have h40' : ¬ (l.length : Int) ≤ 40 := by omega
        have HC := Lib.hid (show R = false from by rw [HB.out]; exact decide_eq_false h40)
        clear h40
        go_wp2
        go_ret
        exact ⟨by rw [HC.out]; rfl, rfl⟩
theorem infoP9 : (Tryz.prog.info? 111).map (fun i => (i.zero, i.size, i.bytes)) = some (some (.agg #[.string ⟨#[]⟩, .int .i64 0]), 2, 24) := by kernel_rfl
theorem news_p9 (W : World) (t : List UInt8) (g : Int) : ∀ j u, ([S t, E g] : List Value)[j]? = some u → (W.alloc (.cells #[S t, E g] 111)).cell? ((⟨W.heap.size, 0, none⟩ : Addr).add j) = some u := by
  intro j u hj
  rw [Addr.add_lit, Lib.cell_of_heap (heap_alloc_new _ _), Nat.zero_add]
  simpa using hj
theorem pin_own9 {w : World} {B e : Nat} {v : Value} {l : List Pt} (h : w.ownsRow B e 2 v l.length (flP l)) : ∃ ao cap, v = .slice ao l.length cap ∧ PIn w ao l := by
  rcases own_forms h with ⟨rfl, h0⟩ | ⟨g, cap, rfl, hc⟩
  · exact ⟨none, 0, by rw [h0], fun i hi => by omega⟩
  · refine ⟨_, cap, rfl, fun i hi => ⟨g, rfl, ?_, ?_⟩⟩
    · rw [h.cellAt (i * 2) (by omega)]
      exact (flP_get l i hi).1
    · rw [h.cellAt (i * 2 + 1) (by omega)]
      exact (flP_get l i hi).2
theorem flP_snoc {l : List Pt} {k : Nat} (h : k < l.length) : flP (l.take (k + 1)) = flP (l.take k) ++ [S l[k].t, E l[k].g] := by
  rw [List.take_succ_eq_append_getElem h, flP_append]; rfl
set_option maxRecDepth 100000 in
set_option maxHeartbeats 3200000 in
theorem parts_any (ao : Option Addr) (c : Nat) (l : List Pt) (w : World) (h : PI2 w ao l) (hl : l.length ≤ 100000) :
    Calls Tryz.prog 36 #[.slice ao l.length c] w fun e w' => ∃ v, e = .returned v ∧ w'.ownsRow w.heap.size 111 2 v l.length (flP l) ∧ Below w.heap.size w w' := by
  obtain ⟨i0, hi, hz0, hz1, hz2⟩ := info_parts infoP9
  have HNS := Lib.hid h
  have HLL := Lib.hid hl
  clear h hl
  have HO0 : Hid (∀ W : World, W.heap.size = w.heap.size → (W.alloc (.cells #[] 111)).ownsRow w.heap.size 111 2 (.slice (some ⟨w.heap.size, 0, none⟩) 0 0) 0 []) := Lib.hid (fun W hW => by
    have := World.ownsRow_made (base := w.heap.size) (e := 111) (size := 2) W #[] 0 (by omega) (by decide) rfl
    rw [hW] at this
    exact this)
  go_enter Tryz.func36, Tryz.ntmps36
  go_wp2
  go_loopw [3, 4] (fun v i wr => ∃ (k : Nat), k ≤ l.length ∧ i = .int .i64 (k : Nat) ∧ Hid (wr.ownsRow w.heap.size 111 2 v k (flP (l.take k))) ∧ Hid (Below w.heap.size w wr)) (fun _ i _ => l.length - (intOf i).toNat)
  case atStart => exact ⟨0, Nat.zero_le _, rfl, Lib.hid (HO0.out _ rfl), Lib.hid ((Below.refl _ _).alloc (Nat.le_refl _) _)⟩
  case round =>
    clear HO0
    obtain ⟨k, hk, rfl, HO, HB⟩ := hrel
    by_cases hlt : k < l.length
    · obtain ⟨B0, o0, rfl, p1, p2⟩ := (HNS.out.below HB.out) k hlt
      have hlt' : (k : Int) < (l.length : Int) := by omega
      have hk0 : (0 : Int) ≤ (k : Int) := by omega
      have hwk : IntKind.i64.wrap ((k : Int) + 1) = (k : Int) + 1 := by rw [IntKind.wrap_i64]; have := HLL.out; omega
      have HTK := Lib.hid (flP_snoc hlt)
      have HK := Lib.hid hlt
      generalize l[k] = p at *
      obtain ⟨t, g⟩ := p
      dsimp only at p1 p2
      have HOA := Lib.hid (HO.out.alloc (.cells #[S t, E g] 111))
      have HSZ := Lib.hid HB.out.size
      clear hlt hk
      go_wp2_with (at_builtin; go_loud (refine wpList_append_own _ rfl _ _ 65 rfl w.heap.size 111 i0 _ 2 24 Tryz.underlying65 hi hz0 hz1 hz2 rfl (by decide) _ _ _ rfl HOA.out ⟨_, 0, none⟩ 1 1 [S t, E g] rfl rfl (news_p9 wr t g) (by simp [Value.oneCell']) (by have := HK.out; have := HLL.out; unfold maxLen; omega) (by have := HK.out; have := HLL.out; omega) (by have := HSZ.out; simp; omega) ?_))
      rintro v' w4 hown hgrow -
      have HB4 := Lib.hid ((HB.out.alloc HSZ.out (.cells #[S t, E g] 111)).grown hgrow (by have := HSZ.out; simp; omega) (own_ge HOA.out))
      have HO4 := Lib.hid (show w4.ownsRow w.heap.size 111 2 v' (k + 1) (flP (l.take (k + 1))) from by rw [HTK.out]; exact hown)
      clear hown hgrow
      go_wp2
      go_roundw
      case rel => exact ⟨k + 1, by have := HK.out; omega, by go_num, HO4, HB4⟩
      case measure => have := HK.out; simp [intOf]; omega
    · obtain rfl : k = l.length := by omega
      have hnl : ¬ (l.length : Int) < (l.length : Int) := by omega
      have HO2 := HO.out
      rw [List.take_length] at HO2
      have HO3 := Lib.hid HO2
      clear HO HO2 hlt hk
      go_wp2
      go_ret
      exact ⟨_, rfl, HO3.out, HB.out⟩
set_option maxRecDepth 100000 in
set_option maxHeartbeats 3200000 in
theorem same9_yes (ae be : Option Addr) (ca cb : Nat) (L : List Pt) (hL : L.length ≤ 100000) (w : World) (ha : PIn w ae L) (hb : PIn w be L) :
    Calls Tryz.prog 35 #[.slice ae L.length ca, .slice be L.length cb] w fun e w' => e = .returned (.bool true) ∧ Below w.heap.size w w' := by
  have HL := Lib.hid hL
  have HA := Lib.hid ha
  have HB := Lib.hid hb
  have HB0 := Lib.hid (Below.refl w.heap.size w)
  clear hL ha hb
  go_enter Tryz.func35, Tryz.ntmps35
  go_wp2
  go_loopw [5] (fun iv wr => ∃ k : Nat, k ≤ L.length ∧ iv = .int .i64 (k : Nat) ∧ Hid (Below w.heap.size w wr)) (fun iv _ => L.length - (intOf iv).toNat)
  case atStart => exact ⟨0, Nat.zero_le _, rfl, HB0⟩
  case round =>
    clear HB0
    obtain ⟨k, hk, rfl, HBL⟩ := hrel
    by_cases hlt : k < L.length
    · have hlt' : (k : Int) < (L.length : Int) := by omega
      have hk0 : (0 : Int) ≤ (k : Int) := by omega
      have hwk : IntKind.i64.wrap ((k : Int) + 1) = (k : Int) + 1 := by rw [IntKind.wrap_i64]; have := HL.out; omega
      obtain ⟨ga, rfl, a1, a2⟩ := (HA.out.below HBL.out) k hlt
      obtain ⟨gb, rfl, b1, b2⟩ := (HB.out.below HBL.out) k hlt
      generalize L[k] = p at *
      obtain ⟨t, g⟩ := p
      dsimp only at a1 a2 b1 b2
      have HK := Lib.hid hlt
      have HB9 := Lib.hid (show Below w.heap.size w wr.drew from HBL.out.drew)
      clear hlt hk HBL
      go_wp2
      go_region
      go_wp2
      go_roundw
      case rel => exact ⟨k + 1, by have := HK.out; omega, by go_num, HB9⟩
      case measure => have := HK.out; simp [intOf]; omega
    · have hnl : ¬ (k : Int) < (L.length : Int) := by omega
      clear hk hlt
      go_wp2
      go_ret
      exact ⟨rfl, HBL.out⟩
end Go.Proofs.YtinallojhkaogaaGreatDoor.Mt
