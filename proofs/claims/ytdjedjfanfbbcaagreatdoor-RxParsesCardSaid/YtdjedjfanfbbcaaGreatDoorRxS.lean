/- Patterns: nodes of the document; whether two rows of them are one: the walks. -/
import Derived.Test.YtdjedjfanfbbcaaGreatDoorRxOwn
import Derived.Test.YtdjedjfanfbbcaaGreatDoorRxOrd
import Derived.Deep.AppendLies
namespace Go.Proofs.YtdjedjfanfbbcaaGreatDoor.Rx
open Go.RowKit Go.Shelf
open Go.Proofs.YtdjedjfanfbbcaaGreatDoor.St (Wf word zeroW)
set_option linter.unusedVariables false
set_option linter.unusedSimpArgs false
set_option maxRecDepth 100000 in
theorem run_eq4r (a b c d a' b' c' d' : Nat) (q : Nat) (w : World) : (Op.equalIn (q + 2) 42 (.agg #[U a, U b, U c, U d]) (.agg #[U a', U b', U c', U d'])).run Tryz.prog w = .ok (decide (a = a' ∧ b = b' ∧ c = c' ∧ d = d')) w := by
  have u3 := Tryz.underlying41
  have a3 := Tryz.isAgg41
  have z3 := Tryz.sizeOf41
  rw [show (q + 2 : Nat) = (q + 1) + 1 from rfl, Op.equalIn]
  simp only [Sem.run_bind, run_underlying Tryz.underlying42, Result.andThen_ok]
  simp only [Std.Legacy.Range.forIn_eq_forIn_range', Std.Legacy.Range.size, Nat.sub_zero, Nat.add_sub_cancel, Nat.div_one, List.range'_succ, List.range'_zero, List.forIn_cons, List.forIn_nil]
  by_cases ha : a = a'
  · subst ha
    by_cases hb : b = b'
    · subst hb
      by_cases hc : c = c'
      · subst hc
        by_cases hd : d = d'
        · subst hd; go_simp
        · have hdB : ((d : Int) == d') = false := by simp; omega
          go_simp
      · have hdB : ((c : Int) == c') = false := by simp; omega
        go_simp
    · have hdB : ((b : Int) == b') = false := by simp; omega
      go_simp
  · have hdB : ((a : Int) == a') = false := by simp; omega
    go_simp
set_option maxRecDepth 100000 in
set_option maxHeartbeats 1600000 in
theorem run_eqR (n m : Nd) (hn : Wf n.s) (hm : Wf m.s) (w : World) : (Op.equalIn 10000 54 (NV n) (NV m)).run Tryz.prog w = .ok (decide (n = m)) w := by
  obtain ⟨k, s, a, b, mn, mx, x⟩ := n
  obtain ⟨k', s', a', b', mn', mx', x'⟩ := m
  dsimp only at hn hm
  have H4 := fun W => run_eq4r (word s 0) (word s 1) (word s 2) (word s 3) (word s' 0) (word s' 1) (word s' 2) (word s' 3) 9997 W
  have ne : ∀ {p q : Int}, p ≠ q → (p == q) = false := fun h => by simpa using h
  by_cases hk : k = k'
  · subst hk
    by_cases hs : s = s'
    · subst hs
      simp only [true_and, decide_true] at H4
      by_cases ha : a = a'
      · subst ha
        by_cases hb : b = b'
        · subst hb
          by_cases hmn : mn = mn'
          · subst hmn
            by_cases hmx : mx = mx'
            · subst hmx
              by_cases hx : x = x'
              · subst hx
                go_simp
              · have hB := ne hx
                rw [decide_eq_false (by simpa using hx)]
                go_simp
            · have hB := ne hmx
              rw [decide_eq_false (by simp [hmx])]
              go_simp
          · have hB := ne hmn
            rw [decide_eq_false (by simp [hmn])]
            go_simp
        · have hB := ne hb
          rw [decide_eq_false (by simp [hb])]
          go_simp
      · have hB := ne ha
        rw [decide_eq_false (by simp [ha])]
        go_simp
    · have h4 : (decide (word s 0 = word s' 0 ∧ word s 1 = word s' 1 ∧ word s 2 = word s' 2 ∧ word s 3 = word s' 3)) = false := by
        rw [decide_eq_false_iff_not, ← word_eq hn hm]; exact hs
      simp only [h4] at H4
      rw [decide_eq_false (by simp [hs])]
      go_simp
  · have hB := ne hk
    rw [decide_eq_false (by simp [hk])]
    go_simp
theorem infoRd : (Tryz.prog.info? 54).map (fun i => (i.zero, i.size, i.bytes)) = some (some (NV ⟨0, z4, 0, 0, 0, 0, 0⟩), 10, 80) := by kernel_rfl
theorem news_atR (w : World) (n : Nd) (B : Nat) (hB : B = w.heap.size) : ∀ j u, (NC n).toList[j]? = some u → (w.alloc (.cells (NC n) 54)).cell? ((⟨B, 0, none⟩ : Addr).add j) = some u := by
  intro j u hj
  subst hB
  rw [Addr.add_lit, Lib.cell_of_heap (heap_alloc_new _ _), Nat.zero_add]
  simpa using hj
theorem ns_le {w : World} {ao : Option Addr} {n c : Nat} {l : List Nd} (h : Ns w (.slice ao n c) l) {i : Nat} (hi : i < l.length) : ∃ b o, ao = some ⟨b, o, none⟩ ∧ NCell w b (o + i * 10) l[i] := h.at hi
theorem take_step {α : Type} {a b : List α} {k : Nat} (ha : k < a.length) (hb : k < b.length) (h : a.take k = b.take k) (e : a[k] = b[k]) : a.take (k + 1) = b.take (k + 1) := by
  rw [List.take_succ_eq_append_getElem ha, List.take_succ_eq_append_getElem hb, h, e]
set_option maxRecDepth 100000 in
set_option maxHeartbeats 1600000 in
theorem same_any (ao bo : Option Addr) (c d : Nat) (a b : List Nd) (w : World) (ha : Ns w (.slice ao a.length c) a) (hb : Ns w (.slice bo b.length d) b) (hwa : ∀ n ∈ a, Wf n.s) (hwb : ∀ n ∈ b, Wf n.s) (hal : a.length ≤ 100000) :
    Calls Tryz.prog 8 #[.slice ao a.length c, .slice bo b.length d] w fun e w' => e = .returned (.bool (decide (a = b))) ∧ Below w.heap.size w w' := by
  by_cases hl : a.length = b.length
  · have HA := Lib.hid ha
    have HB := Lib.hid hb
    have HL := Lib.hid hl
    rw [← hl]
    have hn : ((a.length : Nat) : Int) = ((a.length : Nat) : Int) := rfl
    clear ha hb hl hn
    go_enter Tryz.func8, Tryz.ntmps8
    go_wp2
    go_loopw [5] (fun i wr => ∃ (k : Nat), k ≤ a.length ∧ i = .int .i64 (k : Nat) ∧ Hid (a.take k = b.take k) ∧ Hid (Below w.heap.size w wr)) (fun i _ => a.length - (intOf i).toNat)
    case atStart => exact ⟨0, Nat.zero_le _, rfl, Lib.hid rfl, Lib.hid (Below.refl _ _)⟩
    case round =>
      obtain ⟨k, hk, rfl, HT, HW⟩ := hrel
      by_cases hlt : k < a.length
      · have hlb : k < b.length := by have := HL.out; omega
        obtain ⟨B0, o0, rfl, q0, q1, q2, q3, q4, q5, q6, q7, q8, q9⟩ := (HA.out.below HW.out).at hlt
        obtain ⟨B1, o1, rfl, p0, p1, p2, p3, p4, p5, p6, p7, p8, p9⟩ := (HB.out.below HW.out).at hlb
        have hlt' : ((k : Nat) : Int) < ((a.length : Nat) : Int) := by omega
        have hwn := hwa _ (List.getElem_mem hlt)
        have hwm := hwb _ (List.getElem_mem hlb)
        have HQ := fun W => run_eqR a[k] b[k] hwn hwm W
        have HTS := Lib.hid (fun e => take_step hlt hlb HT.out e)
        have HNE := Lib.hid (show a[k] ≠ b[k] → a ≠ b from by
          intro hne hab
          subst hab
          exact hne rfl)
        clear hwn hwm
        generalize a[k] = n at *
        generalize b[k] = m at *
        by_cases he : n = m
        · have HS := Lib.hid (HTS.out he)
          have HBn : ∀ W, (binOp .neq 54 (NV n) (NV m)).run Tryz.prog W = .ok (.bool false) W := fun W => by
            rw [run_neq_struct, HQ, decide_eq_true he]; rfl
          have HG : ∀ x y W, (eqGuard .neq 54 x y (NV n) (NV m)).run Tryz.prog W = .ok () W := fun x y W => run_eqGuard_agg W _ _ _ _ _ _ (by kernel_rfl)
          clear HQ he HTS HNE
          go_wp2
          go_region
          go_wp2
          go_roundw
          case rel => exact ⟨k + 1, by omega, by go_num, HS, Lib.hid (HW.out.trans ((Below.refl _ _).drew.mono HW.out.size))⟩
          case measure => simp [intOf]; omega
        · have HF := Lib.hid (decide_eq_false (HNE.out he))
          have HBn : ∀ W, (binOp .neq 54 (NV n) (NV m)).run Tryz.prog W = .ok (.bool true) W := fun W => by
            rw [run_neq_struct, HQ, decide_eq_false he]; rfl
          have HG : ∀ x y W, (eqGuard .neq 54 x y (NV n) (NV m)).run Tryz.prog W = .ok () W := fun x y W => run_eqGuard_agg W _ _ _ _ _ _ (by kernel_rfl)
          clear HQ he HTS HNE
          go_wp2
          go_region
          go_wp2
          go_ret
          exact ⟨by rw [HF.out]; rfl, HW.out.trans ((Below.refl _ _).drew.mono HW.out.size)⟩
      · obtain rfl : k = a.length := by omega
        have HF := Lib.hid (show decide (a = b) = true from by
          rw [decide_eq_true_iff]
          have h1 := HT.out
          have h2 := HL.out
          rw [List.take_length, h2, List.take_length] at h1
          exact h1)
        clear HT
        go_wp2
        go_ret
        exact ⟨by rw [HF.out]; rfl, HW.out⟩
  · have HF := Lib.hid (decide_eq_false (show a ≠ b from fun e => hl (by rw [e])))
    have hne : (((a.length : Nat) : Int) == ((b.length : Nat) : Int)) = false := by rw [beq_eq_false_iff_ne]; omega
    clear hl ha hb
    go_enter Tryz.func8, Tryz.ntmps8
    go_wp2
    go_ret
    exact ⟨by rw [HF.out]; rfl, Below.refl _ _⟩
set_option maxRecDepth 100000 in
set_option maxHeartbeats 3200000 in
theorem its_any (ao : Option Addr) (c : Nat) (l : List Nd) (w : World) (h : Ns w (.slice ao l.length c) l) (hl : l.length ≤ 100000) :
    Calls Tryz.prog 9 #[.slice ao l.length c] w fun e w' => ∃ v, e = .returned v ∧ w'.ownsRow w.heap.size 54 10 v l.length (flat l) ∧ Below w.heap.size w w' := by
  obtain ⟨i0, hi, hz0, hz1, hz2⟩ := info_parts infoRd
  have HNS := Lib.hid h
  clear h
  have HO0 : Hid (∀ W : World, W.heap.size = w.heap.size → (W.alloc (.cells #[] 54)).ownsRow w.heap.size 54 10 (.slice (some ⟨w.heap.size, 0, none⟩) 0 0) 0 []) := Lib.hid (fun W hW => by
    have := World.ownsRow_made (base := w.heap.size) (e := 54) (size := 10) W #[] 0 (by omega) (by decide) rfl
    rw [hW] at this
    exact this)
  go_enter Tryz.func9, Tryz.ntmps9
  go_wp2
  go_loopw [3, 4] (fun v i wr => ∃ (k : Nat), k ≤ l.length ∧ i = .int .i64 (k : Nat) ∧ Hid (wr.ownsRow w.heap.size 54 10 v k (flat (l.take k))) ∧ Hid (Below w.heap.size w wr)) (fun _ i _ => l.length - (intOf i).toNat)
  case atStart => exact ⟨0, Nat.zero_le _, rfl, Lib.hid (HO0.out _ rfl), Lib.hid ((Below.refl _ _).alloc (Nat.le_refl _) _)⟩
  case round =>
    clear HO0
    obtain ⟨k, hk, rfl, HO, HB⟩ := hrel
    by_cases hlt : k < l.length
    · obtain ⟨B0, o0, rfl, q0, q1, q2, q3, q4, q5, q6, q7, q8, q9⟩ := (HNS.out.below HB.out).at hlt
      have hlt' : ((k : Nat) : Int) < ((l.length : Nat) : Int) := by omega
      have HTK := Lib.hid (show flat (l.take (k + 1)) = flat (l.take k) ++ (NC l[k]).toList from by rw [List.take_succ_eq_append_getElem hlt, flat_append, flat_one])
      have hone : ∀ u ∈ (NC l[k]).toList, u.oneCell' = true := by
        intro u hu
        refine flat_cells [l[k]] u ?_
        rw [flat_one]; exact hu
      generalize l[k] = n at *
      have HOA := Lib.hid ((HO.out.alloc (.cells (NC n) 45)).alloc (.cells (NC n) 54))
      have hsz := HB.out.size
      go_wp2_with (at_builtin; go_loud (refine wpList_append_own _ rfl _ _ 27 rfl w.heap.size 54 i0 _ 10 80 Tryz.underlying27 hi hz0 hz1 hz2 rfl (by decide) _ _ _ rfl HOA.out ⟨_, 0, none⟩ 1 1 (NC n).toList rfl rfl (news_atR (wr.alloc (.cells (NC n) 45)) n _ (by simp)) hone (by unfold maxLen; omega) (by omega) (by simp; omega) ?_))
      rintro v' w4 hown hgrow -
      have HB4 := Lib.hid (((HB.out.alloc hsz (.cells (NC n) 45)).alloc (by simp; omega) (.cells (NC n) 54)).grown hgrow (by simp; omega) (own_ge HOA.out))
      have HO4 := Lib.hid (show w4.ownsRow w.heap.size 54 10 v' (k + 1) (flat (l.take (k + 1))) from by rw [HTK.out]; exact hown)
      clear hown hgrow
      go_wp2
      go_roundw
      case rel => exact ⟨k + 1, by omega, by go_num, HO4, HB4⟩
      case measure => simp [intOf]; omega
    · obtain rfl : k = l.length := by omega
      have HO2 := HO.out
      rw [List.take_length] at HO2
      have HO3 := Lib.hid HO2
      clear HO HO2
      go_wp2
      go_ret
      exact ⟨_, rfl, HO3.out, HB.out⟩
/-- What an own row of the document's nodes holds. -/
theorem own_nsR {w : World} {B : Nat} {v : Value} {l : List Nd} (h : w.ownsRow B 54 10 v l.length (flat l)) : Ns w v l := by
  rcases h.2 with ⟨rfl, h0⟩ | ⟨g, cap, cur, rfl, h1, h2, h3, h4, h5, h6⟩
  · refine ⟨none, 0, by rw [h0], fun i hi => ?_⟩
    omega
  · refine ⟨some ⟨g, 0, none⟩, cap, rfl, fun i hi => ⟨g, 0, rfl, ncell_flat hi fun r hr => ?_⟩⟩
    rw [Lib.cell_of_heap h2, ← h6, Nat.zero_add, List.getElem?_take_of_lt (by omega)]
    simp
end Go.Proofs.YtdjedjfanfbbcaaGreatDoor.Rx
