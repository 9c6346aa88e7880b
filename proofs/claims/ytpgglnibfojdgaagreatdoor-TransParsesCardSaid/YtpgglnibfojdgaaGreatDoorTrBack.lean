/- trans.Back: the walk. -/
import Derived.Test.YtpgglnibfojdgaaGreatDoorTrList
import Derived.Test.YtpgglnibfojdgaaGreatDoorTrPub
import Derived.Lib.BufferRead
namespace Go.Proofs.YtpgglnibfojdgaaGreatDoor.Tr
open Go.RowKit Go.Shelf Bld
set_option linter.unusedVariables false
set_option linter.unusedSimpArgs false
theorem infoByte : (Tryz.prog.info? 5).map (fun i => (i.zero, i.size, i.bytes)) = some (some (.int .u8 0), 1, 1) := by kernel_rfl
def bv (b : UInt8) : Value := .int .u8 (b.toNat : Int)
theorem own_ge {w : World} {B e n : Nat} {v : Value} {xs : List Value} (h : w.ownsRow B e 1 v n xs) : ∀ k, v.ownBlock = some k → B ≤ k := by
  intro k hk
  rcases h.2 with ⟨hv, _⟩ | ⟨g, cap, cur, hv, hb, _⟩
  · subst hv; cases hk
  · subst hv
    have : g = k := by simpa [Value.ownBlock] using hk
    omega
theorem own_slice {w : World} {B e n : Nat} {v : Value} {xs : List Value} (h : w.ownsRow B e 1 v n xs) : ∃ ao n' cap, v = .slice ao n' cap := by
  rcases h.2 with ⟨hv, _⟩ | ⟨g, cap, cur, hv, _⟩
  · exact ⟨_, _, _, hv⟩
  · exact ⟨_, _, _, hv⟩
theorem own_below {w w' : World} {B e n : Nat} {v : Value} {xs : List Value} (h : w.ownsRow B e 1 v n xs) (hb : Below w.heap.size w w') : w'.ownsRow B e 1 v n xs := by
  refine ⟨h.1, ?_⟩
  rcases h.2 with hv | ⟨g, cap, cur, hv, h1, h2, h3⟩
  · exact Or.inl hv
  · exact Or.inr ⟨g, cap, cur, hv, h1, (hb.block g (lt_of_heap h2)).trans h2, h3⟩
theorem one_cell {w : World} {g : Nat} {x : Value} {t : TypeId} {fz : Nat × Nat} (h : w.heap[g]? = some (.cells #[x] t fz)) : ∀ j u, [x][j]? = some u → w.cell? ((⟨g, 0, none⟩ : Addr).add j) = some u := by
  intro j u hj
  match j, hj with
  | 0, hj =>
    rw [Addr.add_lit, Lib.cell_of_heap h]
    simpa using hj
theorem one_one (b : UInt8) : ∀ u ∈ [bv b], u.oneCell' = true := by simp [bv, Value.oneCell']
/-- The bytes that were gathered, as a text. -/
theorem gathered {w : World} {B : Nat} {v : Value} {out : List UInt8} (h : w.ownsRow B 5 1 v out.length (out.map bv)) : (convert 36 9 v).run Tryz.prog w = .ok (S out) w := by
  rcases h.2 with ⟨hv, h0⟩ | ⟨g, cap, cur, hv, h1, h2, h3, h4, h5, h6⟩
  · subst hv
    have : out = [] := List.length_eq_zero_iff.1 h0
    subst this
    exact Lib.run_convert_nil_bytes (P := Tryz.prog) w _ _ _ 0 Tryz.underlying36 Tryz.underlying5 Tryz.underlying9
  · subst hv
    refine run_convert_bytes_back (P := Tryz.prog) w 36 9 5 ⟨g, 0, none⟩ cap out Tryz.underlying36 Tryz.underlying5 Tryz.underlying9 ?_
    intro j hj
    rw [Addr.add_lit, Lib.cell_of_heap h2, Nat.zero_add]
    have e := congrArg (fun z => z[j]?) h6
    simp only [List.getElem?_take, List.getElem?_map, List.getElem?_eq_getElem hj, Option.map_some] at e
    rw [if_pos (by omega)] at e
    simpa [bv] using e
theorem idx_eq (d : UInt8) (w : World) : Calls Tryz.prog 13 #[S [97, 98, 116, 110, 118, 102, 114], Y d.toNat] w fun e w' => e = .returned (E (Lib.indexByte shortL d)) ∧ w' = w := by
  refine (Tryz.strings_IndexByte ⟨[97, 98, 116, 110, 118, 102, 114].toArray⟩ d.toNat w).mono ?_
  rintro e w' ⟨rfl, rfl⟩
  exact ⟨by simp [shortL], rfl⟩
theorem decP_step {r : List UInt8} (h0 : r ≠ []) (h : Lib.hasPrefix r [92, 10] = false) : decP r = (oneL r).1 :: decP (r.drop (oneL r).2) := by
  rw [decP, dif_neg h0, if_neg]
  intro e
  have : Lib.hasPrefix r [92, 10] = true := by
    unfold Lib.hasPrefix
    rw [List.isPrefixOf_iff_prefix]
    exact ⟨r.drop 2, by rw [← e]; exact List.take_append_drop 2 r⟩
  rw [this] at h; cases h
theorem decP_pre {r : List UInt8} (h : Lib.hasPrefix r [92, 10] = true) : decP r = decP (r.drop 2) ∧ 2 ≤ r.length := by
  unfold Lib.hasPrefix at h
  rw [List.isPrefixOf_iff_prefix] at h
  obtain ⟨x, rfl⟩ := h
  exact ⟨decP_fold x, by simp⟩
theorem one_A {c : UInt8} {r1 : List UInt8} (h : c ≠ 92 ∨ r1 = []) : oneL (c :: r1) = (c, 1) := by
  cases r1 with
  | nil => rfl
  | cons d r2 => rcases h with h | h
                 · simp only [oneL]; rw [if_neg h]
                 · cases h
theorem one_B {d : UInt8} {r2 : List UInt8} {j : Nat} (h : Lib.indexByte shortL d = (j : Int)) : oneL (92 :: d :: r2) = (UInt8.ofNat (7 + j), 2) := by
  simp only [oneL]
  rw [if_pos trivial, h, if_neg (by omega)]
  simp
theorem one_C {d : UInt8} {r2 : List UInt8} {x : Nat} (h : Lib.indexByte shortL d < 0) (ho : oct 0 ((d :: r2).take 3) = some x) (hl : 2 ≤ r2.length) : oneL (92 :: d :: r2) = (UInt8.ofNat x, 4) := by
  simp only [oneL]
  rw [if_pos trivial, if_pos h, ho]
  simp only
  rw [if_pos hl]
theorem one_D {d : UInt8} {r2 : List UInt8} (h : Lib.indexByte shortL d < 0) (ho : oct 0 ((d :: r2).take 3) = none ∨ r2.length < 2) : oneL (92 :: d :: r2) = (92, 2) := by
  simp only [oneL]
  rw [if_pos trivial, if_pos h]
  rcases ho with ho | ho
  · rw [ho]
  · split
    · rw [if_neg (by omega)]
    · rfl
def strLen : Value → Nat
  | .string s => s.size
  | _ => 0
theorem strLen_S (r : List UInt8) : strLen (S r) = r.length := by simp [strLen, ByteArray.size]
theorem ext_end (l : List UInt8) (k : Nat) : (⟨l.toArray⟩ : ByteArray).extract k l.length = ⟨(l.drop k).toArray⟩ := by
  rw [Go.Lib.extract_eq]
  congr 2
  exact List.take_of_length_le (by simp)
theorem ext_three (l : List UInt8) (m : Nat) (hm : m = min 4 l.length) : (⟨l.toArray⟩ : ByteArray).extract 1 m = ⟨((l.drop 1).take 3).toArray⟩ := by
  subst hm
  rw [Go.Lib.extract_eq]
  congr 2
  rw [List.take_eq_take_iff]
  simp; omega
theorem short_lt : ∀ d : UInt8, Lib.indexByte shortL d < 7 ∧ -1 ≤ Lib.indexByte shortL d := fun d => every (p := fun d => Lib.indexByte shortL d < 7 ∧ -1 ≤ Lib.indexByte shortL d) (by decide +kernel) d
set_option maxRecDepth 100000 in
set_option maxHeartbeats 1600000 in
theorem back_any (s : List UInt8) (w : World) (hT : Tab w) (hE : Errs w) (hl : s.length ≤ 3000) :
    Calls Tryz.prog 10 #[S s] w fun e w' => e = .returned (.tuple #[S (backP s).1, E (backP s).2]) ∧ Below w.heap.size w w' := by
  obtain ⟨i0, hi, hz0, hz1, hz2⟩ := info_parts infoByte
  have HC := Lib.hid (Tryz.strings_CutSuffix ⟨s.toArray⟩ ⟨#[36, 10]⟩ w (by simp [ByteArray.size]; omega))
  cases hs : Lib.hasSuffix s [36, 10]
  · have HU := Lib.hid (show backP s = ([], 1) from by unfold backP; rw [hs]; rfl)
    have HS := Lib.hid hs
    clear hs hi hz0 hz1 hz2
    go_enter Tryz.func10, Tryz.ntmps10
    go_wp2_with (go_at_call 17; refine HC.out.mono ?_; rintro e w' ⟨rfl, hw⟩; have hw2 := hw.symm; clear hw; subst hw2; rw [show Lib.hasSuffix (ByteArray.mk s.toArray).data.toList (ByteArray.mk #[36, 10]).data.toList = false from by simpa using HS.out])
    go_ret2
    rw [HU.out]
    exact ⟨rfl, Below.refl _ _⟩
  · obtain ⟨R, hR⟩ : ∃ R, s.take (s.length - 2) = R := ⟨_, rfl⟩
    have hRl : R.length ≤ 3000 := by rw [← hR]; simp; omega
    have HU := Lib.hid (show backP s = if okL (decP R) s then (decP R, 0) else ([], 1) from by unfold backP; rw [hs, hR]; rfl)
    have HTR := Lib.hid (show Lib.trimSuffix (ByteArray.mk s.toArray).data.toList (ByteArray.mk #[36, 10]).data.toList = R from by
      rw [← hR]; simp [Lib.trimSuffix, hs])
    have HS := Lib.hid hs
    have HT := Lib.hid hT
    have HE := Lib.hid hE
    clear hs hR hT hE
    go_enter Tryz.func10, Tryz.ntmps10
    go_wp2_with (go_at_call 17; refine HC.out.mono ?_; rintro e w' ⟨rfl, hw⟩; have hw2 := hw.symm; clear hw; subst hw2; rw [HTR.out, show Lib.hasSuffix (ByteArray.mk s.toArray).data.toList (ByteArray.mk #[36, 10]).data.toList = true from by simpa using HS.out])
    go_loopw [4, 6] (fun rest bs wr => ∃ out r, rest = S r ∧ Hid (wr.ownsRow w.heap.size 5 1 bs out.length (out.map bv)) ∧ Hid (Below w.heap.size w wr) ∧ out.length + r.length ≤ 3000 ∧ Hid (decP R = out ++ decP r)) (fun rest _ _ => strLen rest)
    case atStart => exact ⟨[], R, rfl, Lib.hid (World.ownsRow_nil _ _ _ _), Lib.hid (Below.refl _ _), by simpa using hRl, Lib.hid (by simp)⟩
    case round =>
      obtain ⟨out, r, rfl, HO, HBW, hlen, HD⟩ := hrel
      have hws := HBW.out.size
      have hsr : (ByteArray.mk r.toArray).size = r.length := by simp [ByteArray.size]
      have HCP : Hid (∀ w, Calls Tryz.prog 18 #[S r, .string ⟨#[92, 10]⟩] w fun e w' => e = .returned (.tuple #[S (Lib.trimPrefix r [92, 10]), .bool (Lib.hasPrefix r [92, 10])]) ∧ w' = w) := Lib.hid fun w => by
        have := Tryz.strings_CutPrefix ⟨r.toArray⟩ ⟨#[92, 10]⟩ w
        simpa using this
      by_cases h0 : r = []
      · subst h0
        have HFIN := Lib.hid (show decP R = out from by rw [HD.out, decP_nil]; simp)
        have hcv := gathered HO.out
        have hol : out.length ≤ 10000 := by omega
        have HB0 := HBW
        clear HCP HD HO HBW hws hsr hlen
        go_wp2
        go_loopw [73] (fun i wr => ∃ k : Nat, k ≤ 301 ∧ i = .int .i64 (k : Nat) ∧ Hid (Below w.heap.size w wr) ∧ Hid (∀ j, j < k → listL out (j : Int) ≠ s)) (fun i _ => 301 - (intOf i).toNat)
        case atStart => exact ⟨0, by omega, rfl, HB0, Lib.hid (fun j hj => by omega)⟩
        case round =>
          clear hcv HB0
          obtain ⟨k, hk, rfl, HBK, HNO⟩ := hrel
          by_cases hlt : k < 301
          · have HLS := Lib.hid (list_any out (k : Int) wr (HT.out.below HBK.out) hol)
            cases heq : (listL out (k : Int) == s)
            · have HNE := Lib.hid (show ∀ j, j < k + 1 → listL out (j : Int) ≠ s from fun j hj => by
                by_cases hjk : j = k
                · subst hjk; simpa using heq
                · exact HNO.out j (by omega))
              obtain ⟨ls, hls⟩ : ∃ ls, listL out (k : Int) = ls := ⟨_, rfl⟩
              rw [hls] at HLS heq
              clear hls
              go_wp2_with (go_at_call 12; refine HLS.out.mono ?_; rintro e w5 ⟨rfl, hb5⟩; have HB5 := Lib.hid (HBK.out.trans (hb5.mono HBK.out.size)); clear hb5)
              go_roundw
              case rel => exact ⟨k + 1, by omega, by go_num, HB5, HNE⟩
              case measure => simp [intOf]; omega
            · have HOK := Lib.hid (show okL out s = true from by
                unfold okL
                rw [List.any_eq_true]
                exact ⟨k, List.mem_range.2 hlt, heq⟩)
              obtain ⟨ls, hls⟩ : ∃ ls, listL out (k : Int) = ls := ⟨_, rfl⟩
              rw [hls] at HLS heq
              clear hls
              go_wp2_with (go_at_call 12; refine HLS.out.mono ?_; rintro e w5 ⟨rfl, hb5⟩; have HB5 := Lib.hid (HBK.out.trans (hb5.mono HBK.out.size)); clear hb5)
              go_ret2
              rw [HU.out, HFIN.out, if_pos HOK.out]
              exact ⟨rfl, HB5.out⟩
          · obtain rfl : k = 301 := by omega
            have HOK := Lib.hid (show ¬ okL out s = true from by
              unfold okL
              rw [List.any_eq_true]
              rintro ⟨j, hj, he⟩
              exact HNO.out j (List.mem_range.1 hj) (by simpa using he))
            go_wp2
            go_ret2
            rw [HU.out, HFIN.out, if_neg HOK.out]
            exact ⟨rfl, HBK.out⟩
      have hpos : 0 < r.length := List.length_pos_iff.2 h0
      have hne : (r == []) = false := by simpa using h0
      cases hp : Lib.hasPrefix r [92, 10]
      case true =>
        obtain ⟨hd, h2⟩ := decP_pre hp
        have hd' := hd
        have HX := Lib.hid (show Lib.trimPrefix r [92, 10] = r.drop 2 from by unfold Lib.trimPrefix; rw [hp]; rfl)
        have HPT := Lib.hid hp
        have HN := Lib.hid (show decP R = out ++ decP (r.drop 2) from by rw [HD.out, hd])
        clear hd hd' hp h0 HD
        go_wp2_with (go_at_call 18; refine (HCP.out _).mono ?_; rintro e w' ⟨rfl, hw⟩; have hw2 := hw.symm; clear hw; subst hw2; rw [HX.out, HPT.out])
        go_roundw
        case rel => exact ⟨out, r.drop 2, rfl, HO, HBW, by simp; omega, HN⟩
        case measure => simp [strLen, ByteArray.size]; omega
      have HX := Lib.hid (show Lib.trimPrefix r [92, 10] = r from by unfold Lib.trimPrefix; rw [hp]; rfl)
      have HPF := Lib.hid hp
      have HSTEP := Lib.hid (decP_step h0 hp)
      clear hp h0
      have ee := ext_end r
      obtain ⟨c, r1, hr⟩ : ∃ c r1, r = c :: r1 := by cases r with | nil => simp at hpos | cons c r1 => exact ⟨c, r1, rfl⟩
      have HR := Lib.hid hr
      have hx0 : ((ByteArray.mk r.toArray)[0]'(by rw [hsr]; exact hpos)) = c := by subst hr; rfl
      have hr1 : r.length = r1.length + 1 := by rw [hr]; rfl
      clear hr
      by_cases hA : c ≠ 92 ∨ r1 = []
      · have HONE := Lib.hid (show decP r = c :: decP (r.drop 1) from by
          have := HSTEP.out
          rw [show oneL r = (c, 1) from by rw [HR.out]; exact one_A hA] at this
          exact this)
        by_cases h92 : c = 92
        · have hl1 : r.length = 1 := by
            have : r1 = [] := by rcases hA with h | h
                                 · exact absurd h92 h
                                 · exact h
            rw [hr1, this]; rfl
          have hb92 : ((c.toNat : Int) == 92) = true := by rw [h92]; rfl
          have hlb : ¬ (1 : Int) < (r.length : Nat) := by omega
          clear hA h92 hr1 HR HSTEP hl1
          go_wp2_with (first | (go_at_call 18; refine (HCP.out _).mono ?_; rintro e w' ⟨rfl, hw⟩; have hw2 := hw.symm; clear hw; subst hw2; rw [HX.out, HPF.out]) | (at_builtin; refine wpList_append_own _ rfl _ _ 36 rfl w.heap.size 5 i0 _ 1 1 Tryz.underlying36 hi hz0 hz1 hz2 rfl (by decide) _ _ _ rfl (HO.out.alloc _) ⟨wr.heap.size, 0, none⟩ 1 1 [bv c] rfl rfl (one_cell (heap_alloc_new _ _)) (one_one _) (by unfold maxLen; omega) (by omega) (by simp; omega) ?_))
          rintro v' w3 hown hgrow -
          have HB3 := Lib.hid ((HBW.out.alloc HBW.out.size _).grown hgrow (by have := HBW.out.size; simp; omega) (own_ge HO.out))
          have HO3 : Hid (w3.ownsRow w.heap.size 5 1 v' (out ++ [c]).length ((out ++ [c]).map bv)) := Lib.hid (by simpa using hown)
          obtain ⟨ao, n', cap', rfl⟩ := own_slice hown
          clear hown hgrow HO HBW
          go_wp2
          go_roundw
          case rel => exact ⟨out ++ [c], r.drop 1, by first | rfl | simp, HO3, HB3, by simp; omega, Lib.hid (by rw [HD.out, HONE.out]; simp)⟩
          case measure => simp [strLen, ByteArray.size]; omega
        · have hb92 : ((c.toNat : Int) == 92) = false := by
            rw [beq_eq_false_iff_ne]; intro h; exact h92 (UInt8.toNat_inj.1 (by simpa using (by omega : c.toNat = 92)))
          clear hA h92 hr1 HR HSTEP
          go_wp2_with (first | (go_at_call 18; refine (HCP.out _).mono ?_; rintro e w' ⟨rfl, hw⟩; have hw2 := hw.symm; clear hw; subst hw2; rw [HX.out, HPF.out]) | (at_builtin; refine wpList_append_own _ rfl _ _ 36 rfl w.heap.size 5 i0 _ 1 1 Tryz.underlying36 hi hz0 hz1 hz2 rfl (by decide) _ _ _ rfl (HO.out.alloc _) ⟨wr.heap.size, 0, none⟩ 1 1 [bv c] rfl rfl (one_cell (heap_alloc_new _ _)) (one_one _) (by unfold maxLen; omega) (by omega) (by simp; omega) ?_))
          rintro v' w3 hown hgrow -
          have HB3 := Lib.hid ((HBW.out.alloc HBW.out.size _).grown hgrow (by have := HBW.out.size; simp; omega) (own_ge HO.out))
          have HO3 : Hid (w3.ownsRow w.heap.size 5 1 v' (out ++ [c]).length ((out ++ [c]).map bv)) := Lib.hid (by simpa using hown)
          obtain ⟨ao, n', cap', rfl⟩ := own_slice hown
          clear hown hgrow HO HBW
          go_wp2
          go_roundw
          case rel => exact ⟨out ++ [c], r.drop 1, by first | rfl | simp, HO3, HB3, by simp; omega, Lib.hid (by rw [HD.out, HONE.out]; simp)⟩
          case measure => simp [strLen, ByteArray.size]; omega
      have h92 : c = 92 := Classical.byContradiction fun h => hA (Or.inl h)
      have hr1n : r1 ≠ [] := fun h => hA (Or.inr h)
      subst h92
      obtain ⟨d, r2, hr2⟩ : ∃ d r2, r1 = d :: r2 := by cases r1 with | nil => exact absurd rfl hr1n | cons d r2 => exact ⟨d, r2, rfl⟩
      subst hr2
      clear hA hr1n
      have hl2 : r.length = r2.length + 2 := by rw [hr1]; rfl
      have hlb : (1 : Int) < (r.length : Nat) := by omega
      have hlt1 : 1 < (ByteArray.mk r.toArray).size := by rw [hsr]; omega
      have hx1 : ((ByteArray.mk r.toArray)[1]'hlt1) = d := by
        have h := HR.out
        subst h
        rfl
      have hx0' : (((92 : UInt8).toNat : Nat) : Int) = 92 := rfl
      have HL2 := Lib.hid hl2
      have hsl := short_lt d
      obtain ⟨ix, hix⟩ : ∃ ix, Lib.indexByte shortL d = ix := ⟨_, rfl⟩
      rw [hix] at hsl
      have HIX := Lib.hid hix
      by_cases hi0 : 0 ≤ ix
      · obtain ⟨j, rfl⟩ : ∃ j : Nat, ix = (j : Int) := ⟨ix.toNat, by omega⟩
        have hj : j < 7 := by omega
        obtain ⟨cc, hcc, hc7⟩ : ∃ cc : UInt8, UInt8.ofNat (7 + j) = cc ∧ (7 : Int) + ((j : Nat) : Int) = ((cc.toNat : Nat) : Int) := ⟨_, rfl, by
          have : (UInt8.ofNat (7 + j)).toNat = (7 + j) % 256 := rfl
          rw [this]; omega⟩
        have HONE := Lib.hid (show decP r = cc :: decP (r.drop 2) from by
          have := HSTEP.out
          rw [show oneL r = (cc, 2) from by rw [HR.out, one_B hix, hcc]] at this
          exact this)
        clear HR HSTEP hcc hix hsl hi0 hr1 hl2
        have hj7 : ((j : Nat) : Int) < 7 := by omega
        go_wp2_with (first | (go_at_call 18; refine (HCP.out _).mono ?_; rintro e w' ⟨rfl, hw⟩; have hw2 := hw.symm; clear hw; subst hw2; rw [HX.out, HPF.out]) | (go_at_call 13; refine (idx_eq d _).mono ?_; rintro e w' ⟨rfl, hw⟩; have hw2 := hw.symm; clear hw; subst hw2; rw [HIX.out]) | (at_builtin; refine wpList_append_own _ rfl _ _ 36 rfl w.heap.size 5 i0 _ 1 1 Tryz.underlying36 hi hz0 hz1 hz2 rfl (by decide) _ _ _ rfl (HO.out.alloc _) ⟨wr.heap.size, 0, none⟩ 1 1 [bv cc] rfl rfl (one_cell (heap_alloc_new _ _)) (one_one _) (by unfold maxLen; omega) (by omega) (by simp; omega) ?_))
        rintro v' w3 hown hgrow -
        have HB3 := Lib.hid ((HBW.out.alloc HBW.out.size _).grown hgrow (by have := HBW.out.size; simp; omega) (own_ge HO.out))
        have HO3 : Hid (w3.ownsRow w.heap.size 5 1 v' (out ++ [cc]).length ((out ++ [cc]).map bv)) := Lib.hid (by simpa using hown)
        obtain ⟨ao, n', cap', rfl⟩ := own_slice hown
        clear hown hgrow HO HBW
        go_wp2
        go_roundw
        case rel => exact ⟨out ++ [cc], r.drop 2, by first | rfl | simp, HO3, HB3, by simp; omega, Lib.hid (by rw [HD.out, HONE.out]; simp)⟩
        case measure => simp [strLen, ByteArray.size]; omega
      have hineg : ix < 0 := by omega
      have hin : ¬ 0 ≤ ix := by omega
      have et := ext_three r (min 4 r.length) rfl
      obtain ⟨t, ht⟩ : ∃ t, (r.drop 1).take 3 = t := ⟨_, rfl⟩
      have ht2 : (d :: r2).take 3 = t := by rw [← ht, HR.out, List.drop_succ_cons, List.drop_zero]
      have htl : t.length = min 3 (r2.length + 1) := by rw [← ht2]; simp; omega
      rw [ht] at et
      have hmn : (min (4 : Int) ((r.length : Nat) : Int)) = ((min 4 r.length : Nat) : Int) := by omega
      have hmn1 : (1 : Int) ≤ ((min 4 r.length : Nat) : Int) := by omega
      have hmn2 : ((min 4 r.length : Nat) : Int) ≤ ((r.length : Nat) : Int) := by omega
      obtain ⟨m, hm⟩ : ∃ m, min 4 r.length = m := ⟨_, rfl⟩
      rw [hm] at et hmn hmn1 hmn2
      clear hm ht
      have HPB := Lib.hid (fun (wq : World) (hb : Below w.heap.size w wq) => pub8_any t (by omega) (by omega) wq (HE.out.below hb))
      have HONEC := Lib.hid (fun (x : Nat) (ho : oct 0 t = some x) (h2 : 2 ≤ r2.length) => show decP r = UInt8.ofNat x :: decP (r.drop 4) from by
          have := HSTEP.out
          rw [show oneL r = (UInt8.ofNat x, 4) from by rw [HR.out]; exact one_C (by rw [hix]; exact hineg) (by rw [ht2]; exact ho) h2] at this
          exact this)
      have HONED := Lib.hid (fun (h : oct 0 t = none ∨ r2.length < 2) => show decP r = 92 :: decP (r.drop 2) from by
          have := HSTEP.out
          rw [show oneL r = (92, 2) from by rw [HR.out]; exact one_D (by rw [hix]; exact hineg) (by rw [ht2]; exact h)] at this
          exact this)
      clear HR HSTEP hix hsl hi0 hr1 ht2 htl hl2
      go_wp2_with (first | (go_at_call 18; refine (HCP.out _).mono ?_; rintro e w' ⟨rfl, hw⟩; have hw2 := hw.symm; clear hw; subst hw2; rw [HX.out, HPF.out]) | (go_at_call 13; refine (idx_eq d _).mono ?_; rintro e w' ⟨rfl, hw⟩; have hw2 := hw.symm; clear hw; subst hw2; rw [HIX.out]) | (go_at_call 19; refine (HPB.out _ HBW.out).mono ?_))
      rintro e w4 ⟨hp, hb4⟩
      have HO4 := Lib.hid (own_below HO.out hb4)
      have HBW4 := Lib.hid (HBW.out.trans (hb4.mono hws))
      have hws4 : w.heap.size ≤ w4.heap.size := HBW4.out.size
      clear HO HBW hb4
      have HO := HO4
      have HBW := HBW4
      clear HO4 HBW4 HPB hmn hmn1 hmn2 et
      rcases hp with ⟨x, ho, rfl⟩ | ⟨ho, v, te, pe, rfl⟩
      · by_cases h3 : 3 < r.length
        · obtain ⟨cc, rfl⟩ : ∃ cc : UInt8, x = cc.toNat := ⟨UInt8.ofNat x, by
            have hx := oct_le _ _ _ (by omega) ho
            have : (UInt8.ofNat x).toNat = x % 256 := rfl
            rw [this]; omega⟩
          have HONE := Lib.hid (show decP r = cc :: decP (r.drop 4) from by
            have := HONEC.out cc.toNat ho (by have := HL2.out; omega)
            rwa [UInt8.ofNat_toNat] at this)
          have h3' : (3 : Int) < ((r.length : Nat) : Int) := by omega
          have hcb := UInt8.toNat_lt cc
          have hcm : ((cc.toNat : Nat) : Int) % 256 = ((cc.toNat : Nat) : Int) := by omega
          clear ho HONEC HONED
          go_wp2_with (first | (at_builtin; refine wpList_append_own _ rfl _ _ 36 rfl w.heap.size 5 i0 _ 1 1 Tryz.underlying36 hi hz0 hz1 hz2 rfl (by decide) _ _ _ rfl (HO.out.alloc _) ⟨w4.heap.size, 0, none⟩ 1 1 [bv cc] rfl rfl (one_cell (heap_alloc_new _ _)) (one_one _) (by unfold maxLen; omega) (by omega) (by simp; omega) ?_))
          rintro v' w3 hown hgrow -
          have HB3 := Lib.hid ((HBW.out.alloc HBW.out.size _).grown hgrow (by have := HBW.out.size; simp; omega) (own_ge HO.out))
          have HO3 : Hid (w3.ownsRow w.heap.size 5 1 v' (out ++ [cc]).length ((out ++ [cc]).map bv)) := Lib.hid (by simpa using hown)
          obtain ⟨ao, n', cap', rfl⟩ := own_slice hown
          clear hown hgrow HO HBW
          go_wp2
          go_roundw
          case rel => exact ⟨out ++ [cc], r.drop 4, by first | rfl | simp, HO3, HB3, by simp; omega, Lib.hid (by rw [HD.out, HONE.out]; simp)⟩
          case measure => simp [strLen, ByteArray.size]; omega
        · have HONE := Lib.hid (HONED.out (Or.inr (by have := HL2.out; omega)))
          have h3' : ¬ (3 : Int) < ((r.length : Nat) : Int) := by omega
          clear ho HONEC HONED
          go_wp2_with (first | (at_builtin; refine wpList_append_own _ rfl _ _ 36 rfl w.heap.size 5 i0 _ 1 1 Tryz.underlying36 hi hz0 hz1 hz2 rfl (by decide) _ _ _ rfl (HO.out.alloc _) ⟨w4.heap.size, 0, none⟩ 1 1 [bv 92] rfl rfl (one_cell (heap_alloc_new _ _)) (one_one _) (by unfold maxLen; omega) (by omega) (by simp; omega) ?_))
          rintro v' w3 hown hgrow -
          have HB3 := Lib.hid ((HBW.out.alloc HBW.out.size _).grown hgrow (by have := HBW.out.size; simp; omega) (own_ge HO.out))
          have HO3 : Hid (w3.ownsRow w.heap.size 5 1 v' (out ++ [92]).length ((out ++ [92]).map bv)) := Lib.hid (by simpa using hown)
          obtain ⟨ao, n', cap', rfl⟩ := own_slice hown
          clear hown hgrow HO HBW
          go_wp2
          go_roundw
          case rel => exact ⟨out ++ [92], r.drop 2, by first | rfl | simp, HO3, HB3, by simp; omega, Lib.hid (by rw [HD.out, HONE.out]; simp)⟩
          case measure => simp [strLen, ByteArray.size]; omega
      · have HONE := Lib.hid (HONED.out (Or.inl ho))
        clear ho HONEC HONED
        go_wp2_with (first | (at_builtin; refine wpList_append_own _ rfl _ _ 36 rfl w.heap.size 5 i0 _ 1 1 Tryz.underlying36 hi hz0 hz1 hz2 rfl (by decide) _ _ _ rfl (HO.out.alloc _) ⟨w4.heap.size, 0, none⟩ 1 1 [bv 92] rfl rfl (one_cell (heap_alloc_new _ _)) (one_one _) (by unfold maxLen; omega) (by omega) (by simp; omega) ?_))
        rintro v' w3 hown hgrow -
        have HB3 := Lib.hid ((HBW.out.alloc HBW.out.size _).grown hgrow (by have := HBW.out.size; simp; omega) (own_ge HO.out))
        have HO3 : Hid (w3.ownsRow w.heap.size 5 1 v' (out ++ [92]).length ((out ++ [92]).map bv)) := Lib.hid (by simpa using hown)
        obtain ⟨ao, n', cap', rfl⟩ := own_slice hown
        clear hown hgrow HO HBW
        go_wp2
        go_roundw
        case rel => exact ⟨out ++ [92], r.drop 2, by first | rfl | simp, HO3, HB3, by simp; omega, Lib.hid (by rw [HD.out, HONE.out]; simp)⟩
        case measure => simp [strLen, ByteArray.size]; omega

end Go.Proofs.YtpgglnibfojdgaaGreatDoor.Tr
