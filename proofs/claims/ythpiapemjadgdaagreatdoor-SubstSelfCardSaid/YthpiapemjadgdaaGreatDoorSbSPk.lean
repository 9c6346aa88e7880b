/- Subst: what a text becomes: plain, and the walk. -/
import Derived.Test.YthpiapemjadgdaaGreatDoorSbFPk
import Derived.Test.YthpiapemjadgdaaGreatDoorCk26
import Derived.Test.YthpiapemjadgdaaGreatDoorFnNPk
import Derived.Test.YthpiapemjadgdaaGreatDoorCk07
import Derived.Deep.LoopGhost
import Derived.Laws.Concat
namespace Go.Proofs.YthpiapemjadgdaaGreatDoor.Mt
open Go.RowKit Go.Shelf
open Go.Proofs.YthpiapemjadgdaaGreatDoor.Rx
open Go.Proofs.YthpiapemjadgdaaGreatDoor.Rx.Tr
open Go.Proofs.YthpiapemjadgdaaGreatDoor.Fn
open Go.Proofs.YthpiapemjadgdaaGreatDoor.St (Wf word mem SV SV_eq)
open Go.Proofs.YthpiapemjadgdaaGreatDoor.Bld (IsB Kept writeString_any)
set_option linter.unusedVariables false
set_option linter.unusedSimpArgs false
def subS (T : List UInt8) (fl : Caps → List UInt8) (nth : Int) (all : Bool) : List Caps → Nat → Nat × Nat × List UInt8 → Nat × Nat × List UInt8
  | [], _, s => s
  | c :: r, i, s => if (i : Int) + 1 < nth then subS T fl nth all r (i + 1) s
    else if all = true then subS T fl nth all r (i + 1) (to0 c, s.2.1 + 1, s.2.2 ++ (cutT T s.1 (from0 c) ++ fl c))
    else (to0 c, s.2.1 + 1, s.2.2 ++ (cutT T s.1 (from0 c) ++ fl c))
def subP (T : List UInt8) (fl : Caps → List UInt8) (nth : Int) (all : Bool) (L : List Caps) : List UInt8 × Nat :=
  ((subS T fl nth all L 0 (0, 0, [])).2.2 ++ T.drop (subS T fl nth all L 0 (0, 0, [])).1, (subS T fl nth all L 0 (0, 0, [])).2.1)
/-- Finds, one behind the other, each in the text. -/
structure Row (N : Nat) (L : List Caps) : Prop where
  ok : ∀ (i : Nat) (c : Caps), L[i]? = some c → CapsOk N c ∧ gr c 0 = some (from0 c, to0 c) ∧ from0 c ≤ to0 c ∧ to0 c ≤ N
  up : ∀ (i j : Nat) (c d : Caps), i < j → L[i]? = some c → L[j]? = some d → to0 c ≤ from0 d
  len : L.length ≤ 2 * (N + 1) + 1
theorem row_all {F : Nat → Option Caps} {N : Nat} (hF : FOk N F) : Row N (allF F N) := by
  have hup : ∀ (i : Nat) (b c : Caps), (allF F N)[i]? = some b → (allF F N)[i + 1]? = some c → to0 b ≤ from0 c := fun i b c h1 h2 => by
    rw [all_next hF h1] at h2
    unfold headF at h2
    split at h2
    · cases h2
    · rename_i d hd
      split at h2
      · have := (first_at hF h2).1
        omega
      · obtain rfl := Option.some.inj h2
        exact (first_at hF hd).1
  refine ⟨fun i c h => all_at hF h, ?_, fin_len F N _ _ _⟩
  intro i j
  induction j with
  | zero => intro c d h; omega
  | succ j ih =>
    intro c d hij hc hd
    have hj : j < (allF F N).length := by have := (List.getElem?_eq_some_iff.1 hd).1; omega
    have h0 := hup j _ d (List.getElem?_eq_getElem hj) hd
    by_cases e : i = j
    · subst e
      rw [List.getElem?_eq_getElem hj] at hc
      obtain rfl := Option.some.inj hc
      exact h0
    · have h1 := ih c _ (by omega) hc (List.getElem?_eq_getElem hj)
      obtain ⟨_, _, h2, _⟩ := all_at hF (List.getElem?_eq_getElem hj)
      omega
/-- Finds in memory: their block whole. -/
def CsH (w : World) (ae : Option Addr) (L : List Caps) : Prop := L = [] ∨ ∃ g cs, ae = some ⟨g, 0, none⟩ ∧ w.heap[g]? = some (.cells cs 27 (0, 0)) ∧ ∀ i (hi : i < L.length) r, r < 10 → cs[i * 10 + r]? = (CC L[i])[r]?
theorem csh_own {w : World} {B : Nat} {v : Value} {L : List Caps} (h : w.ownsRow B 27 10 v L.length (flC L)) : ∃ ae cap, v = .slice ae L.length cap ∧ CsH w ae L := by
  rcases h.2 with ⟨rfl, h0⟩ | ⟨g, cap, cur, rfl, h1, h2, h3, h4, h5, h6⟩
  · exact ⟨none, 0, by rw [h0], Or.inl (List.length_eq_zero_iff.1 h0)⟩
  · refine ⟨_, cap, rfl, Or.inr ⟨g, _, rfl, h2, fun i hi r hr => ?_⟩⟩
    have e : cur[i * 10 + r]? = (flC L)[i * 10 + r]? := by
      rw [← h6, List.getElem?_take_of_lt (by omega), Array.getElem?_toList]
    rw [e, flC_get L i hi r hr]
theorem CsH.below {w w' : World} {ae : Option Addr} {L : List Caps} (h : CsH w ae L) (hb : Below w.heap.size w w') : CsH w' ae L := h.imp id fun ⟨g, cs, h1, h2, h3⟩ => ⟨g, cs, h1, (hb.block g (lt_heap' h2)).trans h2, h3⟩
theorem CsH.kept {w w' : World} {ae : Option Addr} {L : List Caps} {b : Nat} {cs : Array Value} (h : CsH w ae L) (hb : w.heap[b]? = some (.cells cs 96 (0, 0))) (hk : Kept b w w') : CsH w' ae L := h.imp id fun ⟨g, cs, h1, h2, h3⟩ => ⟨g, cs, h1, hk g _ h2 (fun e => by
    obtain rfl := Option.some.inj e
    rw [h2] at hb
    simp only [Option.some.injEq, Obj.cells.injEq] at hb
    exact absurd hb.2.1 (by decide)) (fun c fz e => by
    simp only [Obj.cells.injEq] at e
    exact absurd e.2.1 (by decide)), h3⟩
theorem CsH.at {w : World} {ae : Option Addr} {L : List Caps} (h : CsH w ae L) {i : Nat} (hi : i < L.length) : ∃ g, ae = some ⟨g, 0, none⟩ ∧ w.rangeAt g (i * 10) (CC L[i]).toList := by
  rcases h with rfl | ⟨g, cs, h1, h2, h3⟩
  · simp at hi
  · refine ⟨g, h1, fun j u hj => ?_⟩
    have hl : j < 10 := by
      have := (List.getElem?_eq_some_iff.1 hj).1
      simpa using this
    rw [Lib.cell_of_heap h2, h3 i hi j hl]
    simpa using hj
/-- While a text is put together. -/
structure SSt (w : World) (ae : Option Addr) (L : List Caps) (out : List UInt8) (wr : World) : Prop where
  bld : IsB w.heap.size w.heap.size out wr
  bel : Below w.heap.size w wr
  cs : CsH wr ae L
theorem isb_heap {B b : Nat} {l : List UInt8} {w : World} (h : IsB B b l w) : ∃ cs, w.heap[b]? = some (.cells cs 96 (0, 0)) := by
  rcases h with ⟨_, v, h2, _⟩ | ⟨_, v, h2, _⟩
  · exact ⟨_, h2⟩
  · exact ⟨_, h2⟩
theorem g16_ne {B b g : Nat} {l : List UInt8} {c : Caps} {w : World} (h : IsB B b l w) (hg : CB w g c) : some g ≠ some b := by
  intro e
  obtain rfl := Option.some.inj e
  obtain ⟨cs, hc⟩ := isb_heap h
  rw [hg] at hc
  simp only [Option.some.injEq, Obj.cells.injEq] at hc
  exact absurd hc.2.1 (by decide)
theorem SSt.below {w wr w' : World} {ae : Option Addr} {L : List Caps} {out : List UInt8} (h : SSt w ae L out wr) (hb : Below wr.heap.size wr w') : SSt w ae L out w' :=
  ⟨isb_below h.bld hb, h.bel.trans (hb.mono h.bel.size), h.cs.below hb⟩
theorem SSt.write {w wr w' : World} {ae : Option Addr} {L : List Caps} {out s : List UInt8} (h : SSt w ae L out wr) (h1 : Lib.BuilderAtF 96 5 w.heap.size w.heap.size (.pointer (some ⟨w.heap.size, 0, none⟩)) (Lib.byteCells out ++ Lib.strCells ⟨s.toArray⟩) w') (h2 : Below w.heap.size wr w') (h3 : Kept w.heap.size wr w') : SSt w ae L (out ++ s) w' := by
  obtain ⟨cs, hc⟩ := isb_heap h.bld
  exact ⟨isb_write h1, h.bel.trans h2, h.cs.kept hc h3⟩
theorem capok_at {N : Nat} {c : Caps} (h : CapsOk N c) {a b : Nat} (hg : gr c 0 = some (a, b)) : CapOk N (some (a, b)) := by rw [← hg]; exact h.at 0
theorem ex_cut (T : List UInt8) (a b : Nat) : (⟨T.toArray⟩ : ByteArray).extract a b = ⟨(cutT T a b).toArray⟩ := by
  rw [Go.Lib.extract_eq]
  unfold cutT
  simp [List.drop_take]
theorem ex_from (T : List UInt8) (a : Nat) : (⟨T.toArray⟩ : ByteArray).extract a T.length = ⟨(T.drop a).toArray⟩ := by
  rw [ex_cut]
  unfold cutT
  rw [List.take_of_length_le (by simp)]
theorem app_arr (a b : List UInt8) : (⟨a.toArray⟩ : ByteArray) ++ ⟨b.toArray⟩ = ⟨(a ++ b).toArray⟩ := by
  apply ByteArray.ext
  simp
set_option maxRecDepth 100000 in
set_option maxHeartbeats 6400000 in
theorem sub_any (v : Value) (pa : Option Addr) (pc : Nat) (l : List Pt) (T : List UInt8) (hT : T.length ≤ 10000) (nth : Int) (all : Bool) (hl : l.length ≤ 1000) (hb : ∀ p ∈ l, p.t.length ≤ 100000) (L : List Caps) (hL : Row T.length L) (w : World) (h : PIn w pa l)
    (hA : ∀ W : World, Below w.heap.size w W → Calls Tryz.prog 19 #[v, S T] W fun e w' => AllAns W L e w') (R : List UInt8 × Nat) (hR : R = subP T (fun c => fillP T c l) nth all L) :
    Calls Tryz.prog 31 #[v, S T, .slice pa l.length pc, E nth, .bool all] w fun e w' => e = .returned (.tuple #[S R.1, E (R.2 : Nat)]) ∧ Below w.heap.size w w' := by
  have HZ := Lib.hid (show IsB w.heap.size w.heap.size [] (w.alloc (.cells #[.pointer none, .slice none 0 0] 96)) ∧ Below w.heap.size w (w.alloc (.cells #[.pointer none, .slice none 0 0] 96)) from ⟨isb_new w, (Below.refl _ _).alloc (Nat.le_refl _) _⟩)
  have HA := Lib.hid hA
  have HT := Lib.hid hT
  have HRW := Lib.hid hL
  have hsz : (ByteArray.mk T.toArray).size = T.length := by simp [ByteArray.size]
  have HFI := Lib.hid (fun (c : Caps) (hc : CapsOk T.length c) (W : World) (hw : Below w.heap.size w W) => fill_any pa pc l T (by omega) c hc W (h.below hw) hl hb _ rfl)
  have HFL := Lib.hid (fun c => show (fillP T c l).length ≤ 100000000 from by
    have h1 := fill_le T c 100000 (by omega) l hb
    have h3 := Nat.mul_le_mul_right 100000 hl
    omega)
  obtain ⟨fin, hfin⟩ : ∃ fin, fin = subS T (fun c => fillP T c l) nth all L 0 (0, 0, []) := ⟨_, rfl⟩
  have HRR := Lib.hid (show R = (fin.2.2 ++ T.drop fin.1, fin.2.1) from by rw [hR, hfin]; rfl)
  have HFN := Lib.hid hfin
  have HFA := Lib.hid (fun (c : Caps) (hc : CapsOk T.length c) (hg : gr c 0 = some (from0 c, to0 c)) (W : World) => from_cap (by omega : T.length ≤ 999999999) (capok_at hc hg) W)
  have HTA := Lib.hid (fun (c : Caps) (hc : CapsOk T.length c) (hg : gr c 0 = some (from0 c, to0 c)) (W : World) => to_cap (by omega : T.length ≤ 999999999) (capok_at hc hg) W)
  obtain ⟨fl, hfl⟩ : ∃ fl : Caps → List UInt8, fl = fun c => fillP T c l := ⟨_, rfl⟩
  have HFI2 := Lib.hid (fun (c : Caps) (hc : CapsOk T.length c) (W : World) (hw : Below w.heap.size w W) => show Calls Tryz.prog 52 #[.slice pa l.length pc, S T, CV c] W fun e w' => e = .returned (S (fl c)) ∧ Below W.heap.size W w' from by rw [hfl]; exact HFI.out c hc W hw)
  have HFL2 := Lib.hid (fun c => show (fl c).length ≤ 100000000 from by rw [hfl]; exact HFL.out c)
  rw [← hfl] at HFN
  clear hA hT hL h hl hb hR hfin hfl HFI HFL
  generalize l.length = pn at *
  go_enter Tryz.func31, Tryz.ntmps31
  rw [show Code.region 3 = Fz 3 from rfl]
  go_wp2
  refine at_world (p := fun V => IsB w.heap.size w.heap.size [] V ∧ Below w.heap.size w V) HZ.out (fun V hV => ?_)
  have HV := Lib.hid hV
  clear hV HZ
  rw [show Fz 3 = Code.region 3 from rfl]
  go_wp2_with (go_at_call 19; refine (HA.out _ HV.out.2).mono ?_; rintro e w1 ⟨va, rfl, ho, hb⟩; obtain ⟨ae, ca, rfl, hcs⟩ := csh_own ho; have HS := Lib.hid (show SSt w ae L [] w1 from ⟨isb_below HV.out.1 hb, HV.out.2.trans (hb.mono HV.out.2.size), hcs⟩); clear ho hb hcs HV HA)
  go_loopw [13, 14, 21] (fun av nv iv wr => ∃ (k at0 n : Nat) (out : List UInt8), k ≤ L.length ∧ av = .int .i64 (at0 : Nat) ∧ nv = .int .i64 (n : Nat) ∧ iv = .int .i64 (k : Nat) ∧ at0 ≤ T.length ∧ n ≤ k ∧ out.length ≤ k * 100010000 ∧ Hid (∀ j d, k ≤ j → L[j]? = some d → at0 ≤ from0 d) ∧ Hid (fin = subS T fl nth all (L.drop k) k (at0, n, out)) ∧ Hid (SSt w ae L out wr)) (fun _ _ iv _ => L.length - (intOf iv).toNat)
  case atStart => exact ⟨0, 0, 0, [], Nat.zero_le _, rfl, rfl, rfl, Nat.zero_le _, Nat.le_refl _, by simp, Lib.hid (fun _ _ _ _ => Nat.zero_le _), by rw [List.drop_zero]; exact HFN, HS⟩
  case round =>
    clear HS HFN
    obtain ⟨k, at0, n, out, hk, rfl, rfl, rfl, hat, hn, hout, HAT, HF, HS⟩ := hrel
    by_cases hlt : k < L.length
    · have hlt' : (k : Int) < (L.length : Int) := by omega
      have hk0 : (0 : Int) ≤ (k : Int) := by omega
      have hkL : k ≤ 20003 := by have := HRW.out.len; have := HT.out; omega
      have hwk : IntKind.i64.wrap ((k : Int) + 1) = (k : Int) + 1 := by rw [IntKind.wrap_i64]; omega
      have hwn : IntKind.i64.wrap ((n : Int) + 1) = (n : Int) + 1 := by rw [IntKind.wrap_i64]; omega
      obtain ⟨g, rfl, hrg⟩ := HS.out.cs.at hlt
      have hget : L[k]? = some L[k] := List.getElem?_eq_getElem hlt
      have hdr : L.drop k = L[k] :: L.drop (k + 1) := (List.drop_eq_getElem_cons hlt)
      have hf := HF.out
      rw [hdr] at hf
      obtain ⟨t1, t2, t3, t4⟩ := HRW.out.ok k _ hget
      have hup := fun (j : Nat) (d : Caps) (hj : k < j) (hd : L[j]? = some d) => HRW.out.up k j _ d hj hget hd
      have hle := HAT.out k _ (Nat.le_refl _) hget
      generalize L[k] = c at *
      have HK := Lib.hid (show k < L.length ∧ k ≤ 20003 ∧ n ≤ k ∧ out.length ≤ k * 100010000 from ⟨hlt, hkL, hn, hout⟩)
      have HRG := Lib.hid hrg
      have HFF := Lib.hid hf
      have HCT := Lib.hid (And.intro t1 (And.intro t2 (And.intro t3 t4)))
      have HUP := Lib.hid hup
      have HLE := Lib.hid (And.intro hle hat)
      have HAT2 := HAT
      clear hlt hk hkL hn hout hrg hf t1 t2 t3 t4 hup hle hget hdr HF HAT hat
      by_cases hth : (k : Int) + 1 < nth
      · have HF2 := Lib.hid (show fin = subS T fl nth all (L.drop (k + 1)) (k + 1) (at0, n, out) from by rw [HFF.out, subS, if_pos hth])
        go_wp2_with (first
          | (refine wpList_load_mid rfl 27 (.tmp 24) rfl g (k * 10) rfl (CC c).toList _ HRG.out Tryz.underlying27 rfl (by kernel_rfl) ?_; simp only [Act.put, List.setIfInBounds_toArray, List.set_cons_zero, List.set_cons_succ])
          | (refine wpList_store_row rfl 27 (.tmp 16) (.tmp 25) rfl _ (CC c) rfl rfl _ CZ (heap_alloc_new _ _) (by kernel_rfl) rfl (cc_one _) ?_; simp only [Act.put, List.setIfInBounds_toArray, List.set_cons_zero, List.set_cons_succ]; rw [box_laid]; have HS4 := Lib.hid (HS.out.below ((Below.refl _ _).alloc (Nat.le_refl _) (.cells (CC c) 27))); clear HS; generalize World.alloc _ _ = W4 at HS4 ⊢))
        go_roundw
        case rel => exact ⟨k + 1, at0, n, out, by have := HK.out; omega, rfl, rfl, by go_num, by have := HLE.out; omega, by have := HK.out; omega, by have := HK.out; omega, Lib.hid (fun j d hj hd => HAT2.out j d (by omega) hd), HF2, HS4⟩
        case measure => have := HK.out; simp [intOf]; omega
      · have HN2 := Lib.hid hth
        go_wp2_with (first
          | (refine wpList_load_mid rfl 27 (.tmp 24) rfl g (k * 10) rfl (CC c).toList _ HRG.out Tryz.underlying27 rfl (by kernel_rfl) ?_; simp only [Act.put, List.setIfInBounds_toArray, List.set_cons_zero, List.set_cons_succ])
          | (refine wpList_store_row rfl 27 (.tmp 16) (.tmp 25) rfl _ (CC c) rfl rfl _ CZ (heap_alloc_new _ _) (by kernel_rfl) rfl (cc_one _) ?_; simp only [Act.put, List.setIfInBounds_toArray, List.set_cons_zero, List.set_cons_succ]; rw [box_laid]; have HX4 := Lib.hid (heap_alloc_new wr (.cells (CC c) 27)); have HS4 := Lib.hid (HS.out.below ((Below.refl _ _).alloc (Nat.le_refl _) (.cells (CC c) 27))); clear HS; generalize World.alloc _ _ = W4 at HS4 HX4 ⊢))
        generalize wr.heap.size = g16 at HX4 ⊢
        have HSd := Lib.hid (HS4.out.below (Below.refl _ _).drew)
        have HXd := Lib.hid (show CB W4.drew g16 c from HX4.out)
        have e1 := ex_cut T at0 (from0 c)
        have i1 : ((at0 : Nat) : Int) ≤ ((from0 c : Nat) : Int) := by have := HLE.out; omega
        have i2 : ((from0 c : Nat) : Int) ≤ ((T.length : Nat) : Int) := by have := HCT.out; omega
        have i3 : (0 : Int) ≤ ((at0 : Nat) : Int) := by omega
        have hcl := cap_cell HXd.out (n := 0) (by decide)
        rw [HCT.out.2.1] at hcl
        have HFR := Lib.hid (HFA.out c HCT.out.1 HCT.out.2.1)
        have HTO := Lib.hid (HTA.out c HCT.out.1 HCT.out.2.1)
        have hlen1 : (cutT T at0 (from0 c)).length ≤ 10000 := by have := HT.out; simp [cutT]; omega
        have hadd := fun w => run_string_add_sum (P := Tryz.prog) w ⟨(cutT T at0 (from0 c)).toArray⟩ ⟨(fl c).toArray⟩ (by have := HFL2.out c; simp only [ByteArray.size, List.size_toArray]; omega)
        rw [app_arr] at hadd
        clear HS4 HX4
        refine wp_region_noPanic ?_
        refine wp_region_held_drew (S := fun w' => CB w' g16 c) (by kernel_rfl) ?_ (fun hHeld => ?_)
        · (try dsimp only); exact HXd.out
        generalize World.drew _ = W5 at HSd HXd hcl hHeld ⊢
        refine Tk.t 0 ?_
        refine Tk.t 1 ?_
        refine Tk.t 2 ?_
        refine Tk.t 3 (hy := by (intro wv hSw; (try dsimp only at hSw); have hc := cap_cell hSw (n := 0) (by decide); rw [HCT.out.2.1] at hc; go_simp) <;> with_reducible rfl) ?_
        refine Tk.t 6 ?_
        refine Tk.t 7 ?_
        refine Tk.t 8 (hy := fun wv hSw => exec_load_row 27 (.tmp 16) rfl g16 rfl _ (CC c) _ _ hSw Tryz.underlying27 rfl (by kernel_rfl)) ?_
        refine Tk.o 4 (fun K hK => ?_)
        go_simp
        (go_at_call 22; refine (HFR.out _).mono ?_; rintro e w6 ⟨rfl, rfl⟩)
        refine hK.out _ _ ?_ (fun hHeld => Tk.w ?_)
        · (try dsimp only); exact HXd.out
        clear hK K
        refine Tk.t 5 ?_
        refine Tk.o 9 (fun K hK => ?_)
        go_simp
        (go_at_call 52; refine (HFI2.out c HCT.out.1 _ HSd.out.bel).mono ?_; rintro e w7 ⟨rfl, hb⟩; have HS7 := Lib.hid (HSd.out.below hb); have HX7 := Lib.hid ((hb.block _ (lt_heap' HXd.out)).trans HXd.out); clear hb HSd HXd)
        refine hK.out _ _ ?_ (fun hHeld => Tk.w ?_)
        · (try dsimp only); exact HX7.out
        clear hK K
        refine Tk.t 10 ?_
        refine Tk.o 11 (fun K hK => ?_)
        go_simp
        (go_at_call 51; refine (writeString_any w.heap.size w.heap.size (Lib.byteCells out) ⟨(cutT T at0 (from0 c) ++ fl c).toArray⟩ _ HS7.out.bld (by have := HK.out; have := HFL2.out c; simp only [Lib.byteCells_length, ByteArray.size, List.size_toArray, List.length_append]; omega) (by have := HS7.out.bel.size; omega)).mono ?_; rintro e w8 ⟨rfl, q1, q2, q3⟩; have HS8 := Lib.hid (HS7.out.write q1 q2 q3); have HX8 := Lib.hid (show CB w8 g16 c from q3 g16 _ HX7.out (g16_ne HS7.out.bld HX7.out) (by intro c fz e; simp only [Obj.cells.injEq] at e; exact absurd e.2.1 (by decide))); clear q1 q2 q3 HS7 HX7)
        refine hK.out _ _ ?_ (fun hHeld => Tk.w ?_)
        · (try dsimp only); exact HX8.out
        clear hK K
        refine wpAnyH_done (by kernel_rfl) ?_ _
        refine NoPanic.normal ?_
        clear hHeld hcl
        have hcl := cap_cell HX8.out (n := 0) (by decide)
        rw [HCT.out.2.1] at hcl
        cases all with
        | true =>
          have HF2 := Lib.hid (show fin = subS T fl nth true (L.drop (k + 1)) (k + 1) (to0 c, n + 1, out ++ (cutT T at0 (from0 c) ++ fl c)) from by rw [HFF.out, subS, if_neg (show ¬ (k : Int) + 1 < nth from by have := HN2.out; omega), if_pos rfl])
          go_wp2_with (go_at_call 25; refine (HTO.out _).mono ?_; rintro e w9 ⟨rfl, rfl⟩)
          go_roundw
          case rel => exact ⟨k + 1, to0 c, n + 1, out ++ (cutT T at0 (from0 c) ++ fl c), by have := HK.out; omega, rfl, by go_num, by go_num, HCT.out.2.2.2, by have := HK.out; omega, by have := HK.out; have := HFL2.out c; simp only [List.length_append]; omega, Lib.hid (fun j d hj hd => HUP.out j d (by omega) hd), HF2, HS8⟩
          case measure => have := HK.out; simp [intOf]; omega
        | false =>
          have HF2 := Lib.hid (show fin = (to0 c, n + 1, out ++ (cutT T at0 (from0 c) ++ fl c)) from by rw [HFF.out, subS, if_neg (show ¬ (k : Int) + 1 < nth from by have := HN2.out; omega), if_neg (by simp)])
          have e2 := ex_from T (to0 c)
          have j1 : ((to0 c : Nat) : Int) ≤ ((T.length : Nat) : Int) := by have := HCT.out; omega
          have j0 : (0 : Int) ≤ ((to0 c : Nat) : Int) := by omega
          go_wp2_with (go_at_call 25; refine (HTO.out _).mono ?_; rintro e w9 ⟨rfl, rfl⟩)
          have hadd2 := fun w => run_string_add_sum (P := Tryz.prog) w ⟨(out ++ (cutT T at0 (from0 c) ++ fl c)).toArray⟩ ⟨(T.drop (to0 c)).toArray⟩ (by have := HFL2.out c; have := HK.out; have := HT.out; simp only [ByteArray.size, List.size_toArray, List.length_append, List.length_drop]; omega)
          rw [app_arr] at hadd2
          have HSe := Lib.hid (HS8.out.below (Below.refl _ _).drew)
          clear HS8 HX8 hcl
          refine wp_region_noPanic ?_
          refine wp_region_held_drew (S := fun w' => True) (by kernel_rfl) trivial (fun hHeld => ?_)
          generalize World.drew _ = W6 at HSe hHeld ⊢
          refine Tk.t 1 ?_
          refine Tk.t 2 ?_
          refine Tk.t 3 ?_
          refine Tk.t 5 ?_
          refine Tk.o 0 (fun K hK => ?_)
          go_simp
          (go_at_call 53; refine (Tryz.Builder_String_any_k _ _ (out ++ (cutT T at0 (from0 c) ++ fl c)) _ HSe.out.bld HSe.out.bel.size).mono ?_; rintro e w10 ⟨rfl, g3, g4, g5⟩; have HB := Lib.hid (HSe.out.bel.trans g4); clear g3 g4 g5 HSe)
          refine hK.out _ _ ?_ (fun hHeld => Tk.w ?_)
          · trivial
          clear hK K
          refine Tk.t 4 ?_
          refine Tk.t 6 ?_
          refine Tk.t 7 ?_
          refine wpAnyH_done (by kernel_rfl) ?_ _
          refine NoPanic.normal ?_
          clear hHeld
          go_wp2
          go_ret2
          refine ⟨?_, HB.out⟩
          rw [HRR.out, HF2.out]
          simp [List.append_assoc]
    · obtain rfl : k = L.length := by omega
      have hnl : ¬ (L.length : Int) < (L.length : Int) := by omega
      have HF2 := Lib.hid (show fin = (at0, n, out) from by have h1 := HF.out; rw [List.drop_length] at h1; rw [h1]; rfl)
      have e2 := ex_from T at0
      have j1 : ((at0 : Nat) : Int) ≤ ((T.length : Nat) : Int) := by omega
      have j0 : (0 : Int) ≤ ((at0 : Nat) : Int) := by omega
      have hadd2 := fun w => run_string_add_sum (P := Tryz.prog) w ⟨out.toArray⟩ ⟨(T.drop at0).toArray⟩ (by have := HRW.out.len; have := HT.out; simp only [ByteArray.size, List.size_toArray, List.length_drop]; omega)
      rw [app_arr] at hadd2
      have HSe := Lib.hid (HS.out.below (Below.refl _ _).drew)
      clear HS HF hlt hk HAT
      go_wp2
      refine wp_region_noPanic ?_
      refine wp_region_held_drew (S := fun w' => True) (by kernel_rfl) trivial (fun hHeld => ?_)
      generalize World.drew _ = W6 at HSe hHeld ⊢
      refine Tk.t 1 ?_
      refine Tk.t 2 ?_
      refine Tk.t 3 ?_
      refine Tk.t 5 ?_
      refine Tk.o 0 (fun K hK => ?_)
      go_simp
      (go_at_call 53; refine (Tryz.Builder_String_any_k _ _ (out) _ HSe.out.bld HSe.out.bel.size).mono ?_; rintro e w10 ⟨rfl, g3, g4, g5⟩; have HB := Lib.hid (HSe.out.bel.trans g4); clear g3 g4 g5 HSe)
      refine hK.out _ _ ?_ (fun hHeld => Tk.w ?_)
      · trivial
      clear hK K
      refine Tk.t 4 ?_
      refine Tk.t 6 ?_
      refine Tk.t 7 ?_
      refine wpAnyH_done (by kernel_rfl) ?_ _
      refine NoPanic.normal ?_
      clear hHeld
      go_wp2
      go_ret2
      refine ⟨?_, HB.out⟩
      rw [HRR.out, HF2.out]
      simp [List.append_assoc]
end Go.Proofs.YthpiapemjadgdaaGreatDoor.Mt
