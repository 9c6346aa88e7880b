/- Sets of bytes: Fold. -/
import Derived.Test.YtdjedjfanfbbcaaDoorSl8
namespace Go.Proofs.YtdjedjfanfbbcaaDoor.St
open Go.RowKit Go.Shelf
set_option linter.unusedVariables false
set_option linter.unusedSimpArgs false
attribute [local go_sem] Oper.semAt_some

def foldStep (s : List Nat) (b : UInt8) : List Nat := if 97 ≤ (b ||| 32).toNat ∧ (b ||| 32).toNat ≤ 122 then orL [s, ofL [b ||| 32, (b ||| 32) &&& 223]] else s
def foldW (ws : List Nat) : List Nat := (bytesL ws).foldl foldStep ws
theorem wf_foldStep {s : List Nat} (h : Wf s) (b : UInt8) : Wf (foldStep s b) := by
  unfold foldStep
  split
  · exact wf_orL (by intro v hv; simp at hv; rcases hv with rfl | rfl; exact h; exact wf_ofL _)
  · exact h
theorem wf_foldl : ∀ (l : List UInt8) {s : List Nat}, Wf s → Wf (l.foldl foldStep s)
  | [], _, h => h
  | b :: r, _, h => wf_foldl r (wf_foldStep h b)
theorem u8_or32 (b : UInt8) : bits .or .u8 (b.toNat : Int) 32 = ((b ||| 32).toNat : Int) := by
  rw [show (32 : Int) = ((32 : Nat) : Int) from rfl, u8_or_nat _ _ (UInt8.toNat_lt b) (by decide), UInt8.toNat_or]; rfl
theorem u8_clear32 (c : UInt8) : bits .andNot .u8 (c.toNat : Int) 32 = ((c &&& 223).toNat : Int) := by
  rw [show (32 : Int) = ((32 : Nat) : Int) from rfl, u8_andNot_nat _ _ (UInt8.toNat_lt c) (by decide), UInt8.toNat_and]; rfl
theorem conv2 (c d : UInt8) {w : World} {b : Nat} {t : TypeId} {f : Nat × Nat} (h : w.heap[b]? = some (.cells #[.int .u8 c.toNat, .int .u8 d.toNat] t f)) : (convert 45 9 (.slice (some ⟨b, 0, none⟩) 2 2)).run Tryd.prog w = .ok (.string ⟨[c, d].toArray⟩) w :=
  run_convert_bytes_back (P := Tryd.prog) w 45 9 5 ⟨b, 0, none⟩ 2 [c, d] Tryd.underlying45 Tryd.underlying5 Tryd.underlying9 (by
    intro j hj
    match j, hj with
    | 0, _ => simp [Addr.add, Lib.cell_of_heap h]
    | 1, _ => simp [Addr.add, Lib.cell_of_heap h])
theorem ls2 {w : World} {b : Nat} {s v : List Nat} {t : TypeId} {f : Nat × Nat} (h : w.heap[b]? = some (.cells #[.int .u64 (word s 0 : Int), .int .u64 (word s 1 : Int), .int .u64 (word s 2 : Int), .int .u64 (word s 3 : Int), .int .u64 (word v 0 : Int), .int .u64 (word v 1 : Int), .int .u64 (word v 2 : Int), .int .u64 (word v 3 : Int)] t f)) : Ls w b [s, v] := by
  intro k hk j hj
  rw [Lib.cell_of_heap h]
  match k, hk, j, hj with
  | 0, _, 0, _ => rfl
  | 0, _, 1, _ => rfl
  | 0, _, 2, _ => rfl
  | 0, _, 3, _ => rfl
  | 1, _, 0, _ => rfl
  | 1, _, 1, _ => rfl
  | 1, _, 2, _ => rfl
  | 1, _, 3, _ => rfl
theorem wf_two {a b : List Nat} (ha : Wf a) (hb : Wf b) : ∀ v ∈ [a, b], Wf v := by
  intro v hv; simp at hv; rcases hv with rfl | rfl; exact ha; exact hb
theorem fold_below1 {W w1 : World} {o : Obj} (hb1 : Below (W.alloc o).drew.heap.size (W.alloc o).drew w1) : Below W.heap.size W w1 :=
  ((Below.refl _ W).alloc (Nat.le_refl _) o).drew.trans (hb1.mono (alloc_le W o))
theorem fold_below {W w1 w3 : World} {o o' : Obj} (hb1 : Below (W.alloc o).drew.heap.size (W.alloc o).drew w1) (hb3 : Below (w1.alloc o').heap.size (w1.alloc o') w3) : Below W.heap.size W w3 := by
  have hA : Below W.heap.size W w1 := ((Below.refl _ W).alloc (Nat.le_refl _) o).drew.trans (hb1.mono (alloc_le W o))
  exact (hA.alloc hA.size o').trans (hb3.mono (Nat.le_trans hA.size (alloc_le w1 o')))
theorem put4_others (w : World) (b : Nat) (vs : List Nat) : KeepsOthers w (put4 w b vs) := by
  unfold put4
  exact (((KeepsOthers.setCell _ _ _).trans (KeepsOthers.setCell _ _ _)).trans (KeepsOthers.setCell _ _ _)).trans (KeepsOthers.setCell _ _ _)
theorem others_of_below {W W' : World} (h : Below W.heap.size W W') : KeepsOthers W W' :=
  ⟨h.size, fun k o hk _ => (h.block k (Array.getElem?_eq_some_iff.1 hk).1).trans hk⟩

theorem sb_kept {A B : World} {row : Option Nat} {b : Nat} {ws : List Nat} (h : SB A b ws) (hg : A.grownBy B row) (hr : ∀ r, row = some r → ∃ o : Obj, A.heap[r]? = some o ∧ o.isCells = false) : SB B b ws := by
  refine (hg.block b (Array.getElem?_eq_some_iff.1 h).1 (fun e => ?_)).trans h
  obtain ⟨o, ho, hc⟩ := hr b e.symm
  rw [h] at ho; cases ho; cases hc

set_option maxRecDepth 100000 in
set_option maxHeartbeats 4000000 in
theorem fold_any (ws : List Nat) (w : World) (hw : Wf ws) (hg : 0 < w.heap.size) (hT : Tab w) :
    Calls Tryd.prog 26 #[SV ws] w fun e w' => e = .returned (SV (foldW ws)) ∧ Below w.heap.size w w' := by
  have g0 := word_get hw (i := 0) (by omega)
  have g1 := word_get hw (i := 1) (by omega)
  have g2 := word_get hw (i := 2) (by omega)
  have g3 := word_get hw (i := 3) (by omega)
  have HSV := Lib.hid (SV_eq hw)
  have HT := Lib.hid hT
  clear hT
  refine (callsIn_wide (n := 5)).1 ?_
  refine callsIn_of_wp_marks Tryd.func26 rfl trivial ?_ rfl
  simp only [Tryd.ntmps26, List.size_toArray, List.length_cons, List.length_nil, Nat.reduceAdd, Nat.reduceSub, Array.replicate_succ, Array.replicate_zero, List.push_toArray, List.append_toArray, List.nil_append, List.cons_append]
  gi_wp2_with (refine ⟨trivial, ?_⟩; rw [← HSV.out]; refine (callsIn_wide.2 (all_any ws _ hw)).mono ?_; rintro e w' ⟨rfl, rfl⟩)
  have H1 := Lib.hid (two_new w (Obj.cells (wc ws) 37) (Obj.cells #[Value.int IntKind.u64 0, Value.int IntKind.u64 0, Value.int IntKind.u64 0, Value.int IntKind.u64 0] 37))
  obtain ⟨w2, hw2⟩ : ∃ w2, (w.alloc (Obj.cells (wc ws) 37)).alloc (Obj.cells #[Value.int IntKind.u64 0, Value.int IntKind.u64 0, Value.int IntKind.u64 0, Value.int IntKind.u64 0] 37) = w2 := ⟨_, rfl⟩
  have hB2 : Below w.heap.size w w2 := by rw [← hw2]; exact ((Below.refl _ w).alloc (Nat.le_refl _) _).alloc (by simp) _
  have hs2 : w2.heap.size = w.heap.size + 1 + 1 := by rw [← hw2]; simp
  rw [hw2] at H1 ⊢
  clear hw2
  obtain ⟨hb1, hb2⟩ := H1.out
  have hB3 : Below w.heap.size w (w2.alloc (Obj.cells (wc ws) 37)) := hB2.alloc hB2.size _
  rw [← hs2]
  refine wpIn_rangeFunc_ownG rfl (by omega) (gf := 44) (lb := #[.pointer (some ⟨w2.heap.size, 0, none⟩)]) rfl trivial (enters_of Tryd.func44 (by kernel_rfl) rfl)
    (all_stops _ (by omega) w2.heap.size ws _ (Below w.heap.size) hw (by simp) (by simp) (heap_alloc_new w2 _) (fun W hW => (HT.out.below hB3 hg).below hW (by simp)) (fun W W' hK hT => hT.below hK hg)) belowK_t (belowK_b (by simp; omega)) (Below.refl _ _) (fun _ => rfl)
    (fun (pre : List UInt8) W => (SB W w.heap.size (pre.foldl foldStep ws) ∧ SB W (w.heap.size + 1) zeroW) ∧ Below w.heap.size w W)
    (fun _ _ _ => False)
    (OwnFrom.and (Own.from (fun s A B row hs hg hr => ⟨sb_kept hs.1 hg hr, sb_kept hs.2 hg hr⟩) _) (ownFrom_below (Nat.le_refl _) (by simp; omega)))
    (fun _ _ _ _ _ hs _ _ => hs)
    ⟨⟨(heap_alloc_old _ _ (by omega)).trans hb1, (heap_alloc_old _ _ (by omega)).trans hb2⟩, hB3⟩
    (fun (x : UInt8) => { tmps := #[SV ws, .pointer (some ⟨w.heap.size, 0, none⟩), .pointer (some ⟨w.heap.size + 1, 0, none⟩), u8v x, undef, SV ws, .func (.func 44) #[] #[.pointer (some ⟨w2.heap.size, 0, none⟩)], u8v x, undef, undef, undef, undef, undef, undef, undef, undef, undef, undef, undef, undef, undef, undef, undef, undef, undef, undef], defers := [] }) ?assign ?body ?done ?stop
  case assign =>
    intro l x W K hK
    clear hs2
    gi_wp2
    exact hK
  case body =>
    rintro l pre x W ⟨⟨hS, hZ⟩, hB⟩ hlt
    clear g0 g1 g2 g3 hb1 hb2 hs2 H1 HT hB2 hB3 HSV
    have hcw := wf_foldl pre hw
    have HSTEP := Lib.hid (show (pre ++ [x]).foldl foldStep ws = foldStep (pre.foldl foldStep ws) x from by rw [List.foldl_append]; rfl)
    have hor := u8_or32 x
    have HFS := Lib.hid (show foldStep (pre.foldl foldStep ws) x = if 97 ≤ (x ||| 32).toNat ∧ (x ||| 32).toNat ≤ 122 then orL [pre.foldl foldStep ws, ofL [x ||| 32, (x ||| 32) &&& 223]] else pre.foldl foldStep ws from rfl)
    generalize pre.foldl foldStep ws = cs at *
    generalize x ||| 32 = c at *
    have hand := u8_clear32 c
    generalize hd : c &&& 223 = d at *
    clear hd
    have HZ := Lib.hid hZ
    clear hZ
    have c0 := hS.cell hcw (i := 0) (by omega)
    have c1 := hS.cell hcw (i := 1) (by omega)
    have c2 := hS.cell hcw (i := 2) (by omega)
    have c3 := hS.cell hcw (i := 3) (by omega)
    have HS := Lib.hid hS
    clear hS
    by_cases hc1 : 97 ≤ c.toNat ∧ c.toNat ≤ 122
    · have HFS' := Lib.hid (HFS.out.trans (if_pos hc1))
      obtain ⟨ha, hb⟩ := hc1
      have ha' : (97 : Int) ≤ (c.toNat : Int) := by omega
      have hb' : (c.toNat : Int) ≤ 122 := by omega
      clear ha hb HFS
      have hmx : Tryd.prog.follows .mixedOrders = true := by kernel_rfl
      have hsz := Lib.hid (show w.heap.size < W.heap.size ∧ w.heap.size + 1 < W.heap.size from ⟨(Array.getElem?_eq_some_iff.1 HS.out).1, (Array.getElem?_eq_some_iff.1 HZ.out).1⟩)
      have hsz1 := hsz.out.1
      have hcv := conv2 c d (w := (W.alloc (Obj.cells #[Value.int IntKind.u8 c.toNat, Value.int IntKind.u8 d.toNat] 5)).drew) (b := W.heap.size) (heap_alloc_new W _)
      gi_wp2
      gi_region_with_o (first
        | (refine ⟨trivial, ?_⟩; refine (CallsIn.inRound l (callsIn_wide.2 (of_any [c, d] _ (by simp)))).mono ?_; rintro e w1 ⟨he, hb1⟩; rw [SV_eq (wf_ofL [c, d])] at he; subst he
           have hA1 := fold_below1 hb1
           have S1 := (hA1.block _ hsz.out.1).trans HS.out
           have m0 := SB.cell S1 hcw (i := 0) (by omega)
           have m1 := SB.cell S1 hcw (i := 1) (by omega)
           have m2 := SB.cell S1 hcw (i := 2) (by omega)
           have m3 := SB.cell S1 hcw (i := 3) (by omega)
           clear S1)
        | (refine ⟨trivial, ?_⟩; refine (CallsIn.inRound l (callsIn_wide.2 (or_any [cs, ofL [c, d]] _ _ (wf_two hcw (wf_ofL _)) (by simp) (by simp) (ls2 (heap_alloc_new _ _))))).mono ?_; rintro e w3 ⟨he, hb3⟩
           have hos := wf_orL (wf_two hcw (wf_ofL [c, d]))
           rw [SV_eq hos] at he; subst he
           have hA3 := fold_below hb1 hb3
           have S3 := (hA3.block _ hsz.out.1).trans HS.out
           have k0 := SB.cell S3 hcw (i := 0) (by omega)
           have k1 := SB.cell S3 hcw (i := 1) (by omega)
           have k2 := SB.cell S3 hcw (i := 2) (by omega)
           have k3 := SB.cell S3 hcw (i := 3) (by omega)
           have f0 := Lib.frozen_of_heap S3 0
           have f1 := Lib.frozen_of_heap S3 1
           have f2 := Lib.frozen_of_heap S3 2
           have f3 := Lib.frozen_of_heap S3 3
           have HS3 := Lib.hid S3
           clear S3))
      all_goals
        rw [put4_eq]
        have hP := put4_below (vs := orL [cs, ofL [c, d]]) (hA3.mono hB.size) (Nat.le_refl w.heap.size)
        exact ⟨((others_of_below hA3).trans (put4_others _ _ _)).from _, hP, ⟨by rw [HSTEP.out, HFS'.out]; exact SB.put HS3.out hcw hos, put4_other ((hA3.block _ hsz.out.2).trans HZ.out) (by omega) _⟩, hB.trans hP⟩
    · have HFS' := Lib.hid (HFS.out.trans (if_neg hc1))
      by_cases ha : 97 ≤ c.toNat
      · have ha' : (97 : Int) ≤ (c.toNat : Int) := by omega
        have hb' : (122 : Int) < (c.toNat : Int) := by omega
        clear ha hc1 HFS
        gi_wp2
        exact ⟨KeepsFrom.refl _ _, Below.refl _ _, ⟨by rw [HSTEP.out, HFS'.out]; exact HS.out, HZ.out⟩, hB⟩
      · have ha' : (c.toNat : Int) < 97 := by omega
        clear ha hc1 HFS
        gi_wp2
        exact ⟨KeepsFrom.refl _ _, Below.refl _ _, ⟨by rw [HSTEP.out, HFS'.out]; exact HS.out, HZ.out⟩, hB⟩
  case done =>
    rintro D ys W hD rfl ⟨⟨hS, hZ⟩, hB⟩ hK
    clear g0 g1 g2 g3 hb1 hb2 H1 HT hB2 hB3 HSV
    have hcw := wf_foldl (bytesL ws) hw
    have HE := Lib.hid (show foldW ws = (bytesL ws).foldl foldStep ws from rfl)
    generalize (bytesL ws).foldl foldStep ws = cs at *
    have HK := Lib.hid hK
    have HD := Lib.hid hD
    clear hK hD
    have c0 := hS.cell hcw (i := 0) (by omega)
    have c1 := hS.cell hcw (i := 1) (by omega)
    have c2 := hS.cell hcw (i := 2) (by omega)
    have c3 := hS.cell hcw (i := 3) (by omega)
    have z0 := SB.cell hZ wf_zero (i := 0) (by omega)
    have z1 := SB.cell hZ wf_zero (i := 1) (by omega)
    have z2 := SB.cell hZ wf_zero (i := 2) (by omega)
    have z3 := SB.cell hZ wf_zero (i := 3) (by omega)
    have f0 := Lib.frozen_of_heap hZ 0
    have f1 := Lib.frozen_of_heap hZ 1
    have f2 := Lib.frozen_of_heap hZ 2
    have f3 := Lib.frozen_of_heap hZ 3
    have HF := Lib.hid (SV_eq hcw)
    have hP := put4_below (vs := cs) hB (Nat.le_succ w.heap.size)
    have HS4 := Lib.hid (SB.put hZ wf_zero hcw)
    clear hS hZ
    gi_wp2
    rw [put4_eq]
    have hK' := (put4_others W (w.heap.size + 1) cs).same D _ HK.out rfl
    have HSP := HS4.out
    generalize put4 W (w.heap.size + 1) cs = W' at *
    refine ⟨by simp, .inl ⟨_, _, rfl, run_takeDeferred hK', ?_⟩⟩
    have HSQ := sb_kept HSP (grownBy_putObj' W' D (.deferred none)) (fun r e => by cases e; exact ⟨_, hK', rfl⟩)
    have k0 := HSQ.cell hcw (i := 0) (by omega)
    have k1 := HSQ.cell hcw (i := 1) (by omega)
    have k2 := HSQ.cell hcw (i := 2) (by omega)
    have k3 := HSQ.cell hcw (i := 3) (by omega)
    refine ⟨SV cs, ?_, by rw [HE.out], hP.trans (belowK_b (w := w) (Nat.le_refl _) W' D _ _ (by have := HD.out; simp at this; omega) hK' rfl rfl)⟩
    rw [HF.out]
    simp [results, Tryd.results26, go_sem, k0, k1, k2, k3]
  case stop =>
    rintro D c pre W _ _ h _
    exact h.elim
end Go.Proofs.YtdjedjfanfbbcaaDoor.St
