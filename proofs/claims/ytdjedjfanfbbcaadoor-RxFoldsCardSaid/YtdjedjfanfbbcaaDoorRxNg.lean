/- Patterns: the reader of one node: the walk of one byte. -/
import Derived.Test.YtdjedjfanfbbcaaDoorRxR3
namespace Go.Proofs.YtdjedjfanfbbcaaDoor.Rx
open Go.RowKit Go.Shelf
open Go.Proofs.YtdjedjfanfbbcaaDoor.St (Wf word zeroW Tab SV SV_eq)
open Go.Proofs.YtdjedjfanfbbcaaDoor.Ad (cutB atoiV)
set_option linter.unusedVariables false
set_option linter.unusedSimpArgs false
set_option maxRecDepth 100000 in
set_option maxHeartbeats 3200000 in
theorem node_g (w0 : World) (b left : Nat) (lf : Int) (c : UInt8) (t s : List UInt8) (l : List Nd) (g : Int) (v : Value) (w : World) (hs : s = c :: t) (h : RW w0 b ⟨s, l, g, false⟩ v w) (hL : Lay w0) (hlen : s.length + l.length ≤ 100000) (hl : l.length ≤ 120) (hg0 : 0 ≤ g) (hg1 : g + s.length ≤ 100000) (hlf : lf = ((left + 1 : Nat) : Int)) (hle : left ≤ 1000) (IH : Below1 w0 b left)
    (hc : c = 40) :
    Calls Tryd.prog 23 #[PT b, E lf] w (NodeAns w0 b (left + 1) ⟨s, l, g, false⟩ v w) := by
  obtain ⟨ao, cap, rfl⟩ : ∃ ao cap, v = .slice ao l.length cap := own_slice h.own
  obtain ⟨i0, hi, hz0, hz1, hz2⟩ := info_parts infoNd
  have HO := Lib.hid (show nodeP (left + 1) ⟨s, l, g, false⟩ = pushP (closeP (nodeP left ⟨t, l, g + 1, false⟩).1) ⟨7, z4, (nodeP left ⟨t, l, g + 1, false⟩).2, 0, 0, 0, g + 1⟩ from by
    rw [hs]; rw [node_step hl]; subst hc; rfl)
  have hne : (s == []) = false := by rw [hs]; rfl
  have hlt : 0 < s.length := by rw [hs]; simp
  have hx : ((ByteArray.mk s.toArray)[0]'hlt) = c := by subst hs; rfl
  have hsz : (ByteArray.mk s.toArray).size = s.length := by simp [ByteArray.size]
  have hlt' : (0 : Int) < ((s.length : Nat) : Int) := by omega
  have e2 := ex_drop (l := s) 1
  have hr : s.drop 1 = t := by rw [hs]; rfl
  have htl : t.length + 1 = s.length := by rw [hs]; rfl
  rw [hr] at e2
  have h1' : (1 : Int) ≤ ((s.length : Nat) : Int) := by omega
  have h0 : (lf == 0) = false := by rw [beq_eq_false_iff_ne]; omega
  have hgt : ¬ (120 : Int) < ((l.length : Nat) : Int) := by omega
  have HL := Lib.hid hL
  have HR0 := Lib.hid h
  have HS0 := Lib.hid (st_start HR0.out lf t N0)
  dsimp only at HS0
  obtain ⟨⟨c0, c1, c2, c3⟩, f0, f1, f2, f3⟩ := HR0.out.cells
  skip
  dsimp only at c0 c1 c2 c3
  have hlb := HR0.out.lt
  have HLF := Lib.hid hlf
  clear hs h hL hr hlf
  subst hc
  skip
  go_enter Tryd.func23, Tryd.ntmps23
  rw [show Code.region 30 = Fz 30 from rfl]
  go_wp2
  go_region
  have hri : Rin ⟨t, l, g + 1, false⟩ := ⟨by dsimp only; omega, by dsimp only; omega, by dsimp only; omega⟩
  have hgw : IntKind.i64.wrap (g + 1) = g + 1 := by rw [IntKind.wrap_i64]; omega
  have hle2 := le_node left ⟨t, l, g + 1, false⟩
  obtain ⟨r2, p2, hq⟩ : ∃ r2 p2, nodeP left ⟨t, l, g + 1, false⟩ = (r2, p2) := ⟨_, _, rfl⟩
  rw [hq] at hle2 HO
  have HN2 := Lib.hid hq
  clear hq
  dsimp only at hle2 HO
  have hri2 := hle2.rin hri
  have HLE0 := hri2.len
  obtain ⟨x, l2, g2, bad⟩ := r2
  dsimp only at HLE0
  have HLEN := Lib.hid (show l2.length ≤ 200000 by omega)
  clear hle2 hri2 HLE0
  rw [close_prefix] at HO
  have HHP := Lib.hid (fun W => Tryd.strings_HasPrefix ⟨x.toArray⟩ ⟨#[41]⟩ W)
  have HTP := Lib.hid (fun W => Tryd.strings_TrimPrefix ⟨x.toArray⟩ ⟨#[41]⟩ W)
  dsimp only at HHP HTP
  generalize Lib.hasPrefix x [41] = hp at *
  generalize Lib.trimPrefix x [41] = y at *
  go_wp2
  refine at_world (p := fun W => ST w0 b w _ lf N0 _ _ W) HS0.out (fun W hW => ?_)
  have HS1 := Lib.hid hW
  clear hW HS0
  have HSg := Lib.hid (HS1.out.setG (g + 1))
  obtain ⟨⟨x1p, x1l⟩, ⟨x10, x11, x12, x13, x14, x15, x16, x17, x18, x19⟩, x1z⟩ := HS1.out.facts; obtain ⟨⟨x1a, x1b, x1c, x1d⟩, x1e, x1f, x1g, x1h⟩ := HS1.out.rw.cells; (try dsimp only at x1a x1b x1c x1d)
  obtain ⟨⟨xgp, xgl⟩, ⟨xg0, xg1, xg2, xg3, xg4, xg5, xg6, xg7, xg8, xg9⟩, xgz⟩ := HSg.out.facts; obtain ⟨⟨xga, xgb, xgc, xgd⟩, xge, xgf, xgg, xgh⟩ := HSg.out.rw.cells; (try dsimp only at xga xgb xgc xgd)
  rw [show Fz 30 = Code.region 30 from rfl]
  go_wp2_with (go_at_call 34; refine (below_any IH HLF.out hle ((((((((((HSg.out.node (i := 0) (u := E 7) (m := ⟨7, z4, 0, 0, 0, 0, 0⟩) rfl).node (i := 1) (u := .int .u64 0) (m := ⟨7, z4, 0, 0, 0, 0, 0⟩) rfl).node (i := 2) (u := .int .u64 0) (m := ⟨7, z4, 0, 0, 0, 0, 0⟩) rfl).node (i := 3) (u := .int .u64 0) (m := ⟨7, z4, 0, 0, 0, 0, 0⟩) rfl).node (i := 4) (u := .int .u64 0) (m := ⟨7, z4, 0, 0, 0, 0, 0⟩) rfl).node (i := 5) (u := E 0) (m := ⟨7, z4, 0, 0, 0, 0, 0⟩) rfl).node (i := 6) (u := E 0) (m := ⟨7, z4, 0, 0, 0, 0, 0⟩) rfl).node (i := 7) (u := E 0) (m := ⟨7, z4, 0, 0, 0, 0, 0⟩) rfl).node (i := 8) (u := E 0) (m := ⟨7, z4, 0, 0, 0, 0, 0⟩) rfl).node (i := 9) (u := E (g + 1)) (m := ⟨7, z4, 0, 0, 0, 0, g + 1⟩) rfl) hri).mono ?_; rintro e w2 ⟨v2, he, hst⟩; rw [HN2.out] at he hst; subst he; have HS2 := Lib.hid hst; clear hst; obtain ⟨⟨x2p, x2l⟩, ⟨x20, x21, x22, x23, x24, x25, x26, x27, x28, x29⟩, x2z⟩ := HS2.out.facts; obtain ⟨⟨x2a, x2b, x2c, x2d⟩, x2e, x2f, x2g, x2h⟩ := HS2.out.rw.cells; (try dsimp only at x2a x2b x2c x2d))
  have HSa := Lib.hid (HS2.out.node (i := 5) (u := E (p2 : Nat)) (m := ⟨7, z4, (p2 : Nat), 0, 0, 0, g + 1⟩) rfl)
  clear x2p x2l x20 x21 x22 x23 x24 x25 x26 x27 x28 x29 x2z x2a x2b x2c x2d x2e x2f x2g x2h
  clear x1p x1l x10 x11 x12 x13 x14 x15 x16 x17 x18 x19 x1z x1a x1b x1c x1d x1e x1f x1g x1h
  clear xgp xgl xg0 xg1 xg2 xg3 xg4 xg5 xg6 xg7 xg8 xg9 xgz xga xgb xgc xgd xge xgf xgg xgh
  cases bad <;> cases hp
  · skip
    refine at_world (p := fun W => ST w0 b w _ lf ⟨7, z4, (p2 : Nat), 0, 0, 0, g + 1⟩ _ _ W) HSa.out (fun W hW => ?_)
    have HSD := Lib.hid (hW.below (Below.refl _ _).drew)
    clear hW
    refine wp_region_noPanic ?_
    refine wp_region_held_drew (S := fun w' => SR w b ⟨7, z4, (p2 : Nat), 0, 0, 0, g + 1⟩ x w') (by kernel_rfl) ?_ (fun hHeld => ?_)
    · (try dsimp only); exact sr_of HSD.out
    revert HSD hHeld
    generalize World.drew _ = W8
    intro HSD hHeld
    refine wpAnyH_take (i := 0) (oi := ?o0r1) (v := ?v0r1) ?hi0r1 (by kernel_rfl) (by kernel_rfl) (by kernel_rfl) (fun _ _ _ h => h) ?hy0r1 (by assumption) ?r0r1
    case hi0r1 => simp only [List.getElem?_toArray, List.getElem?_cons_succ, List.getElem?_cons_zero]; rfl
    case hy0r1 => exact Or.inl ⟨by rfl, by (intro w hSw; (try dsimp only at hSw); (have hq := sq_cells hSw.1; have qr := hSw.2; obtain ⟨⟨q0, q1, q2, q3, q4, q5, q6, q7, q8, q9⟩, qp⟩ := hq); go_simp) <;> with_reducible rfl⟩
    try simp only [Act.put, List.setIfInBounds_toArray, List.set_cons_zero, List.set_cons_succ]
    refine wpAnyH_take (i := 1) (oi := ?o1r1) (v := ?v1r1) ?hi1r1 (by kernel_rfl) (by kernel_rfl) (by kernel_rfl) (fun _ _ _ h => h) ?hy1r1 (by assumption) ?r1r1
    case hi1r1 => simp only [List.getElem?_toArray, List.getElem?_cons_succ, List.getElem?_cons_zero]; rfl
    case hy1r1 => exact Or.inl ⟨by rfl, by (intro w hSw; (try dsimp only at hSw); (have hq := sq_cells hSw.1; have qr := hSw.2; obtain ⟨⟨q0, q1, q2, q3, q4, q5, q6, q7, q8, q9⟩, qp⟩ := hq); go_simp) <;> with_reducible rfl⟩
    try simp only [Act.put, List.setIfInBounds_toArray, List.set_cons_zero, List.set_cons_succ]
    refine wpAnyH_take (i := 2) (oi := ?o2r1) (v := ?v2r1) ?hi2r1 (by kernel_rfl) (by kernel_rfl) (by kernel_rfl) (fun _ _ _ h => h) ?hy2r1 (by assumption) ?r2r1
    case hi2r1 => simp only [List.getElem?_toArray, List.getElem?_cons_succ, List.getElem?_cons_zero]; rfl
    case hy2r1 => exact Or.inl ⟨by rfl, by (intro w hSw; (try dsimp only at hSw); (have hq := sq_cells hSw.1; have qr := hSw.2; obtain ⟨⟨q0, q1, q2, q3, q4, q5, q6, q7, q8, q9⟩, qp⟩ := hq); go_simp) <;> with_reducible rfl⟩
    try simp only [Act.put, List.setIfInBounds_toArray, List.set_cons_zero, List.set_cons_succ]
    refine wpAnyH_take (i := 3) (oi := ?o3r1) (v := ?v3r1) ?hi3r1 (by kernel_rfl) (by kernel_rfl) (by kernel_rfl) (fun _ _ _ h => h) ?hy3r1 (by assumption) ?r3r1
    case hi3r1 => simp only [List.getElem?_toArray, List.getElem?_cons_succ, List.getElem?_cons_zero]; rfl
    case hy3r1 => exact Or.inl ⟨by rfl, by (intro w hSw; (try dsimp only at hSw); (have hq := sq_cells hSw.1; have qr := hSw.2; obtain ⟨⟨q0, q1, q2, q3, q4, q5, q6, q7, q8, q9⟩, qp⟩ := hq); go_simp) <;> with_reducible rfl⟩
    try simp only [Act.put, List.setIfInBounds_toArray, List.set_cons_zero, List.set_cons_succ]
    refine wpAnyH_ready (rs := [4]) (by kernel_rfl) (by simp) ?_
    refine AllReadyH.cons (o := ?o4r1) ?hi4r1 (fun K hK => ?st4r1) AllReadyH.nil
    case hi4r1 => simp only [List.getElem?_toArray, List.getElem?_cons_succ, List.getElem?_cons_zero]; rfl
    have hPrev := hHeld
    have hcl := HSD.out.rw.cells.1
    (try dsimp only at hcl)
    obtain ⟨hcl0, hcl1, hcl2, hcl3⟩ := hcl
    go_simp
    refine hK.out _ _ ?_ (fun hHeld => ?_)
    · (try dsimp only); exact hPrev
    clear hK K hcl0 hcl1 hcl2 hcl3 hPrev
    try simp only [Act.put, List.setIfInBounds_toArray, List.set_cons_zero, List.set_cons_succ]
    refine wpAnyH_take (i := 5) (oi := ?o5r1) (v := ?v5r1) ?hi5r1 (by kernel_rfl) (by kernel_rfl) (by kernel_rfl) (fun _ _ _ h => h) ?hy5r1 (by assumption) ?r5r1
    case hi5r1 => simp only [List.getElem?_toArray, List.getElem?_cons_succ, List.getElem?_cons_zero]; rfl
    case hy5r1 => exact Or.inl ⟨by rfl, by (intro w hSw; (try dsimp only at hSw); (have hq := sq_cells hSw.1; have qr := hSw.2; obtain ⟨⟨q0, q1, q2, q3, q4, q5, q6, q7, q8, q9⟩, qp⟩ := hq); go_simp) <;> with_reducible rfl⟩
    try simp only [Act.put, List.setIfInBounds_toArray, List.set_cons_zero, List.set_cons_succ]
    refine wpAnyH_take (i := 6) (oi := ?o6r1) (v := ?v6r1) ?hi6r1 (by kernel_rfl) (by kernel_rfl) (by kernel_rfl) (fun _ _ _ h => h) ?hy6r1 (by assumption) ?r6r1
    case hi6r1 => simp only [List.getElem?_toArray, List.getElem?_cons_succ, List.getElem?_cons_zero]; rfl
    case hy6r1 => exact Or.inl ⟨by rfl, by (intro w hSw; (try dsimp only at hSw); (have hq := sq_cells hSw.1; have qr := hSw.2; obtain ⟨⟨q0, q1, q2, q3, q4, q5, q6, q7, q8, q9⟩, qp⟩ := hq); go_simp) <;> with_reducible rfl⟩
    try simp only [Act.put, List.setIfInBounds_toArray, List.set_cons_zero, List.set_cons_succ]
    refine wpAnyH_take (i := 7) (oi := ?o7r1) (v := ?v7r1) ?hi7r1 (by kernel_rfl) (by kernel_rfl) (by kernel_rfl) (fun _ _ _ h => h) ?hy7r1 (by assumption) ?r7r1
    case hi7r1 => simp only [List.getElem?_toArray, List.getElem?_cons_succ, List.getElem?_cons_zero]; rfl
    case hy7r1 => exact Or.inl ⟨by rfl, by (intro w hSw; (try dsimp only at hSw); (have hq := sq_cells hSw.1; have qr := hSw.2; obtain ⟨⟨q0, q1, q2, q3, q4, q5, q6, q7, q8, q9⟩, qp⟩ := hq); go_simp) <;> with_reducible rfl⟩
    try simp only [Act.put, List.setIfInBounds_toArray, List.set_cons_zero, List.set_cons_succ]
    refine wpAnyH_take (i := 8) (oi := ?o8r1) (v := ?v8r1) ?hi8r1 (by kernel_rfl) (by kernel_rfl) (by kernel_rfl) (fun _ _ _ h => h) ?hy8r1 (by assumption) ?r8r1
    case hi8r1 => simp only [List.getElem?_toArray, List.getElem?_cons_succ, List.getElem?_cons_zero]; rfl
    case hy8r1 => exact Or.inl ⟨by rfl, by (intro w hSw; (try dsimp only at hSw); (have hq := sq_cells hSw.1; have qr := hSw.2; obtain ⟨⟨q0, q1, q2, q3, q4, q5, q6, q7, q8, q9⟩, qp⟩ := hq); go_simp) <;> with_reducible rfl⟩
    try simp only [Act.put, List.setIfInBounds_toArray, List.set_cons_zero, List.set_cons_succ]
    refine wpAnyH_take (i := 9) (oi := ?o9r1) (v := ?v9r1) ?hi9r1 (by kernel_rfl) (by kernel_rfl) (by kernel_rfl) (fun _ _ _ h => h) ?hy9r1 (by assumption) ?r9r1
    case hi9r1 => simp only [List.getElem?_toArray, List.getElem?_cons_succ, List.getElem?_cons_zero]; rfl
    case hy9r1 => exact Or.inl ⟨by rfl, by (intro w hSw; (try dsimp only at hSw); (have hq := sq_cells hSw.1; have qr := hSw.2; obtain ⟨⟨q0, q1, q2, q3, q4, q5, q6, q7, q8, q9⟩, qp⟩ := hq); go_simp) <;> with_reducible rfl⟩
    try simp only [Act.put, List.setIfInBounds_toArray, List.set_cons_zero, List.set_cons_succ]
    refine wpAnyH_ready (rs := [10]) (by kernel_rfl) (by simp) ?_
    refine AllReadyH.cons (o := ?o10r1) ?hi10r1 (fun K hK => ?st10r1) AllReadyH.nil
    case hi10r1 => simp only [List.getElem?_toArray, List.getElem?_cons_succ, List.getElem?_cons_zero]; rfl
    go_simp
    (go_at_call 37; refine (HHP.out _).mono ?_; rintro e w9 ⟨rfl, rfl⟩)
    refine hK.out _ _ ?_ (fun hHeld => ?_)
    · (try dsimp only); (exact hHeld)
    clear hK K
    try simp only [Act.put, List.setIfInBounds_toArray, List.set_cons_zero, List.set_cons_succ]
    refine wpAnyH_take (i := 11) (oi := ?o11r1) (v := ?v11r1) ?hi11r1 (by kernel_rfl) (by kernel_rfl) (by kernel_rfl) (fun _ _ _ h => h) ?hy11r1 (by assumption) ?r11r1
    case hi11r1 => simp only [List.getElem?_toArray, List.getElem?_cons_succ, List.getElem?_cons_zero]; rfl
    case hy11r1 => exact Or.inl ⟨by rfl, by (intro w hSw; (try dsimp only at hSw); (have hq := sq_cells hSw.1; have qr := hSw.2; obtain ⟨⟨q0, q1, q2, q3, q4, q5, q6, q7, q8, q9⟩, qp⟩ := hq); go_simp) <;> with_reducible rfl⟩
    try simp only [Act.put, List.setIfInBounds_toArray, List.set_cons_zero, List.set_cons_succ]
    refine wpAnyH_take (i := 12) (oi := ?o12r1) (v := ?v12r1) ?hi12r1 (by kernel_rfl) (by kernel_rfl) (by kernel_rfl) (fun _ _ _ h => h) ?hy12r1 (by assumption) ?r12r1
    case hi12r1 => simp only [List.getElem?_toArray, List.getElem?_cons_succ, List.getElem?_cons_zero]; rfl
    case hy12r1 => exact Or.inl ⟨by rfl, by (intro w hSw; (try dsimp only at hSw); (have hq := sq_cells hSw.1; have qr := hSw.2; obtain ⟨⟨q0, q1, q2, q3, q4, q5, q6, q7, q8, q9⟩, qp⟩ := hq); go_simp) <;> with_reducible rfl⟩
    try simp only [Act.put, List.setIfInBounds_toArray, List.set_cons_zero, List.set_cons_succ]
    refine wpAnyH_take (i := 13) (oi := ?o13r1) (v := ?v13r1) ?hi13r1 (by kernel_rfl) (by kernel_rfl) (by kernel_rfl) (fun _ _ _ h => h) ?hy13r1 (by assumption) ?r13r1
    case hi13r1 => simp only [List.getElem?_toArray, List.getElem?_cons_succ, List.getElem?_cons_zero]; rfl
    case hy13r1 => exact Or.inl ⟨by rfl, by (intro w hSw; (try dsimp only at hSw); (have hq := sq_cells hSw.1; have qr := hSw.2; obtain ⟨⟨q0, q1, q2, q3, q4, q5, q6, q7, q8, q9⟩, qp⟩ := hq); go_simp) <;> with_reducible rfl⟩
    try simp only [Act.put, List.setIfInBounds_toArray, List.set_cons_zero, List.set_cons_succ]
    refine wpAnyH_take (i := 14) (oi := ?o14r1) (v := ?v14r1) ?hi14r1 (by kernel_rfl) (by kernel_rfl) (by kernel_rfl) (fun _ _ _ h => h) ?hy14r1 (by assumption) ?r14r1
    case hi14r1 => simp only [List.getElem?_toArray, List.getElem?_cons_succ, List.getElem?_cons_zero]; rfl
    case hy14r1 => exact Or.inl ⟨by rfl, by (intro w hSw; (try dsimp only at hSw); (have hq := sq_cells hSw.1; have qr := hSw.2; obtain ⟨⟨q0, q1, q2, q3, q4, q5, q6, q7, q8, q9⟩, qp⟩ := hq); go_simp) <;> with_reducible rfl⟩
    try simp only [Act.put, List.setIfInBounds_toArray, List.set_cons_zero, List.set_cons_succ]
    refine wpAnyH_ready (rs := [15]) (by kernel_rfl) (by simp) ?_
    refine AllReadyH.cons (o := ?o15r1) ?hi15r1 (fun K hK => ?st15r1) AllReadyH.nil
    case hi15r1 => simp only [List.getElem?_toArray, List.getElem?_cons_succ, List.getElem?_cons_zero]; rfl
    have hcl := HSD.out.rw.cells
    (try dsimp only at hcl)
    obtain ⟨⟨hcl0, hcl1, hcl2, hcl3⟩, hfl0, hfl1, hfl2, hfl3⟩ := hcl
    go_simp
    have HSb := Lib.hid (HSD.out.setBad true)
    refine hK.out _ _ ?_ (fun hHeld => ?_)
    · (try dsimp only); exact sr_of HSb.out
    clear hK K hcl0 hcl1 hcl2 hcl3 hfl0 hfl1 hfl2 hfl3
    try simp only [Act.put, List.setIfInBounds_toArray, List.set_cons_zero, List.set_cons_succ]
    refine wpAnyH_done (by kernel_rfl) ?_ _
    refine NoPanic.normal ?_
    clear hHeld HSD
    go_wp2
    refine at_world (p := fun W => ST w0 b w _ lf ⟨7, z4, (p2 : Nat), 0, 0, 0, g + 1⟩ _ _ W) HSb.out (fun W hW => ?_)
    have HSD := Lib.hid (hW.below (Below.refl _ _).drew)
    clear hW
    refine wp_region_noPanic ?_
    refine wp_region_held_drew (S := fun w' => SQ w b ⟨7, z4, (p2 : Nat), 0, 0, 0, g + 1⟩ w') (by kernel_rfl) ?_ (fun hHeld => ?_)
    · (try dsimp only); exact sq_of HSD.out
    revert HSD hHeld
    generalize World.drew _ = W8
    intro HSD hHeld
    refine wpAnyH_take (i := 0) (oi := ?o0r2) (v := ?v0r2) ?hi0r2 (by kernel_rfl) (by kernel_rfl) (by kernel_rfl) (fun _ _ _ h => h) ?hy0r2 (by assumption) ?r0r2
    case hi0r2 => simp only [List.getElem?_toArray, List.getElem?_cons_succ, List.getElem?_cons_zero]; rfl
    case hy0r2 => exact Or.inl ⟨by rfl, by (intro w hSw; (try dsimp only at hSw); (have hq := sq_cells hSw; obtain ⟨⟨q0, q1, q2, q3, q4, q5, q6, q7, q8, q9⟩, qp⟩ := hq); go_simp) <;> with_reducible rfl⟩
    try simp only [Act.put, List.setIfInBounds_toArray, List.set_cons_zero, List.set_cons_succ]
    refine wpAnyH_take (i := 1) (oi := ?o1r2) (v := ?v1r2) ?hi1r2 (by kernel_rfl) (by kernel_rfl) (by kernel_rfl) (fun _ _ _ h => h) ?hy1r2 (by assumption) ?r1r2
    case hi1r2 => simp only [List.getElem?_toArray, List.getElem?_cons_succ, List.getElem?_cons_zero]; rfl
    case hy1r2 => exact Or.inl ⟨by rfl, by (intro w hSw; (try dsimp only at hSw); (have hq := sq_cells hSw; obtain ⟨⟨q0, q1, q2, q3, q4, q5, q6, q7, q8, q9⟩, qp⟩ := hq); go_simp) <;> with_reducible rfl⟩
    try simp only [Act.put, List.setIfInBounds_toArray, List.set_cons_zero, List.set_cons_succ]
    refine wpAnyH_take (i := 2) (oi := ?o2r2) (v := ?v2r2) ?hi2r2 (by kernel_rfl) (by kernel_rfl) (by kernel_rfl) (fun _ _ _ h => h) ?hy2r2 (by assumption) ?r2r2
    case hi2r2 => simp only [List.getElem?_toArray, List.getElem?_cons_succ, List.getElem?_cons_zero]; rfl
    case hy2r2 => exact Or.inl ⟨by rfl, by (intro w hSw; (try dsimp only at hSw); (have hq := sq_cells hSw; obtain ⟨⟨q0, q1, q2, q3, q4, q5, q6, q7, q8, q9⟩, qp⟩ := hq); go_simp) <;> with_reducible rfl⟩
    try simp only [Act.put, List.setIfInBounds_toArray, List.set_cons_zero, List.set_cons_succ]
    refine wpAnyH_take (i := 3) (oi := ?o3r2) (v := ?v3r2) ?hi3r2 (by kernel_rfl) (by kernel_rfl) (by kernel_rfl) (fun _ _ _ h => h) ?hy3r2 (by assumption) ?r3r2
    case hi3r2 => simp only [List.getElem?_toArray, List.getElem?_cons_succ, List.getElem?_cons_zero]; rfl
    case hy3r2 => exact Or.inl ⟨by rfl, by (intro w hSw; (try dsimp only at hSw); (have hq := sq_cells hSw; obtain ⟨⟨q0, q1, q2, q3, q4, q5, q6, q7, q8, q9⟩, qp⟩ := hq); go_simp) <;> with_reducible rfl⟩
    try simp only [Act.put, List.setIfInBounds_toArray, List.set_cons_zero, List.set_cons_succ]
    refine wpAnyH_ready (rs := [4]) (by kernel_rfl) (by simp) ?_
    refine AllReadyH.cons (o := ?o4r2) ?hi4r2 (fun K hK => ?st4r2) AllReadyH.nil
    case hi4r2 => simp only [List.getElem?_toArray, List.getElem?_cons_succ, List.getElem?_cons_zero]; rfl
    have hPrev := hHeld
    have hcl := HSD.out.rw.cells.1
    (try dsimp only at hcl)
    obtain ⟨hcl0, hcl1, hcl2, hcl3⟩ := hcl
    go_simp
    refine hK.out _ _ ?_ (fun hHeld => ?_)
    · (try dsimp only); exact hPrev
    clear hK K hcl0 hcl1 hcl2 hcl3 hPrev
    try simp only [Act.put, List.setIfInBounds_toArray, List.set_cons_zero, List.set_cons_succ]
    refine wpAnyH_ready (rs := [5]) (by kernel_rfl) (by simp) ?_
    refine AllReadyH.cons (o := ?o5r2) ?hi5r2 (fun K hK => ?st5r2) AllReadyH.nil
    case hi5r2 => simp only [List.getElem?_toArray, List.getElem?_cons_succ, List.getElem?_cons_zero]; rfl
    go_simp
    (go_at_call 38; refine (HTP.out _).mono ?_; rintro e w9 ⟨rfl, rfl⟩)
    refine hK.out _ _ ?_ (fun hHeld => ?_)
    · (try dsimp only); (exact hHeld)
    clear hK K
    try simp only [Act.put, List.setIfInBounds_toArray, List.set_cons_zero, List.set_cons_succ]
    refine wpAnyH_take (i := 6) (oi := ?o6r2) (v := ?v6r2) ?hi6r2 (by kernel_rfl) (by kernel_rfl) (by kernel_rfl) (fun _ _ _ h => h) ?hy6r2 (by assumption) ?r6r2
    case hi6r2 => simp only [List.getElem?_toArray, List.getElem?_cons_succ, List.getElem?_cons_zero]; rfl
    case hy6r2 => exact Or.inl ⟨by rfl, by (intro w hSw; (try dsimp only at hSw); (have hq := sq_cells hSw; obtain ⟨⟨q0, q1, q2, q3, q4, q5, q6, q7, q8, q9⟩, qp⟩ := hq); go_simp) <;> with_reducible rfl⟩
    try simp only [Act.put, List.setIfInBounds_toArray, List.set_cons_zero, List.set_cons_succ]
    refine wpAnyH_take (i := 7) (oi := ?o7r2) (v := ?v7r2) ?hi7r2 (by kernel_rfl) (by kernel_rfl) (by kernel_rfl) (fun _ _ _ h => h) ?hy7r2 (by assumption) ?r7r2
    case hi7r2 => simp only [List.getElem?_toArray, List.getElem?_cons_succ, List.getElem?_cons_zero]; rfl
    case hy7r2 => exact Or.inl ⟨by rfl, by (intro w hSw; (try dsimp only at hSw); (have hq := sq_cells hSw; obtain ⟨⟨q0, q1, q2, q3, q4, q5, q6, q7, q8, q9⟩, qp⟩ := hq); go_simp) <;> with_reducible rfl⟩
    try simp only [Act.put, List.setIfInBounds_toArray, List.set_cons_zero, List.set_cons_succ]
    refine wpAnyH_ready (rs := [8]) (by kernel_rfl) (by simp) ?_
    refine AllReadyH.cons (o := ?o8r2) ?hi8r2 (fun K hK => ?st8r2) AllReadyH.nil
    case hi8r2 => simp only [List.getElem?_toArray, List.getElem?_cons_succ, List.getElem?_cons_zero]; rfl
    have hcl := HSD.out.rw.cells
    (try dsimp only at hcl)
    obtain ⟨⟨hcl0, hcl1, hcl2, hcl3⟩, hfl0, hfl1, hfl2, hfl3⟩ := hcl
    go_simp
    have HSc := Lib.hid (HSD.out.setRest y)
    refine hK.out _ _ ?_ (fun hHeld => ?_)
    · (try dsimp only); exact sq_of HSc.out
    clear hK K hcl0 hcl1 hcl2 hcl3 hfl0 hfl1 hfl2 hfl3
    try simp only [Act.put, List.setIfInBounds_toArray, List.set_cons_zero, List.set_cons_succ]
    refine wpAnyH_done (by kernel_rfl) ?_ _
    refine NoPanic.normal ?_
    clear hHeld HSD
    go_wp2
    refine at_world (p := fun W => ST w0 b w _ lf ⟨7, z4, (p2 : Nat), 0, 0, 0, g + 1⟩ _ _ W) HSc.out (fun W hW => ?_)
    have HSD := Lib.hid (hW.below (Below.refl _ _).drew)
    clear hW
    refine wp_region_noPanic ?_
    refine wp_region_held_drew (S := fun w' => SQ w b ⟨7, z4, (p2 : Nat), 0, 0, 0, g + 1⟩ w') (by kernel_rfl) ?_ (fun hHeld => ?_)
    · (try dsimp only); exact sq_of HSD.out
    revert HSD hHeld
    generalize World.drew _ = W8
    intro HSD hHeld
    refine wpAnyH_take (i := 0) (oi := ?o0_pt9) (v := ?v0_pt9) ?hi0_pt9 (by kernel_rfl) (by kernel_rfl) (by kernel_rfl) (fun _ _ _ h => h) ?hy0_pt9 (by assumption) ?r0_pt9
    case hi0_pt9 => simp only [List.getElem?_toArray, List.getElem?_cons_succ, List.getElem?_cons_zero]; rfl
    case hy0_pt9 => exact Or.inl ⟨by rfl, by (intro w hSw; (try dsimp only at hSw); (have hq := sq_cells hSw; obtain ⟨⟨q0, q1, q2, q3, q4, q5, q6, q7, q8, q9⟩, qp⟩ := hq); go_simp) <;> with_reducible rfl⟩
    try simp only [Act.put, List.setIfInBounds_toArray, List.set_cons_zero, List.set_cons_succ]
    refine wpAnyH_take (i := 1) (oi := ?o1_pt9) (v := ?v1_pt9) ?hi1_pt9 (by kernel_rfl) (by kernel_rfl) (by kernel_rfl) (fun _ _ _ h => h) ?hy1_pt9 (by assumption) ?r1_pt9
    case hi1_pt9 => simp only [List.getElem?_toArray, List.getElem?_cons_succ, List.getElem?_cons_zero]; rfl
    case hy1_pt9 => exact Or.inl ⟨by rfl, by (intro w hSw; (try dsimp only at hSw); (have hq := sq_cells hSw; obtain ⟨⟨q0, q1, q2, q3, q4, q5, q6, q7, q8, q9⟩, qp⟩ := hq); go_simp) <;> with_reducible rfl⟩
    try simp only [Act.put, List.setIfInBounds_toArray, List.set_cons_zero, List.set_cons_succ]
    refine wpAnyH_take (i := 2) (oi := ?o2_pt9) (v := ?v2_pt9) ?hi2_pt9 (by kernel_rfl) (by kernel_rfl) (by kernel_rfl) (fun _ _ _ h => h) ?hy2_pt9 (by assumption) ?r2_pt9
    case hi2_pt9 => simp only [List.getElem?_toArray, List.getElem?_cons_succ, List.getElem?_cons_zero]; rfl
    case hy2_pt9 => exact Or.inl ⟨by rfl, by (intro w hSw; (try dsimp only at hSw); (have hq := sq_cells hSw; obtain ⟨⟨q0, q1, q2, q3, q4, q5, q6, q7, q8, q9⟩, qp⟩ := hq); go_simp) <;> with_reducible rfl⟩
    try simp only [Act.put, List.setIfInBounds_toArray, List.set_cons_zero, List.set_cons_succ]
    refine wpAnyH_take (i := 3) (oi := ?o3_pt9) (v := ?v3_pt9) ?hi3_pt9 (by kernel_rfl) (by kernel_rfl) (by kernel_rfl) (fun _ _ _ h => h) ?hy3_pt9 (by assumption) ?r3_pt9
    case hi3_pt9 => simp only [List.getElem?_toArray, List.getElem?_cons_succ, List.getElem?_cons_zero]; rfl
    case hy3_pt9 => exact Or.inl ⟨by rfl, by (intro w hSw; (try dsimp only at hSw); (have hq := sq_cells hSw; obtain ⟨⟨q0, q1, q2, q3, q4, q5, q6, q7, q8, q9⟩, qp⟩ := hq); go_simp) <;> with_reducible rfl⟩
    try simp only [Act.put, List.setIfInBounds_toArray, List.set_cons_zero, List.set_cons_succ]
    refine wpAnyH_take (i := 5) (oi := ?o5_pt9) (v := ?v5_pt9) ?hi5_pt9 (by kernel_rfl) (by kernel_rfl) (by kernel_rfl) (fun _ _ _ h => h) ?hy5_pt9 (by assumption) ?r5_pt9
    case hi5_pt9 => simp only [List.getElem?_toArray, List.getElem?_cons_succ, List.getElem?_cons_zero]; rfl
    case hy5_pt9 => exact Or.inl ⟨by rfl, by (intro w hSw; (try dsimp only at hSw); (have hq := sq_cells hSw; obtain ⟨⟨q0, q1, q2, q3, q4, q5, q6, q7, q8, q9⟩, qp⟩ := hq); go_simp) <;> with_reducible rfl⟩
    try simp only [Act.put, List.setIfInBounds_toArray, List.set_cons_zero, List.set_cons_succ]
    refine wpAnyH_ready (rs := [4, 6]) (by kernel_rfl) (by simp) ?_
    refine AllReadyH.cons (o := ?o4t9) ?hi4t9 (fun K hK => ?st4t9) (AllReadyH.cons (o := ?o6t9) ?hi6t9 (fun K hK => ?st6t9) AllReadyH.nil)
    case hi4t9 => simp only [List.getElem?_toArray, List.getElem?_cons_succ, List.getElem?_cons_zero]; rfl
    case hi6t9 => simp only [List.getElem?_toArray, List.getElem?_cons_succ, List.getElem?_cons_zero]; rfl
    case st4t9 =>
      have hPrev := hHeld
      have hcl := HSD.out.rw.cells.1.2.1
      (try dsimp only at hcl)
      go_simp
      refine hK.out _ _ ?_ (fun hHeld => ?_)
      · (try dsimp only); exact hPrev
      clear hK K hcl
      try simp only [Act.put, List.setIfInBounds_toArray, List.set_cons_zero, List.set_cons_succ]
      refine wpAnyH_ready (rs := [6]) (by kernel_rfl) (by simp) ?_
      refine AllReadyH.cons (o := ?o6at9) ?hi6at9 (fun K hK => ?st6at9) AllReadyH.nil
      case hi6at9 => simp only [List.getElem?_toArray, List.getElem?_cons_succ, List.getElem?_cons_zero]; rfl
      go_simp
      have HSA := Lib.hid (HSD.out.below ((Below.refl _ _).alloc (Nat.le_refl _) (.cells (NC ⟨7, z4, (p2 : Nat), 0, 0, 0, g + 1⟩) 40)))
      refine hK.out _ _ ?_ (fun hHeld => ?_)
      · (try dsimp only); exact sq_of HSA.out
      clear hK K
      try simp only [Act.put, List.setIfInBounds_toArray, List.set_cons_zero, List.set_cons_succ]
      have HNW := Lib.hid (@news_row W8 ⟨7, z4, (p2 : Nat), 0, 0, 0, g + 1⟩)
      revert HSA hHeld HNW
      generalize World.alloc _ _ = W9
      intro HSA hHeld HNW
      refine wpAnyH_ready (rs := [7]) (by kernel_rfl) (by simp) ?_
      refine AllReadyH.cons (o := ?o7at9) ?hi7at9 (fun K hK => ?st7at9) AllReadyH.nil
      case hi7at9 => simp only [List.getElem?_toArray, List.getElem?_cons_succ, List.getElem?_cons_zero]; rfl
      (refine step_append_lies _ rfl _ _ 22 rfl w0.heap.size 40 i0 _ 10 80 Tryd.underlying22 hi hz0 hz1 hz2 rfl (by decide) _ _ _ rfl HSA.out.rw.own ⟨_, 0, none⟩ 1 1 (NC ⟨7, z4, (p2 : Nat), 0, 0, 0, g + 1⟩).toList rfl rfl HNW.out (one_row _) (by decide) (by have := HLEN.out; (try dsimp only at this ⊢); unfold maxLen; omega) (by have := HLEN.out; (try dsimp only at this ⊢); omega) HSA.out.rw.bel.size _ rfl ?_; intro gg gcap w4 hown hgrow hat hlt4)
      have HP0 := rw_push HSA.out.rw hown hgrow hat
      have HP := Lib.hid HP0
      clear HP0
      have hq8 := sq_grown HSA.out hgrow
      refine hK.out _ _ ?_ (fun hHeld => ?_)
      · (try dsimp only); exact hq8
      clear hK K hq8
      try simp only [Act.put, List.setIfInBounds_toArray, List.set_cons_zero, List.set_cons_succ]
      refine wpAnyH_take (i := 8) (oi := ?o8_qt9a) (v := ?v8_qt9a) ?hi8_qt9a (by kernel_rfl) (by kernel_rfl) (by kernel_rfl) (fun _ _ _ h => h) ?hy8_qt9a (by assumption) ?r8_qt9a
      case hi8_qt9a => simp only [List.getElem?_toArray, List.getElem?_cons_succ, List.getElem?_cons_zero]; rfl
      case hy8_qt9a => exact Or.inl ⟨by rfl, by (intro w hSw; (try dsimp only at hSw); (have hq := sq_cells hSw; obtain ⟨⟨q0, q1, q2, q3, q4, q5, q6, q7, q8, q9⟩, qp⟩ := hq); go_simp) <;> with_reducible rfl⟩
      try simp only [Act.put, List.setIfInBounds_toArray, List.set_cons_zero, List.set_cons_succ]
      refine wpAnyH_take (i := 9) (oi := ?o9_qt9a) (v := ?v9_qt9a) ?hi9_qt9a (by kernel_rfl) (by kernel_rfl) (by kernel_rfl) (fun _ _ _ h => h) ?hy9_qt9a (by assumption) ?r9_qt9a
      case hi9_qt9a => simp only [List.getElem?_toArray, List.getElem?_cons_succ, List.getElem?_cons_zero]; rfl
      case hy9_qt9a => exact Or.inl ⟨by rfl, by (intro w hSw; (try dsimp only at hSw); (have hq := sq_cells hSw; obtain ⟨⟨q0, q1, q2, q3, q4, q5, q6, q7, q8, q9⟩, qp⟩ := hq); go_simp) <;> with_reducible rfl⟩
      try simp only [Act.put, List.setIfInBounds_toArray, List.set_cons_zero, List.set_cons_succ]
      refine wpAnyH_ready (rs := [10]) (by kernel_rfl) (by simp) ?_
      refine AllReadyH.cons (o := ?o10at9) ?hi10at9 (fun K hK => ?st10at9) AllReadyH.nil
      case hi10at9 => simp only [List.getElem?_toArray, List.getElem?_cons_succ, List.getElem?_cons_zero]; rfl
      have hf4 := fz_grown HSA.out hgrow 1
      have hc4 := cell_grown HSA.out hgrow
      go_simp
      have HZ := Lib.hid (HSA.out.step HP.out.1 HP.out.2)
      refine hK.out _ _ ?_ (fun hHeld => ?_)
      · (try dsimp only); exact sq_of HZ.out
      clear hK K hf4 hc4
      try simp only [Act.put, List.setIfInBounds_toArray, List.set_cons_zero, List.set_cons_succ]
      refine wpAnyH_done (by kernel_rfl) ?_ _
      refine NoPanic.normal ?_
      clear hHeld hgrow hown hat hlt4 HP HSA HSD HNW
      revert HZ
      generalize World.setCell _ _ _ = W10
      intro HZ
      obtain ⟨⟨p0, p1⟩, _, _⟩ := HZ.out.facts
      obtain ⟨⟨y0, y1, y2, y3⟩, _, _, _, _⟩ := HZ.out.rw.cells
      (try dsimp only at y0 y1 y2 y3)
      have hw1 : IntKind.i64.wrap ((((l2).length + 1 : Nat) : Int) - 1) = (((l2).length : Nat) : Int) := by have := HLEN.out; rw [IntKind.wrap_i64]; omega
      have hlen9 := HLEN.out
      go_wp2
      go_ret
      refine ⟨_, ?_, ?_, HZ.out.kr⟩
      · rw [HO.out]; rfl
      · rw [HO.out]; exact HZ.out.rw
    case st6t9 =>
      go_simp
      have HSA := Lib.hid (HSD.out.below ((Below.refl _ _).alloc (Nat.le_refl _) (.cells (NC ⟨7, z4, (p2 : Nat), 0, 0, 0, g + 1⟩) 40)))
      refine hK.out _ _ ?_ (fun hHeld => ?_)
      · (try dsimp only); exact sq_of HSA.out
      clear hK K
      try simp only [Act.put, List.setIfInBounds_toArray, List.set_cons_zero, List.set_cons_succ]
      have HNW := Lib.hid (@news_row W8 ⟨7, z4, (p2 : Nat), 0, 0, 0, g + 1⟩)
      revert HSA hHeld HNW
      generalize World.alloc _ _ = W9
      intro HSA hHeld HNW
      have hPrev := hHeld
      refine wpAnyH_ready (rs := [4]) (by kernel_rfl) (by simp) ?_
      refine AllReadyH.cons (o := ?o4bt9) ?hi4bt9 (fun K hK => ?st4bt9) AllReadyH.nil
      case hi4bt9 => simp only [List.getElem?_toArray, List.getElem?_cons_succ, List.getElem?_cons_zero]; rfl
      have hcl := HSA.out.rw.cells.1.2.1
      (try dsimp only at hcl)
      go_simp
      refine hK.out _ _ ?_ (fun hHeld => ?_)
      · (try dsimp only); exact hPrev
      clear hK K hcl
      try simp only [Act.put, List.setIfInBounds_toArray, List.set_cons_zero, List.set_cons_succ]
      refine wpAnyH_ready (rs := [7]) (by kernel_rfl) (by simp) ?_
      refine AllReadyH.cons (o := ?o7bt9) ?hi7bt9 (fun K hK => ?st7bt9) AllReadyH.nil
      case hi7bt9 => simp only [List.getElem?_toArray, List.getElem?_cons_succ, List.getElem?_cons_zero]; rfl
      (refine step_append_lies _ rfl _ _ 22 rfl w0.heap.size 40 i0 _ 10 80 Tryd.underlying22 hi hz0 hz1 hz2 rfl (by decide) _ _ _ rfl HSA.out.rw.own ⟨_, 0, none⟩ 1 1 (NC ⟨7, z4, (p2 : Nat), 0, 0, 0, g + 1⟩).toList rfl rfl HNW.out (one_row _) (by decide) (by have := HLEN.out; (try dsimp only at this ⊢); unfold maxLen; omega) (by have := HLEN.out; (try dsimp only at this ⊢); omega) HSA.out.rw.bel.size _ rfl ?_; intro gg gcap w4 hown hgrow hat hlt4)
      have HP0 := rw_push HSA.out.rw hown hgrow hat
      have HP := Lib.hid HP0
      clear HP0
      have hq8 := sq_grown HSA.out hgrow
      refine hK.out _ _ ?_ (fun hHeld => ?_)
      · (try dsimp only); exact hq8
      clear hK K hq8
      try simp only [Act.put, List.setIfInBounds_toArray, List.set_cons_zero, List.set_cons_succ]
      refine wpAnyH_take (i := 8) (oi := ?o8_qt9b) (v := ?v8_qt9b) ?hi8_qt9b (by kernel_rfl) (by kernel_rfl) (by kernel_rfl) (fun _ _ _ h => h) ?hy8_qt9b (by assumption) ?r8_qt9b
      case hi8_qt9b => simp only [List.getElem?_toArray, List.getElem?_cons_succ, List.getElem?_cons_zero]; rfl
      case hy8_qt9b => exact Or.inl ⟨by rfl, by (intro w hSw; (try dsimp only at hSw); (have hq := sq_cells hSw; obtain ⟨⟨q0, q1, q2, q3, q4, q5, q6, q7, q8, q9⟩, qp⟩ := hq); go_simp) <;> with_reducible rfl⟩
      try simp only [Act.put, List.setIfInBounds_toArray, List.set_cons_zero, List.set_cons_succ]
      refine wpAnyH_take (i := 9) (oi := ?o9_qt9b) (v := ?v9_qt9b) ?hi9_qt9b (by kernel_rfl) (by kernel_rfl) (by kernel_rfl) (fun _ _ _ h => h) ?hy9_qt9b (by assumption) ?r9_qt9b
      case hi9_qt9b => simp only [List.getElem?_toArray, List.getElem?_cons_succ, List.getElem?_cons_zero]; rfl
      case hy9_qt9b => exact Or.inl ⟨by rfl, by (intro w hSw; (try dsimp only at hSw); (have hq := sq_cells hSw; obtain ⟨⟨q0, q1, q2, q3, q4, q5, q6, q7, q8, q9⟩, qp⟩ := hq); go_simp) <;> with_reducible rfl⟩
      try simp only [Act.put, List.setIfInBounds_toArray, List.set_cons_zero, List.set_cons_succ]
      refine wpAnyH_ready (rs := [10]) (by kernel_rfl) (by simp) ?_
      refine AllReadyH.cons (o := ?o10bt9) ?hi10bt9 (fun K hK => ?st10bt9) AllReadyH.nil
      case hi10bt9 => simp only [List.getElem?_toArray, List.getElem?_cons_succ, List.getElem?_cons_zero]; rfl
      have hf4 := fz_grown HSA.out hgrow 1
      have hc4 := cell_grown HSA.out hgrow
      go_simp
      have HZ := Lib.hid (HSA.out.step HP.out.1 HP.out.2)
      refine hK.out _ _ ?_ (fun hHeld => ?_)
      · (try dsimp only); exact sq_of HZ.out
      clear hK K hf4 hc4
      try simp only [Act.put, List.setIfInBounds_toArray, List.set_cons_zero, List.set_cons_succ]
      refine wpAnyH_done (by kernel_rfl) ?_ _
      refine NoPanic.normal ?_
      clear hHeld hgrow hown hat hlt4 HP HSA HSD HNW
      revert HZ
      generalize World.setCell _ _ _ = W10
      intro HZ
      obtain ⟨⟨p0, p1⟩, _, _⟩ := HZ.out.facts
      obtain ⟨⟨y0, y1, y2, y3⟩, _, _, _, _⟩ := HZ.out.rw.cells
      (try dsimp only at y0 y1 y2 y3)
      have hw1 : IntKind.i64.wrap ((((l2).length + 1 : Nat) : Int) - 1) = (((l2).length : Nat) : Int) := by have := HLEN.out; rw [IntKind.wrap_i64]; omega
      have hlen9 := HLEN.out
      go_wp2
      go_ret
      refine ⟨_, ?_, ?_, HZ.out.kr⟩
      · rw [HO.out]; rfl
      · rw [HO.out]; exact HZ.out.rw
  · skip
    refine at_world (p := fun W => ST w0 b w _ lf ⟨7, z4, (p2 : Nat), 0, 0, 0, g + 1⟩ _ _ W) HSa.out (fun W hW => ?_)
    have HSD := Lib.hid (hW.below (Below.refl _ _).drew)
    clear hW
    refine wp_region_noPanic ?_
    refine wp_region_held_drew (S := fun w' => SR w b ⟨7, z4, (p2 : Nat), 0, 0, 0, g + 1⟩ x w') (by kernel_rfl) ?_ (fun hHeld => ?_)
    · (try dsimp only); exact sr_of HSD.out
    revert HSD hHeld
    generalize World.drew _ = W8
    intro HSD hHeld
    refine wpAnyH_take (i := 0) (oi := ?o0r3) (v := ?v0r3) ?hi0r3 (by kernel_rfl) (by kernel_rfl) (by kernel_rfl) (fun _ _ _ h => h) ?hy0r3 (by assumption) ?r0r3
    case hi0r3 => simp only [List.getElem?_toArray, List.getElem?_cons_succ, List.getElem?_cons_zero]; rfl
    case hy0r3 => exact Or.inl ⟨by rfl, by (intro w hSw; (try dsimp only at hSw); (have hq := sq_cells hSw.1; have qr := hSw.2; obtain ⟨⟨q0, q1, q2, q3, q4, q5, q6, q7, q8, q9⟩, qp⟩ := hq); go_simp) <;> with_reducible rfl⟩
    try simp only [Act.put, List.setIfInBounds_toArray, List.set_cons_zero, List.set_cons_succ]
    refine wpAnyH_take (i := 1) (oi := ?o1r3) (v := ?v1r3) ?hi1r3 (by kernel_rfl) (by kernel_rfl) (by kernel_rfl) (fun _ _ _ h => h) ?hy1r3 (by assumption) ?r1r3
    case hi1r3 => simp only [List.getElem?_toArray, List.getElem?_cons_succ, List.getElem?_cons_zero]; rfl
    case hy1r3 => exact Or.inl ⟨by rfl, by (intro w hSw; (try dsimp only at hSw); (have hq := sq_cells hSw.1; have qr := hSw.2; obtain ⟨⟨q0, q1, q2, q3, q4, q5, q6, q7, q8, q9⟩, qp⟩ := hq); go_simp) <;> with_reducible rfl⟩
    try simp only [Act.put, List.setIfInBounds_toArray, List.set_cons_zero, List.set_cons_succ]
    refine wpAnyH_take (i := 2) (oi := ?o2r3) (v := ?v2r3) ?hi2r3 (by kernel_rfl) (by kernel_rfl) (by kernel_rfl) (fun _ _ _ h => h) ?hy2r3 (by assumption) ?r2r3
    case hi2r3 => simp only [List.getElem?_toArray, List.getElem?_cons_succ, List.getElem?_cons_zero]; rfl
    case hy2r3 => exact Or.inl ⟨by rfl, by (intro w hSw; (try dsimp only at hSw); (have hq := sq_cells hSw.1; have qr := hSw.2; obtain ⟨⟨q0, q1, q2, q3, q4, q5, q6, q7, q8, q9⟩, qp⟩ := hq); go_simp) <;> with_reducible rfl⟩
    try simp only [Act.put, List.setIfInBounds_toArray, List.set_cons_zero, List.set_cons_succ]
    refine wpAnyH_take (i := 3) (oi := ?o3r3) (v := ?v3r3) ?hi3r3 (by kernel_rfl) (by kernel_rfl) (by kernel_rfl) (fun _ _ _ h => h) ?hy3r3 (by assumption) ?r3r3
    case hi3r3 => simp only [List.getElem?_toArray, List.getElem?_cons_succ, List.getElem?_cons_zero]; rfl
    case hy3r3 => exact Or.inl ⟨by rfl, by (intro w hSw; (try dsimp only at hSw); (have hq := sq_cells hSw.1; have qr := hSw.2; obtain ⟨⟨q0, q1, q2, q3, q4, q5, q6, q7, q8, q9⟩, qp⟩ := hq); go_simp) <;> with_reducible rfl⟩
    try simp only [Act.put, List.setIfInBounds_toArray, List.set_cons_zero, List.set_cons_succ]
    refine wpAnyH_ready (rs := [4]) (by kernel_rfl) (by simp) ?_
    refine AllReadyH.cons (o := ?o4r3) ?hi4r3 (fun K hK => ?st4r3) AllReadyH.nil
    case hi4r3 => simp only [List.getElem?_toArray, List.getElem?_cons_succ, List.getElem?_cons_zero]; rfl
    have hPrev := hHeld
    have hcl := HSD.out.rw.cells.1
    (try dsimp only at hcl)
    obtain ⟨hcl0, hcl1, hcl2, hcl3⟩ := hcl
    go_simp
    refine hK.out _ _ ?_ (fun hHeld => ?_)
    · (try dsimp only); exact hPrev
    clear hK K hcl0 hcl1 hcl2 hcl3 hPrev
    try simp only [Act.put, List.setIfInBounds_toArray, List.set_cons_zero, List.set_cons_succ]
    refine wpAnyH_take (i := 5) (oi := ?o5r3) (v := ?v5r3) ?hi5r3 (by kernel_rfl) (by kernel_rfl) (by kernel_rfl) (fun _ _ _ h => h) ?hy5r3 (by assumption) ?r5r3
    case hi5r3 => simp only [List.getElem?_toArray, List.getElem?_cons_succ, List.getElem?_cons_zero]; rfl
    case hy5r3 => exact Or.inl ⟨by rfl, by (intro w hSw; (try dsimp only at hSw); (have hq := sq_cells hSw.1; have qr := hSw.2; obtain ⟨⟨q0, q1, q2, q3, q4, q5, q6, q7, q8, q9⟩, qp⟩ := hq); go_simp) <;> with_reducible rfl⟩
    try simp only [Act.put, List.setIfInBounds_toArray, List.set_cons_zero, List.set_cons_succ]
    refine wpAnyH_take (i := 6) (oi := ?o6r3) (v := ?v6r3) ?hi6r3 (by kernel_rfl) (by kernel_rfl) (by kernel_rfl) (fun _ _ _ h => h) ?hy6r3 (by assumption) ?r6r3
    case hi6r3 => simp only [List.getElem?_toArray, List.getElem?_cons_succ, List.getElem?_cons_zero]; rfl
    case hy6r3 => exact Or.inl ⟨by rfl, by (intro w hSw; (try dsimp only at hSw); (have hq := sq_cells hSw.1; have qr := hSw.2; obtain ⟨⟨q0, q1, q2, q3, q4, q5, q6, q7, q8, q9⟩, qp⟩ := hq); go_simp) <;> with_reducible rfl⟩
    try simp only [Act.put, List.setIfInBounds_toArray, List.set_cons_zero, List.set_cons_succ]
    refine wpAnyH_take (i := 7) (oi := ?o7r3) (v := ?v7r3) ?hi7r3 (by kernel_rfl) (by kernel_rfl) (by kernel_rfl) (fun _ _ _ h => h) ?hy7r3 (by assumption) ?r7r3
    case hi7r3 => simp only [List.getElem?_toArray, List.getElem?_cons_succ, List.getElem?_cons_zero]; rfl
    case hy7r3 => exact Or.inl ⟨by rfl, by (intro w hSw; (try dsimp only at hSw); (have hq := sq_cells hSw.1; have qr := hSw.2; obtain ⟨⟨q0, q1, q2, q3, q4, q5, q6, q7, q8, q9⟩, qp⟩ := hq); go_simp) <;> with_reducible rfl⟩
    try simp only [Act.put, List.setIfInBounds_toArray, List.set_cons_zero, List.set_cons_succ]
    refine wpAnyH_take (i := 8) (oi := ?o8r3) (v := ?v8r3) ?hi8r3 (by kernel_rfl) (by kernel_rfl) (by kernel_rfl) (fun _ _ _ h => h) ?hy8r3 (by assumption) ?r8r3
    case hi8r3 => simp only [List.getElem?_toArray, List.getElem?_cons_succ, List.getElem?_cons_zero]; rfl
    case hy8r3 => exact Or.inl ⟨by rfl, by (intro w hSw; (try dsimp only at hSw); (have hq := sq_cells hSw.1; have qr := hSw.2; obtain ⟨⟨q0, q1, q2, q3, q4, q5, q6, q7, q8, q9⟩, qp⟩ := hq); go_simp) <;> with_reducible rfl⟩
    try simp only [Act.put, List.setIfInBounds_toArray, List.set_cons_zero, List.set_cons_succ]
    refine wpAnyH_take (i := 9) (oi := ?o9r3) (v := ?v9r3) ?hi9r3 (by kernel_rfl) (by kernel_rfl) (by kernel_rfl) (fun _ _ _ h => h) ?hy9r3 (by assumption) ?r9r3
    case hi9r3 => simp only [List.getElem?_toArray, List.getElem?_cons_succ, List.getElem?_cons_zero]; rfl
    case hy9r3 => exact Or.inl ⟨by rfl, by (intro w hSw; (try dsimp only at hSw); (have hq := sq_cells hSw.1; have qr := hSw.2; obtain ⟨⟨q0, q1, q2, q3, q4, q5, q6, q7, q8, q9⟩, qp⟩ := hq); go_simp) <;> with_reducible rfl⟩
    try simp only [Act.put, List.setIfInBounds_toArray, List.set_cons_zero, List.set_cons_succ]
    refine wpAnyH_ready (rs := [10]) (by kernel_rfl) (by simp) ?_
    refine AllReadyH.cons (o := ?o10r3) ?hi10r3 (fun K hK => ?st10r3) AllReadyH.nil
    case hi10r3 => simp only [List.getElem?_toArray, List.getElem?_cons_succ, List.getElem?_cons_zero]; rfl
    go_simp
    (go_at_call 37; refine (HHP.out _).mono ?_; rintro e w9 ⟨rfl, rfl⟩)
    refine hK.out _ _ ?_ (fun hHeld => ?_)
    · (try dsimp only); (exact hHeld)
    clear hK K
    try simp only [Act.put, List.setIfInBounds_toArray, List.set_cons_zero, List.set_cons_succ]
    refine wpAnyH_take (i := 11) (oi := ?o11r3) (v := ?v11r3) ?hi11r3 (by kernel_rfl) (by kernel_rfl) (by kernel_rfl) (fun _ _ _ h => h) ?hy11r3 (by assumption) ?r11r3
    case hi11r3 => simp only [List.getElem?_toArray, List.getElem?_cons_succ, List.getElem?_cons_zero]; rfl
    case hy11r3 => exact Or.inl ⟨by rfl, by (intro w hSw; (try dsimp only at hSw); (have hq := sq_cells hSw.1; have qr := hSw.2; obtain ⟨⟨q0, q1, q2, q3, q4, q5, q6, q7, q8, q9⟩, qp⟩ := hq); go_simp) <;> with_reducible rfl⟩
    try simp only [Act.put, List.setIfInBounds_toArray, List.set_cons_zero, List.set_cons_succ]
    refine wpAnyH_take (i := 12) (oi := ?o12r3) (v := ?v12r3) ?hi12r3 (by kernel_rfl) (by kernel_rfl) (by kernel_rfl) (fun _ _ _ h => h) ?hy12r3 (by assumption) ?r12r3
    case hi12r3 => simp only [List.getElem?_toArray, List.getElem?_cons_succ, List.getElem?_cons_zero]; rfl
    case hy12r3 => exact Or.inl ⟨by rfl, by (intro w hSw; (try dsimp only at hSw); (have hq := sq_cells hSw.1; have qr := hSw.2; obtain ⟨⟨q0, q1, q2, q3, q4, q5, q6, q7, q8, q9⟩, qp⟩ := hq); go_simp) <;> with_reducible rfl⟩
    try simp only [Act.put, List.setIfInBounds_toArray, List.set_cons_zero, List.set_cons_succ]
    refine wpAnyH_take (i := 13) (oi := ?o13r3) (v := ?v13r3) ?hi13r3 (by kernel_rfl) (by kernel_rfl) (by kernel_rfl) (fun _ _ _ h => h) ?hy13r3 (by assumption) ?r13r3
    case hi13r3 => simp only [List.getElem?_toArray, List.getElem?_cons_succ, List.getElem?_cons_zero]; rfl
    case hy13r3 => exact Or.inl ⟨by rfl, by (intro w hSw; (try dsimp only at hSw); (have hq := sq_cells hSw.1; have qr := hSw.2; obtain ⟨⟨q0, q1, q2, q3, q4, q5, q6, q7, q8, q9⟩, qp⟩ := hq); go_simp) <;> with_reducible rfl⟩
    try simp only [Act.put, List.setIfInBounds_toArray, List.set_cons_zero, List.set_cons_succ]
    refine wpAnyH_take (i := 14) (oi := ?o14r3) (v := ?v14r3) ?hi14r3 (by kernel_rfl) (by kernel_rfl) (by kernel_rfl) (fun _ _ _ h => h) ?hy14r3 (by assumption) ?r14r3
    case hi14r3 => simp only [List.getElem?_toArray, List.getElem?_cons_succ, List.getElem?_cons_zero]; rfl
    case hy14r3 => exact Or.inl ⟨by rfl, by (intro w hSw; (try dsimp only at hSw); (have hq := sq_cells hSw.1; have qr := hSw.2; obtain ⟨⟨q0, q1, q2, q3, q4, q5, q6, q7, q8, q9⟩, qp⟩ := hq); go_simp) <;> with_reducible rfl⟩
    try simp only [Act.put, List.setIfInBounds_toArray, List.set_cons_zero, List.set_cons_succ]
    refine wpAnyH_ready (rs := [15]) (by kernel_rfl) (by simp) ?_
    refine AllReadyH.cons (o := ?o15r3) ?hi15r3 (fun K hK => ?st15r3) AllReadyH.nil
    case hi15r3 => simp only [List.getElem?_toArray, List.getElem?_cons_succ, List.getElem?_cons_zero]; rfl
    have hcl := HSD.out.rw.cells
    (try dsimp only at hcl)
    obtain ⟨⟨hcl0, hcl1, hcl2, hcl3⟩, hfl0, hfl1, hfl2, hfl3⟩ := hcl
    go_simp
    have HSb := Lib.hid (HSD.out.setBad false)
    refine hK.out _ _ ?_ (fun hHeld => ?_)
    · (try dsimp only); exact sr_of HSb.out
    clear hK K hcl0 hcl1 hcl2 hcl3 hfl0 hfl1 hfl2 hfl3
    try simp only [Act.put, List.setIfInBounds_toArray, List.set_cons_zero, List.set_cons_succ]
    refine wpAnyH_done (by kernel_rfl) ?_ _
    refine NoPanic.normal ?_
    clear hHeld HSD
    go_wp2
    refine at_world (p := fun W => ST w0 b w _ lf ⟨7, z4, (p2 : Nat), 0, 0, 0, g + 1⟩ _ _ W) HSb.out (fun W hW => ?_)
    have HSD := Lib.hid (hW.below (Below.refl _ _).drew)
    clear hW
    refine wp_region_noPanic ?_
    refine wp_region_held_drew (S := fun w' => SQ w b ⟨7, z4, (p2 : Nat), 0, 0, 0, g + 1⟩ w') (by kernel_rfl) ?_ (fun hHeld => ?_)
    · (try dsimp only); exact sq_of HSD.out
    revert HSD hHeld
    generalize World.drew _ = W8
    intro HSD hHeld
    refine wpAnyH_take (i := 0) (oi := ?o0r4) (v := ?v0r4) ?hi0r4 (by kernel_rfl) (by kernel_rfl) (by kernel_rfl) (fun _ _ _ h => h) ?hy0r4 (by assumption) ?r0r4
    case hi0r4 => simp only [List.getElem?_toArray, List.getElem?_cons_succ, List.getElem?_cons_zero]; rfl
    case hy0r4 => exact Or.inl ⟨by rfl, by (intro w hSw; (try dsimp only at hSw); (have hq := sq_cells hSw; obtain ⟨⟨q0, q1, q2, q3, q4, q5, q6, q7, q8, q9⟩, qp⟩ := hq); go_simp) <;> with_reducible rfl⟩
    try simp only [Act.put, List.setIfInBounds_toArray, List.set_cons_zero, List.set_cons_succ]
    refine wpAnyH_take (i := 1) (oi := ?o1r4) (v := ?v1r4) ?hi1r4 (by kernel_rfl) (by kernel_rfl) (by kernel_rfl) (fun _ _ _ h => h) ?hy1r4 (by assumption) ?r1r4
    case hi1r4 => simp only [List.getElem?_toArray, List.getElem?_cons_succ, List.getElem?_cons_zero]; rfl
    case hy1r4 => exact Or.inl ⟨by rfl, by (intro w hSw; (try dsimp only at hSw); (have hq := sq_cells hSw; obtain ⟨⟨q0, q1, q2, q3, q4, q5, q6, q7, q8, q9⟩, qp⟩ := hq); go_simp) <;> with_reducible rfl⟩
    try simp only [Act.put, List.setIfInBounds_toArray, List.set_cons_zero, List.set_cons_succ]
    refine wpAnyH_take (i := 2) (oi := ?o2r4) (v := ?v2r4) ?hi2r4 (by kernel_rfl) (by kernel_rfl) (by kernel_rfl) (fun _ _ _ h => h) ?hy2r4 (by assumption) ?r2r4
    case hi2r4 => simp only [List.getElem?_toArray, List.getElem?_cons_succ, List.getElem?_cons_zero]; rfl
    case hy2r4 => exact Or.inl ⟨by rfl, by (intro w hSw; (try dsimp only at hSw); (have hq := sq_cells hSw; obtain ⟨⟨q0, q1, q2, q3, q4, q5, q6, q7, q8, q9⟩, qp⟩ := hq); go_simp) <;> with_reducible rfl⟩
    try simp only [Act.put, List.setIfInBounds_toArray, List.set_cons_zero, List.set_cons_succ]
    refine wpAnyH_take (i := 3) (oi := ?o3r4) (v := ?v3r4) ?hi3r4 (by kernel_rfl) (by kernel_rfl) (by kernel_rfl) (fun _ _ _ h => h) ?hy3r4 (by assumption) ?r3r4
    case hi3r4 => simp only [List.getElem?_toArray, List.getElem?_cons_succ, List.getElem?_cons_zero]; rfl
    case hy3r4 => exact Or.inl ⟨by rfl, by (intro w hSw; (try dsimp only at hSw); (have hq := sq_cells hSw; obtain ⟨⟨q0, q1, q2, q3, q4, q5, q6, q7, q8, q9⟩, qp⟩ := hq); go_simp) <;> with_reducible rfl⟩
    try simp only [Act.put, List.setIfInBounds_toArray, List.set_cons_zero, List.set_cons_succ]
    refine wpAnyH_ready (rs := [4]) (by kernel_rfl) (by simp) ?_
    refine AllReadyH.cons (o := ?o4r4) ?hi4r4 (fun K hK => ?st4r4) AllReadyH.nil
    case hi4r4 => simp only [List.getElem?_toArray, List.getElem?_cons_succ, List.getElem?_cons_zero]; rfl
    have hPrev := hHeld
    have hcl := HSD.out.rw.cells.1
    (try dsimp only at hcl)
    obtain ⟨hcl0, hcl1, hcl2, hcl3⟩ := hcl
    go_simp
    refine hK.out _ _ ?_ (fun hHeld => ?_)
    · (try dsimp only); exact hPrev
    clear hK K hcl0 hcl1 hcl2 hcl3 hPrev
    try simp only [Act.put, List.setIfInBounds_toArray, List.set_cons_zero, List.set_cons_succ]
    refine wpAnyH_ready (rs := [5]) (by kernel_rfl) (by simp) ?_
    refine AllReadyH.cons (o := ?o5r4) ?hi5r4 (fun K hK => ?st5r4) AllReadyH.nil
    case hi5r4 => simp only [List.getElem?_toArray, List.getElem?_cons_succ, List.getElem?_cons_zero]; rfl
    go_simp
    (go_at_call 38; refine (HTP.out _).mono ?_; rintro e w9 ⟨rfl, rfl⟩)
    refine hK.out _ _ ?_ (fun hHeld => ?_)
    · (try dsimp only); (exact hHeld)
    clear hK K
    try simp only [Act.put, List.setIfInBounds_toArray, List.set_cons_zero, List.set_cons_succ]
    refine wpAnyH_take (i := 6) (oi := ?o6r4) (v := ?v6r4) ?hi6r4 (by kernel_rfl) (by kernel_rfl) (by kernel_rfl) (fun _ _ _ h => h) ?hy6r4 (by assumption) ?r6r4
    case hi6r4 => simp only [List.getElem?_toArray, List.getElem?_cons_succ, List.getElem?_cons_zero]; rfl
    case hy6r4 => exact Or.inl ⟨by rfl, by (intro w hSw; (try dsimp only at hSw); (have hq := sq_cells hSw; obtain ⟨⟨q0, q1, q2, q3, q4, q5, q6, q7, q8, q9⟩, qp⟩ := hq); go_simp) <;> with_reducible rfl⟩
    try simp only [Act.put, List.setIfInBounds_toArray, List.set_cons_zero, List.set_cons_succ]
    refine wpAnyH_take (i := 7) (oi := ?o7r4) (v := ?v7r4) ?hi7r4 (by kernel_rfl) (by kernel_rfl) (by kernel_rfl) (fun _ _ _ h => h) ?hy7r4 (by assumption) ?r7r4
    case hi7r4 => simp only [List.getElem?_toArray, List.getElem?_cons_succ, List.getElem?_cons_zero]; rfl
    case hy7r4 => exact Or.inl ⟨by rfl, by (intro w hSw; (try dsimp only at hSw); (have hq := sq_cells hSw; obtain ⟨⟨q0, q1, q2, q3, q4, q5, q6, q7, q8, q9⟩, qp⟩ := hq); go_simp) <;> with_reducible rfl⟩
    try simp only [Act.put, List.setIfInBounds_toArray, List.set_cons_zero, List.set_cons_succ]
    refine wpAnyH_ready (rs := [8]) (by kernel_rfl) (by simp) ?_
    refine AllReadyH.cons (o := ?o8r4) ?hi8r4 (fun K hK => ?st8r4) AllReadyH.nil
    case hi8r4 => simp only [List.getElem?_toArray, List.getElem?_cons_succ, List.getElem?_cons_zero]; rfl
    have hcl := HSD.out.rw.cells
    (try dsimp only at hcl)
    obtain ⟨⟨hcl0, hcl1, hcl2, hcl3⟩, hfl0, hfl1, hfl2, hfl3⟩ := hcl
    go_simp
    have HSc := Lib.hid (HSD.out.setRest y)
    refine hK.out _ _ ?_ (fun hHeld => ?_)
    · (try dsimp only); exact sq_of HSc.out
    clear hK K hcl0 hcl1 hcl2 hcl3 hfl0 hfl1 hfl2 hfl3
    try simp only [Act.put, List.setIfInBounds_toArray, List.set_cons_zero, List.set_cons_succ]
    refine wpAnyH_done (by kernel_rfl) ?_ _
    refine NoPanic.normal ?_
    clear hHeld HSD
    go_wp2
    refine at_world (p := fun W => ST w0 b w _ lf ⟨7, z4, (p2 : Nat), 0, 0, 0, g + 1⟩ _ _ W) HSc.out (fun W hW => ?_)
    have HSD := Lib.hid (hW.below (Below.refl _ _).drew)
    clear hW
    refine wp_region_noPanic ?_
    refine wp_region_held_drew (S := fun w' => SQ w b ⟨7, z4, (p2 : Nat), 0, 0, 0, g + 1⟩ w') (by kernel_rfl) ?_ (fun hHeld => ?_)
    · (try dsimp only); exact sq_of HSD.out
    revert HSD hHeld
    generalize World.drew _ = W8
    intro HSD hHeld
    refine wpAnyH_take (i := 0) (oi := ?o0_pt10) (v := ?v0_pt10) ?hi0_pt10 (by kernel_rfl) (by kernel_rfl) (by kernel_rfl) (fun _ _ _ h => h) ?hy0_pt10 (by assumption) ?r0_pt10
    case hi0_pt10 => simp only [List.getElem?_toArray, List.getElem?_cons_succ, List.getElem?_cons_zero]; rfl
    case hy0_pt10 => exact Or.inl ⟨by rfl, by (intro w hSw; (try dsimp only at hSw); (have hq := sq_cells hSw; obtain ⟨⟨q0, q1, q2, q3, q4, q5, q6, q7, q8, q9⟩, qp⟩ := hq); go_simp) <;> with_reducible rfl⟩
    try simp only [Act.put, List.setIfInBounds_toArray, List.set_cons_zero, List.set_cons_succ]
    refine wpAnyH_take (i := 1) (oi := ?o1_pt10) (v := ?v1_pt10) ?hi1_pt10 (by kernel_rfl) (by kernel_rfl) (by kernel_rfl) (fun _ _ _ h => h) ?hy1_pt10 (by assumption) ?r1_pt10
    case hi1_pt10 => simp only [List.getElem?_toArray, List.getElem?_cons_succ, List.getElem?_cons_zero]; rfl
    case hy1_pt10 => exact Or.inl ⟨by rfl, by (intro w hSw; (try dsimp only at hSw); (have hq := sq_cells hSw; obtain ⟨⟨q0, q1, q2, q3, q4, q5, q6, q7, q8, q9⟩, qp⟩ := hq); go_simp) <;> with_reducible rfl⟩
    try simp only [Act.put, List.setIfInBounds_toArray, List.set_cons_zero, List.set_cons_succ]
    refine wpAnyH_take (i := 2) (oi := ?o2_pt10) (v := ?v2_pt10) ?hi2_pt10 (by kernel_rfl) (by kernel_rfl) (by kernel_rfl) (fun _ _ _ h => h) ?hy2_pt10 (by assumption) ?r2_pt10
    case hi2_pt10 => simp only [List.getElem?_toArray, List.getElem?_cons_succ, List.getElem?_cons_zero]; rfl
    case hy2_pt10 => exact Or.inl ⟨by rfl, by (intro w hSw; (try dsimp only at hSw); (have hq := sq_cells hSw; obtain ⟨⟨q0, q1, q2, q3, q4, q5, q6, q7, q8, q9⟩, qp⟩ := hq); go_simp) <;> with_reducible rfl⟩
    try simp only [Act.put, List.setIfInBounds_toArray, List.set_cons_zero, List.set_cons_succ]
    refine wpAnyH_take (i := 3) (oi := ?o3_pt10) (v := ?v3_pt10) ?hi3_pt10 (by kernel_rfl) (by kernel_rfl) (by kernel_rfl) (fun _ _ _ h => h) ?hy3_pt10 (by assumption) ?r3_pt10
    case hi3_pt10 => simp only [List.getElem?_toArray, List.getElem?_cons_succ, List.getElem?_cons_zero]; rfl
    case hy3_pt10 => exact Or.inl ⟨by rfl, by (intro w hSw; (try dsimp only at hSw); (have hq := sq_cells hSw; obtain ⟨⟨q0, q1, q2, q3, q4, q5, q6, q7, q8, q9⟩, qp⟩ := hq); go_simp) <;> with_reducible rfl⟩
    try simp only [Act.put, List.setIfInBounds_toArray, List.set_cons_zero, List.set_cons_succ]
    refine wpAnyH_take (i := 5) (oi := ?o5_pt10) (v := ?v5_pt10) ?hi5_pt10 (by kernel_rfl) (by kernel_rfl) (by kernel_rfl) (fun _ _ _ h => h) ?hy5_pt10 (by assumption) ?r5_pt10
    case hi5_pt10 => simp only [List.getElem?_toArray, List.getElem?_cons_succ, List.getElem?_cons_zero]; rfl
    case hy5_pt10 => exact Or.inl ⟨by rfl, by (intro w hSw; (try dsimp only at hSw); (have hq := sq_cells hSw; obtain ⟨⟨q0, q1, q2, q3, q4, q5, q6, q7, q8, q9⟩, qp⟩ := hq); go_simp) <;> with_reducible rfl⟩
    try simp only [Act.put, List.setIfInBounds_toArray, List.set_cons_zero, List.set_cons_succ]
    refine wpAnyH_ready (rs := [4, 6]) (by kernel_rfl) (by simp) ?_
    refine AllReadyH.cons (o := ?o4t10) ?hi4t10 (fun K hK => ?st4t10) (AllReadyH.cons (o := ?o6t10) ?hi6t10 (fun K hK => ?st6t10) AllReadyH.nil)
    case hi4t10 => simp only [List.getElem?_toArray, List.getElem?_cons_succ, List.getElem?_cons_zero]; rfl
    case hi6t10 => simp only [List.getElem?_toArray, List.getElem?_cons_succ, List.getElem?_cons_zero]; rfl
    case st4t10 =>
      have hPrev := hHeld
      have hcl := HSD.out.rw.cells.1.2.1
      (try dsimp only at hcl)
      go_simp
      refine hK.out _ _ ?_ (fun hHeld => ?_)
      · (try dsimp only); exact hPrev
      clear hK K hcl
      try simp only [Act.put, List.setIfInBounds_toArray, List.set_cons_zero, List.set_cons_succ]
      refine wpAnyH_ready (rs := [6]) (by kernel_rfl) (by simp) ?_
      refine AllReadyH.cons (o := ?o6at10) ?hi6at10 (fun K hK => ?st6at10) AllReadyH.nil
      case hi6at10 => simp only [List.getElem?_toArray, List.getElem?_cons_succ, List.getElem?_cons_zero]; rfl
      go_simp
      have HSA := Lib.hid (HSD.out.below ((Below.refl _ _).alloc (Nat.le_refl _) (.cells (NC ⟨7, z4, (p2 : Nat), 0, 0, 0, g + 1⟩) 40)))
      refine hK.out _ _ ?_ (fun hHeld => ?_)
      · (try dsimp only); exact sq_of HSA.out
      clear hK K
      try simp only [Act.put, List.setIfInBounds_toArray, List.set_cons_zero, List.set_cons_succ]
      have HNW := Lib.hid (@news_row W8 ⟨7, z4, (p2 : Nat), 0, 0, 0, g + 1⟩)
      revert HSA hHeld HNW
      generalize World.alloc _ _ = W9
      intro HSA hHeld HNW
      refine wpAnyH_ready (rs := [7]) (by kernel_rfl) (by simp) ?_
      refine AllReadyH.cons (o := ?o7at10) ?hi7at10 (fun K hK => ?st7at10) AllReadyH.nil
      case hi7at10 => simp only [List.getElem?_toArray, List.getElem?_cons_succ, List.getElem?_cons_zero]; rfl
      (refine step_append_lies _ rfl _ _ 22 rfl w0.heap.size 40 i0 _ 10 80 Tryd.underlying22 hi hz0 hz1 hz2 rfl (by decide) _ _ _ rfl HSA.out.rw.own ⟨_, 0, none⟩ 1 1 (NC ⟨7, z4, (p2 : Nat), 0, 0, 0, g + 1⟩).toList rfl rfl HNW.out (one_row _) (by decide) (by have := HLEN.out; (try dsimp only at this ⊢); unfold maxLen; omega) (by have := HLEN.out; (try dsimp only at this ⊢); omega) HSA.out.rw.bel.size _ rfl ?_; intro gg gcap w4 hown hgrow hat hlt4)
      have HP0 := rw_push HSA.out.rw hown hgrow hat
      have HP := Lib.hid HP0
      clear HP0
      have hq8 := sq_grown HSA.out hgrow
      refine hK.out _ _ ?_ (fun hHeld => ?_)
      · (try dsimp only); exact hq8
      clear hK K hq8
      try simp only [Act.put, List.setIfInBounds_toArray, List.set_cons_zero, List.set_cons_succ]
      refine wpAnyH_take (i := 8) (oi := ?o8_qt10a) (v := ?v8_qt10a) ?hi8_qt10a (by kernel_rfl) (by kernel_rfl) (by kernel_rfl) (fun _ _ _ h => h) ?hy8_qt10a (by assumption) ?r8_qt10a
      case hi8_qt10a => simp only [List.getElem?_toArray, List.getElem?_cons_succ, List.getElem?_cons_zero]; rfl
      case hy8_qt10a => exact Or.inl ⟨by rfl, by (intro w hSw; (try dsimp only at hSw); (have hq := sq_cells hSw; obtain ⟨⟨q0, q1, q2, q3, q4, q5, q6, q7, q8, q9⟩, qp⟩ := hq); go_simp) <;> with_reducible rfl⟩
      try simp only [Act.put, List.setIfInBounds_toArray, List.set_cons_zero, List.set_cons_succ]
      refine wpAnyH_take (i := 9) (oi := ?o9_qt10a) (v := ?v9_qt10a) ?hi9_qt10a (by kernel_rfl) (by kernel_rfl) (by kernel_rfl) (fun _ _ _ h => h) ?hy9_qt10a (by assumption) ?r9_qt10a
      case hi9_qt10a => simp only [List.getElem?_toArray, List.getElem?_cons_succ, List.getElem?_cons_zero]; rfl
      case hy9_qt10a => exact Or.inl ⟨by rfl, by (intro w hSw; (try dsimp only at hSw); (have hq := sq_cells hSw; obtain ⟨⟨q0, q1, q2, q3, q4, q5, q6, q7, q8, q9⟩, qp⟩ := hq); go_simp) <;> with_reducible rfl⟩
      try simp only [Act.put, List.setIfInBounds_toArray, List.set_cons_zero, List.set_cons_succ]
      refine wpAnyH_ready (rs := [10]) (by kernel_rfl) (by simp) ?_
      refine AllReadyH.cons (o := ?o10at10) ?hi10at10 (fun K hK => ?st10at10) AllReadyH.nil
      case hi10at10 => simp only [List.getElem?_toArray, List.getElem?_cons_succ, List.getElem?_cons_zero]; rfl
      have hf4 := fz_grown HSA.out hgrow 1
      have hc4 := cell_grown HSA.out hgrow
      go_simp
      have HZ := Lib.hid (HSA.out.step HP.out.1 HP.out.2)
      refine hK.out _ _ ?_ (fun hHeld => ?_)
      · (try dsimp only); exact sq_of HZ.out
      clear hK K hf4 hc4
      try simp only [Act.put, List.setIfInBounds_toArray, List.set_cons_zero, List.set_cons_succ]
      refine wpAnyH_done (by kernel_rfl) ?_ _
      refine NoPanic.normal ?_
      clear hHeld hgrow hown hat hlt4 HP HSA HSD HNW
      revert HZ
      generalize World.setCell _ _ _ = W10
      intro HZ
      obtain ⟨⟨p0, p1⟩, _, _⟩ := HZ.out.facts
      obtain ⟨⟨y0, y1, y2, y3⟩, _, _, _, _⟩ := HZ.out.rw.cells
      (try dsimp only at y0 y1 y2 y3)
      have hw1 : IntKind.i64.wrap ((((l2).length + 1 : Nat) : Int) - 1) = (((l2).length : Nat) : Int) := by have := HLEN.out; rw [IntKind.wrap_i64]; omega
      have hlen9 := HLEN.out
      go_wp2
      go_ret
      refine ⟨_, ?_, ?_, HZ.out.kr⟩
      · rw [HO.out]; rfl
      · rw [HO.out]; exact HZ.out.rw
    case st6t10 =>
      go_simp
      have HSA := Lib.hid (HSD.out.below ((Below.refl _ _).alloc (Nat.le_refl _) (.cells (NC ⟨7, z4, (p2 : Nat), 0, 0, 0, g + 1⟩) 40)))
      refine hK.out _ _ ?_ (fun hHeld => ?_)
      · (try dsimp only); exact sq_of HSA.out
      clear hK K
      try simp only [Act.put, List.setIfInBounds_toArray, List.set_cons_zero, List.set_cons_succ]
      have HNW := Lib.hid (@news_row W8 ⟨7, z4, (p2 : Nat), 0, 0, 0, g + 1⟩)
      revert HSA hHeld HNW
      generalize World.alloc _ _ = W9
      intro HSA hHeld HNW
      have hPrev := hHeld
      refine wpAnyH_ready (rs := [4]) (by kernel_rfl) (by simp) ?_
      refine AllReadyH.cons (o := ?o4bt10) ?hi4bt10 (fun K hK => ?st4bt10) AllReadyH.nil
      case hi4bt10 => simp only [List.getElem?_toArray, List.getElem?_cons_succ, List.getElem?_cons_zero]; rfl
      have hcl := HSA.out.rw.cells.1.2.1
      (try dsimp only at hcl)
      go_simp
      refine hK.out _ _ ?_ (fun hHeld => ?_)
      · (try dsimp only); exact hPrev
      clear hK K hcl
      try simp only [Act.put, List.setIfInBounds_toArray, List.set_cons_zero, List.set_cons_succ]
      refine wpAnyH_ready (rs := [7]) (by kernel_rfl) (by simp) ?_
      refine AllReadyH.cons (o := ?o7bt10) ?hi7bt10 (fun K hK => ?st7bt10) AllReadyH.nil
      case hi7bt10 => simp only [List.getElem?_toArray, List.getElem?_cons_succ, List.getElem?_cons_zero]; rfl
      (refine step_append_lies _ rfl _ _ 22 rfl w0.heap.size 40 i0 _ 10 80 Tryd.underlying22 hi hz0 hz1 hz2 rfl (by decide) _ _ _ rfl HSA.out.rw.own ⟨_, 0, none⟩ 1 1 (NC ⟨7, z4, (p2 : Nat), 0, 0, 0, g + 1⟩).toList rfl rfl HNW.out (one_row _) (by decide) (by have := HLEN.out; (try dsimp only at this ⊢); unfold maxLen; omega) (by have := HLEN.out; (try dsimp only at this ⊢); omega) HSA.out.rw.bel.size _ rfl ?_; intro gg gcap w4 hown hgrow hat hlt4)
      have HP0 := rw_push HSA.out.rw hown hgrow hat
      have HP := Lib.hid HP0
      clear HP0
      have hq8 := sq_grown HSA.out hgrow
      refine hK.out _ _ ?_ (fun hHeld => ?_)
      · (try dsimp only); exact hq8
      clear hK K hq8
      try simp only [Act.put, List.setIfInBounds_toArray, List.set_cons_zero, List.set_cons_succ]
      refine wpAnyH_take (i := 8) (oi := ?o8_qt10b) (v := ?v8_qt10b) ?hi8_qt10b (by kernel_rfl) (by kernel_rfl) (by kernel_rfl) (fun _ _ _ h => h) ?hy8_qt10b (by assumption) ?r8_qt10b
      case hi8_qt10b => simp only [List.getElem?_toArray, List.getElem?_cons_succ, List.getElem?_cons_zero]; rfl
      case hy8_qt10b => exact Or.inl ⟨by rfl, by (intro w hSw; (try dsimp only at hSw); (have hq := sq_cells hSw; obtain ⟨⟨q0, q1, q2, q3, q4, q5, q6, q7, q8, q9⟩, qp⟩ := hq); go_simp) <;> with_reducible rfl⟩
      try simp only [Act.put, List.setIfInBounds_toArray, List.set_cons_zero, List.set_cons_succ]
      refine wpAnyH_take (i := 9) (oi := ?o9_qt10b) (v := ?v9_qt10b) ?hi9_qt10b (by kernel_rfl) (by kernel_rfl) (by kernel_rfl) (fun _ _ _ h => h) ?hy9_qt10b (by assumption) ?r9_qt10b
      case hi9_qt10b => simp only [List.getElem?_toArray, List.getElem?_cons_succ, List.getElem?_cons_zero]; rfl
      case hy9_qt10b => exact Or.inl ⟨by rfl, by (intro w hSw; (try dsimp only at hSw); (have hq := sq_cells hSw; obtain ⟨⟨q0, q1, q2, q3, q4, q5, q6, q7, q8, q9⟩, qp⟩ := hq); go_simp) <;> with_reducible rfl⟩
      try simp only [Act.put, List.setIfInBounds_toArray, List.set_cons_zero, List.set_cons_succ]
      refine wpAnyH_ready (rs := [10]) (by kernel_rfl) (by simp) ?_
      refine AllReadyH.cons (o := ?o10bt10) ?hi10bt10 (fun K hK => ?st10bt10) AllReadyH.nil
      case hi10bt10 => simp only [List.getElem?_toArray, List.getElem?_cons_succ, List.getElem?_cons_zero]; rfl
      have hf4 := fz_grown HSA.out hgrow 1
      have hc4 := cell_grown HSA.out hgrow
      go_simp
      have HZ := Lib.hid (HSA.out.step HP.out.1 HP.out.2)
      refine hK.out _ _ ?_ (fun hHeld => ?_)
      · (try dsimp only); exact sq_of HZ.out
      clear hK K hf4 hc4
      try simp only [Act.put, List.setIfInBounds_toArray, List.set_cons_zero, List.set_cons_succ]
      refine wpAnyH_done (by kernel_rfl) ?_ _
      refine NoPanic.normal ?_
      clear hHeld hgrow hown hat hlt4 HP HSA HSD HNW
      revert HZ
      generalize World.setCell _ _ _ = W10
      intro HZ
      obtain ⟨⟨p0, p1⟩, _, _⟩ := HZ.out.facts
      obtain ⟨⟨y0, y1, y2, y3⟩, _, _, _, _⟩ := HZ.out.rw.cells
      (try dsimp only at y0 y1 y2 y3)
      have hw1 : IntKind.i64.wrap ((((l2).length + 1 : Nat) : Int) - 1) = (((l2).length : Nat) : Int) := by have := HLEN.out; rw [IntKind.wrap_i64]; omega
      have hlen9 := HLEN.out
      go_wp2
      go_ret
      refine ⟨_, ?_, ?_, HZ.out.kr⟩
      · rw [HO.out]; rfl
      · rw [HO.out]; exact HZ.out.rw
  · skip
    refine at_world (p := fun W => ST w0 b w _ lf ⟨7, z4, (p2 : Nat), 0, 0, 0, g + 1⟩ _ _ W) HSa.out (fun W hW => ?_)
    have HSD := Lib.hid (hW.below (Below.refl _ _).drew)
    clear hW
    refine wp_region_noPanic ?_
    refine wp_region_held_drew (S := fun w' => SR w b ⟨7, z4, (p2 : Nat), 0, 0, 0, g + 1⟩ x w') (by kernel_rfl) ?_ (fun hHeld => ?_)
    · (try dsimp only); exact sr_of HSD.out
    revert HSD hHeld
    generalize World.drew _ = W8
    intro HSD hHeld
    refine wpAnyH_take (i := 0) (oi := ?o0r5) (v := ?v0r5) ?hi0r5 (by kernel_rfl) (by kernel_rfl) (by kernel_rfl) (fun _ _ _ h => h) ?hy0r5 (by assumption) ?r0r5
    case hi0r5 => simp only [List.getElem?_toArray, List.getElem?_cons_succ, List.getElem?_cons_zero]; rfl
    case hy0r5 => exact Or.inl ⟨by rfl, by (intro w hSw; (try dsimp only at hSw); (have hq := sq_cells hSw.1; have qr := hSw.2; obtain ⟨⟨q0, q1, q2, q3, q4, q5, q6, q7, q8, q9⟩, qp⟩ := hq); go_simp) <;> with_reducible rfl⟩
    try simp only [Act.put, List.setIfInBounds_toArray, List.set_cons_zero, List.set_cons_succ]
    refine wpAnyH_take (i := 1) (oi := ?o1r5) (v := ?v1r5) ?hi1r5 (by kernel_rfl) (by kernel_rfl) (by kernel_rfl) (fun _ _ _ h => h) ?hy1r5 (by assumption) ?r1r5
    case hi1r5 => simp only [List.getElem?_toArray, List.getElem?_cons_succ, List.getElem?_cons_zero]; rfl
    case hy1r5 => exact Or.inl ⟨by rfl, by (intro w hSw; (try dsimp only at hSw); (have hq := sq_cells hSw.1; have qr := hSw.2; obtain ⟨⟨q0, q1, q2, q3, q4, q5, q6, q7, q8, q9⟩, qp⟩ := hq); go_simp) <;> with_reducible rfl⟩
    try simp only [Act.put, List.setIfInBounds_toArray, List.set_cons_zero, List.set_cons_succ]
    refine wpAnyH_take (i := 2) (oi := ?o2r5) (v := ?v2r5) ?hi2r5 (by kernel_rfl) (by kernel_rfl) (by kernel_rfl) (fun _ _ _ h => h) ?hy2r5 (by assumption) ?r2r5
    case hi2r5 => simp only [List.getElem?_toArray, List.getElem?_cons_succ, List.getElem?_cons_zero]; rfl
    case hy2r5 => exact Or.inl ⟨by rfl, by (intro w hSw; (try dsimp only at hSw); (have hq := sq_cells hSw.1; have qr := hSw.2; obtain ⟨⟨q0, q1, q2, q3, q4, q5, q6, q7, q8, q9⟩, qp⟩ := hq); go_simp) <;> with_reducible rfl⟩
    try simp only [Act.put, List.setIfInBounds_toArray, List.set_cons_zero, List.set_cons_succ]
    refine wpAnyH_take (i := 3) (oi := ?o3r5) (v := ?v3r5) ?hi3r5 (by kernel_rfl) (by kernel_rfl) (by kernel_rfl) (fun _ _ _ h => h) ?hy3r5 (by assumption) ?r3r5
    case hi3r5 => simp only [List.getElem?_toArray, List.getElem?_cons_succ, List.getElem?_cons_zero]; rfl
    case hy3r5 => exact Or.inl ⟨by rfl, by (intro w hSw; (try dsimp only at hSw); (have hq := sq_cells hSw.1; have qr := hSw.2; obtain ⟨⟨q0, q1, q2, q3, q4, q5, q6, q7, q8, q9⟩, qp⟩ := hq); go_simp) <;> with_reducible rfl⟩
    try simp only [Act.put, List.setIfInBounds_toArray, List.set_cons_zero, List.set_cons_succ]
    refine wpAnyH_ready (rs := [4]) (by kernel_rfl) (by simp) ?_
    refine AllReadyH.cons (o := ?o4r5) ?hi4r5 (fun K hK => ?st4r5) AllReadyH.nil
    case hi4r5 => simp only [List.getElem?_toArray, List.getElem?_cons_succ, List.getElem?_cons_zero]; rfl
    have hPrev := hHeld
    have hcl := HSD.out.rw.cells.1
    (try dsimp only at hcl)
    obtain ⟨hcl0, hcl1, hcl2, hcl3⟩ := hcl
    go_simp
    refine hK.out _ _ ?_ (fun hHeld => ?_)
    · (try dsimp only); exact hPrev
    clear hK K hcl0 hcl1 hcl2 hcl3 hPrev
    try simp only [Act.put, List.setIfInBounds_toArray, List.set_cons_zero, List.set_cons_succ]
    refine wpAnyH_take (i := 5) (oi := ?o5r5) (v := ?v5r5) ?hi5r5 (by kernel_rfl) (by kernel_rfl) (by kernel_rfl) (fun _ _ _ h => h) ?hy5r5 (by assumption) ?r5r5
    case hi5r5 => simp only [List.getElem?_toArray, List.getElem?_cons_succ, List.getElem?_cons_zero]; rfl
    case hy5r5 => exact Or.inl ⟨by rfl, by (intro w hSw; (try dsimp only at hSw); (have hq := sq_cells hSw.1; have qr := hSw.2; obtain ⟨⟨q0, q1, q2, q3, q4, q5, q6, q7, q8, q9⟩, qp⟩ := hq); go_simp) <;> with_reducible rfl⟩
    try simp only [Act.put, List.setIfInBounds_toArray, List.set_cons_zero, List.set_cons_succ]
    refine wpAnyH_take (i := 6) (oi := ?o6r5) (v := undef) ?hi6r5 (by kernel_rfl) (by kernel_rfl) (by kernel_rfl) (fun _ _ _ h => h) ?hy6r5 (by assumption) ?r6r5
    case hi6r5 => simp only [List.getElem?_toArray, List.getElem?_cons_succ, List.getElem?_cons_zero]; rfl
    case hy6r5 => exact Or.inr ⟨by rfl, rfl⟩
    try simp only [Act.put, List.setIfInBounds_toArray, List.set_cons_zero, List.set_cons_succ]
    refine wpAnyH_take (i := 7) (oi := ?o7r5) (v := undef) ?hi7r5 (by kernel_rfl) (by kernel_rfl) (by kernel_rfl) (fun _ _ _ h => h) ?hy7r5 (by assumption) ?r7r5
    case hi7r5 => simp only [List.getElem?_toArray, List.getElem?_cons_succ, List.getElem?_cons_zero]; rfl
    case hy7r5 => exact Or.inr ⟨by rfl, rfl⟩
    try simp only [Act.put, List.setIfInBounds_toArray, List.set_cons_zero, List.set_cons_succ]
    refine wpAnyH_take (i := 8) (oi := ?o8r5) (v := undef) ?hi8r5 (by kernel_rfl) (by kernel_rfl) (by kernel_rfl) (fun _ _ _ h => h) ?hy8r5 (by assumption) ?r8r5
    case hi8r5 => simp only [List.getElem?_toArray, List.getElem?_cons_succ, List.getElem?_cons_zero]; rfl
    case hy8r5 => exact Or.inr ⟨by rfl, rfl⟩
    try simp only [Act.put, List.setIfInBounds_toArray, List.set_cons_zero, List.set_cons_succ]
    refine wpAnyH_take (i := 9) (oi := ?o9r5) (v := undef) ?hi9r5 (by kernel_rfl) (by kernel_rfl) (by kernel_rfl) (fun _ _ _ h => h) ?hy9r5 (by assumption) ?r9r5
    case hi9r5 => simp only [List.getElem?_toArray, List.getElem?_cons_succ, List.getElem?_cons_zero]; rfl
    case hy9r5 => exact Or.inr ⟨by rfl, rfl⟩
    try simp only [Act.put, List.setIfInBounds_toArray, List.set_cons_zero, List.set_cons_succ]
    refine wpAnyH_take (i := 10) (oi := ?o10r5) (v := undef) ?hi10r5 (by kernel_rfl) (by kernel_rfl) (by kernel_rfl) (fun _ _ _ h => h) ?hy10r5 (by assumption) ?r10r5
    case hi10r5 => simp only [List.getElem?_toArray, List.getElem?_cons_succ, List.getElem?_cons_zero]; rfl
    case hy10r5 => exact Or.inr ⟨by rfl, rfl⟩
    try simp only [Act.put, List.setIfInBounds_toArray, List.set_cons_zero, List.set_cons_succ]
    refine wpAnyH_take (i := 11) (oi := ?o11r5) (v := undef) ?hi11r5 (by kernel_rfl) (by kernel_rfl) (by kernel_rfl) (fun _ _ _ h => h) ?hy11r5 (by assumption) ?r11r5
    case hi11r5 => simp only [List.getElem?_toArray, List.getElem?_cons_succ, List.getElem?_cons_zero]; rfl
    case hy11r5 => exact Or.inr ⟨by rfl, rfl⟩
    try simp only [Act.put, List.setIfInBounds_toArray, List.set_cons_zero, List.set_cons_succ]
    refine wpAnyH_take (i := 12) (oi := ?o12r5) (v := ?v12r5) ?hi12r5 (by kernel_rfl) (by kernel_rfl) (by kernel_rfl) (fun _ _ _ h => h) ?hy12r5 (by assumption) ?r12r5
    case hi12r5 => simp only [List.getElem?_toArray, List.getElem?_cons_succ, List.getElem?_cons_zero]; rfl
    case hy12r5 => exact Or.inl ⟨by rfl, by (intro w hSw; (try dsimp only at hSw); (have hq := sq_cells hSw.1; have qr := hSw.2; obtain ⟨⟨q0, q1, q2, q3, q4, q5, q6, q7, q8, q9⟩, qp⟩ := hq); go_simp) <;> with_reducible rfl⟩
    try simp only [Act.put, List.setIfInBounds_toArray, List.set_cons_zero, List.set_cons_succ]
    refine wpAnyH_take (i := 13) (oi := ?o13r5) (v := ?v13r5) ?hi13r5 (by kernel_rfl) (by kernel_rfl) (by kernel_rfl) (fun _ _ _ h => h) ?hy13r5 (by assumption) ?r13r5
    case hi13r5 => simp only [List.getElem?_toArray, List.getElem?_cons_succ, List.getElem?_cons_zero]; rfl
    case hy13r5 => exact Or.inl ⟨by rfl, by (intro w hSw; (try dsimp only at hSw); (have hq := sq_cells hSw.1; have qr := hSw.2; obtain ⟨⟨q0, q1, q2, q3, q4, q5, q6, q7, q8, q9⟩, qp⟩ := hq); go_simp) <;> with_reducible rfl⟩
    try simp only [Act.put, List.setIfInBounds_toArray, List.set_cons_zero, List.set_cons_succ]
    refine wpAnyH_take (i := 14) (oi := ?o14r5) (v := ?v14r5) ?hi14r5 (by kernel_rfl) (by kernel_rfl) (by kernel_rfl) (fun _ _ _ h => h) ?hy14r5 (by assumption) ?r14r5
    case hi14r5 => simp only [List.getElem?_toArray, List.getElem?_cons_succ, List.getElem?_cons_zero]; rfl
    case hy14r5 => exact Or.inl ⟨by rfl, by (intro w hSw; (try dsimp only at hSw); (have hq := sq_cells hSw.1; have qr := hSw.2; obtain ⟨⟨q0, q1, q2, q3, q4, q5, q6, q7, q8, q9⟩, qp⟩ := hq); go_simp) <;> with_reducible rfl⟩
    try simp only [Act.put, List.setIfInBounds_toArray, List.set_cons_zero, List.set_cons_succ]
    refine wpAnyH_ready (rs := [15]) (by kernel_rfl) (by simp) ?_
    refine AllReadyH.cons (o := ?o15r5) ?hi15r5 (fun K hK => ?st15r5) AllReadyH.nil
    case hi15r5 => simp only [List.getElem?_toArray, List.getElem?_cons_succ, List.getElem?_cons_zero]; rfl
    have hcl := HSD.out.rw.cells
    (try dsimp only at hcl)
    obtain ⟨⟨hcl0, hcl1, hcl2, hcl3⟩, hfl0, hfl1, hfl2, hfl3⟩ := hcl
    go_simp
    have HSb := Lib.hid (HSD.out.setBad true)
    refine hK.out _ _ ?_ (fun hHeld => ?_)
    · (try dsimp only); exact sr_of HSb.out
    clear hK K hcl0 hcl1 hcl2 hcl3 hfl0 hfl1 hfl2 hfl3
    try simp only [Act.put, List.setIfInBounds_toArray, List.set_cons_zero, List.set_cons_succ]
    refine wpAnyH_done (by kernel_rfl) ?_ _
    refine NoPanic.normal ?_
    clear hHeld HSD
    go_wp2
    refine at_world (p := fun W => ST w0 b w _ lf ⟨7, z4, (p2 : Nat), 0, 0, 0, g + 1⟩ _ _ W) HSb.out (fun W hW => ?_)
    have HSD := Lib.hid (hW.below (Below.refl _ _).drew)
    clear hW
    refine wp_region_noPanic ?_
    refine wp_region_held_drew (S := fun w' => SQ w b ⟨7, z4, (p2 : Nat), 0, 0, 0, g + 1⟩ w') (by kernel_rfl) ?_ (fun hHeld => ?_)
    · (try dsimp only); exact sq_of HSD.out
    revert HSD hHeld
    generalize World.drew _ = W8
    intro HSD hHeld
    refine wpAnyH_take (i := 0) (oi := ?o0r6) (v := ?v0r6) ?hi0r6 (by kernel_rfl) (by kernel_rfl) (by kernel_rfl) (fun _ _ _ h => h) ?hy0r6 (by assumption) ?r0r6
    case hi0r6 => simp only [List.getElem?_toArray, List.getElem?_cons_succ, List.getElem?_cons_zero]; rfl
    case hy0r6 => exact Or.inl ⟨by rfl, by (intro w hSw; (try dsimp only at hSw); (have hq := sq_cells hSw; obtain ⟨⟨q0, q1, q2, q3, q4, q5, q6, q7, q8, q9⟩, qp⟩ := hq); go_simp) <;> with_reducible rfl⟩
    try simp only [Act.put, List.setIfInBounds_toArray, List.set_cons_zero, List.set_cons_succ]
    refine wpAnyH_take (i := 1) (oi := ?o1r6) (v := ?v1r6) ?hi1r6 (by kernel_rfl) (by kernel_rfl) (by kernel_rfl) (fun _ _ _ h => h) ?hy1r6 (by assumption) ?r1r6
    case hi1r6 => simp only [List.getElem?_toArray, List.getElem?_cons_succ, List.getElem?_cons_zero]; rfl
    case hy1r6 => exact Or.inl ⟨by rfl, by (intro w hSw; (try dsimp only at hSw); (have hq := sq_cells hSw; obtain ⟨⟨q0, q1, q2, q3, q4, q5, q6, q7, q8, q9⟩, qp⟩ := hq); go_simp) <;> with_reducible rfl⟩
    try simp only [Act.put, List.setIfInBounds_toArray, List.set_cons_zero, List.set_cons_succ]
    refine wpAnyH_take (i := 2) (oi := ?o2r6) (v := ?v2r6) ?hi2r6 (by kernel_rfl) (by kernel_rfl) (by kernel_rfl) (fun _ _ _ h => h) ?hy2r6 (by assumption) ?r2r6
    case hi2r6 => simp only [List.getElem?_toArray, List.getElem?_cons_succ, List.getElem?_cons_zero]; rfl
    case hy2r6 => exact Or.inl ⟨by rfl, by (intro w hSw; (try dsimp only at hSw); (have hq := sq_cells hSw; obtain ⟨⟨q0, q1, q2, q3, q4, q5, q6, q7, q8, q9⟩, qp⟩ := hq); go_simp) <;> with_reducible rfl⟩
    try simp only [Act.put, List.setIfInBounds_toArray, List.set_cons_zero, List.set_cons_succ]
    refine wpAnyH_take (i := 3) (oi := ?o3r6) (v := ?v3r6) ?hi3r6 (by kernel_rfl) (by kernel_rfl) (by kernel_rfl) (fun _ _ _ h => h) ?hy3r6 (by assumption) ?r3r6
    case hi3r6 => simp only [List.getElem?_toArray, List.getElem?_cons_succ, List.getElem?_cons_zero]; rfl
    case hy3r6 => exact Or.inl ⟨by rfl, by (intro w hSw; (try dsimp only at hSw); (have hq := sq_cells hSw; obtain ⟨⟨q0, q1, q2, q3, q4, q5, q6, q7, q8, q9⟩, qp⟩ := hq); go_simp) <;> with_reducible rfl⟩
    try simp only [Act.put, List.setIfInBounds_toArray, List.set_cons_zero, List.set_cons_succ]
    refine wpAnyH_ready (rs := [4]) (by kernel_rfl) (by simp) ?_
    refine AllReadyH.cons (o := ?o4r6) ?hi4r6 (fun K hK => ?st4r6) AllReadyH.nil
    case hi4r6 => simp only [List.getElem?_toArray, List.getElem?_cons_succ, List.getElem?_cons_zero]; rfl
    have hPrev := hHeld
    have hcl := HSD.out.rw.cells.1
    (try dsimp only at hcl)
    obtain ⟨hcl0, hcl1, hcl2, hcl3⟩ := hcl
    go_simp
    refine hK.out _ _ ?_ (fun hHeld => ?_)
    · (try dsimp only); exact hPrev
    clear hK K hcl0 hcl1 hcl2 hcl3 hPrev
    try simp only [Act.put, List.setIfInBounds_toArray, List.set_cons_zero, List.set_cons_succ]
    refine wpAnyH_ready (rs := [5]) (by kernel_rfl) (by simp) ?_
    refine AllReadyH.cons (o := ?o5r6) ?hi5r6 (fun K hK => ?st5r6) AllReadyH.nil
    case hi5r6 => simp only [List.getElem?_toArray, List.getElem?_cons_succ, List.getElem?_cons_zero]; rfl
    go_simp
    (go_at_call 38; refine (HTP.out _).mono ?_; rintro e w9 ⟨rfl, rfl⟩)
    refine hK.out _ _ ?_ (fun hHeld => ?_)
    · (try dsimp only); (exact hHeld)
    clear hK K
    try simp only [Act.put, List.setIfInBounds_toArray, List.set_cons_zero, List.set_cons_succ]
    refine wpAnyH_take (i := 6) (oi := ?o6r6) (v := ?v6r6) ?hi6r6 (by kernel_rfl) (by kernel_rfl) (by kernel_rfl) (fun _ _ _ h => h) ?hy6r6 (by assumption) ?r6r6
    case hi6r6 => simp only [List.getElem?_toArray, List.getElem?_cons_succ, List.getElem?_cons_zero]; rfl
    case hy6r6 => exact Or.inl ⟨by rfl, by (intro w hSw; (try dsimp only at hSw); (have hq := sq_cells hSw; obtain ⟨⟨q0, q1, q2, q3, q4, q5, q6, q7, q8, q9⟩, qp⟩ := hq); go_simp) <;> with_reducible rfl⟩
    try simp only [Act.put, List.setIfInBounds_toArray, List.set_cons_zero, List.set_cons_succ]
    refine wpAnyH_take (i := 7) (oi := ?o7r6) (v := ?v7r6) ?hi7r6 (by kernel_rfl) (by kernel_rfl) (by kernel_rfl) (fun _ _ _ h => h) ?hy7r6 (by assumption) ?r7r6
    case hi7r6 => simp only [List.getElem?_toArray, List.getElem?_cons_succ, List.getElem?_cons_zero]; rfl
    case hy7r6 => exact Or.inl ⟨by rfl, by (intro w hSw; (try dsimp only at hSw); (have hq := sq_cells hSw; obtain ⟨⟨q0, q1, q2, q3, q4, q5, q6, q7, q8, q9⟩, qp⟩ := hq); go_simp) <;> with_reducible rfl⟩
    try simp only [Act.put, List.setIfInBounds_toArray, List.set_cons_zero, List.set_cons_succ]
    refine wpAnyH_ready (rs := [8]) (by kernel_rfl) (by simp) ?_
    refine AllReadyH.cons (o := ?o8r6) ?hi8r6 (fun K hK => ?st8r6) AllReadyH.nil
    case hi8r6 => simp only [List.getElem?_toArray, List.getElem?_cons_succ, List.getElem?_cons_zero]; rfl
    have hcl := HSD.out.rw.cells
    (try dsimp only at hcl)
    obtain ⟨⟨hcl0, hcl1, hcl2, hcl3⟩, hfl0, hfl1, hfl2, hfl3⟩ := hcl
    go_simp
    have HSc := Lib.hid (HSD.out.setRest y)
    refine hK.out _ _ ?_ (fun hHeld => ?_)
    · (try dsimp only); exact sq_of HSc.out
    clear hK K hcl0 hcl1 hcl2 hcl3 hfl0 hfl1 hfl2 hfl3
    try simp only [Act.put, List.setIfInBounds_toArray, List.set_cons_zero, List.set_cons_succ]
    refine wpAnyH_done (by kernel_rfl) ?_ _
    refine NoPanic.normal ?_
    clear hHeld HSD
    go_wp2
    refine at_world (p := fun W => ST w0 b w _ lf ⟨7, z4, (p2 : Nat), 0, 0, 0, g + 1⟩ _ _ W) HSc.out (fun W hW => ?_)
    have HSD := Lib.hid (hW.below (Below.refl _ _).drew)
    clear hW
    refine wp_region_noPanic ?_
    refine wp_region_held_drew (S := fun w' => SQ w b ⟨7, z4, (p2 : Nat), 0, 0, 0, g + 1⟩ w') (by kernel_rfl) ?_ (fun hHeld => ?_)
    · (try dsimp only); exact sq_of HSD.out
    revert HSD hHeld
    generalize World.drew _ = W8
    intro HSD hHeld
    refine wpAnyH_take (i := 0) (oi := ?o0_pt11) (v := ?v0_pt11) ?hi0_pt11 (by kernel_rfl) (by kernel_rfl) (by kernel_rfl) (fun _ _ _ h => h) ?hy0_pt11 (by assumption) ?r0_pt11
    case hi0_pt11 => simp only [List.getElem?_toArray, List.getElem?_cons_succ, List.getElem?_cons_zero]; rfl
    case hy0_pt11 => exact Or.inl ⟨by rfl, by (intro w hSw; (try dsimp only at hSw); (have hq := sq_cells hSw; obtain ⟨⟨q0, q1, q2, q3, q4, q5, q6, q7, q8, q9⟩, qp⟩ := hq); go_simp) <;> with_reducible rfl⟩
    try simp only [Act.put, List.setIfInBounds_toArray, List.set_cons_zero, List.set_cons_succ]
    refine wpAnyH_take (i := 1) (oi := ?o1_pt11) (v := ?v1_pt11) ?hi1_pt11 (by kernel_rfl) (by kernel_rfl) (by kernel_rfl) (fun _ _ _ h => h) ?hy1_pt11 (by assumption) ?r1_pt11
    case hi1_pt11 => simp only [List.getElem?_toArray, List.getElem?_cons_succ, List.getElem?_cons_zero]; rfl
    case hy1_pt11 => exact Or.inl ⟨by rfl, by (intro w hSw; (try dsimp only at hSw); (have hq := sq_cells hSw; obtain ⟨⟨q0, q1, q2, q3, q4, q5, q6, q7, q8, q9⟩, qp⟩ := hq); go_simp) <;> with_reducible rfl⟩
    try simp only [Act.put, List.setIfInBounds_toArray, List.set_cons_zero, List.set_cons_succ]
    refine wpAnyH_take (i := 2) (oi := ?o2_pt11) (v := ?v2_pt11) ?hi2_pt11 (by kernel_rfl) (by kernel_rfl) (by kernel_rfl) (fun _ _ _ h => h) ?hy2_pt11 (by assumption) ?r2_pt11
    case hi2_pt11 => simp only [List.getElem?_toArray, List.getElem?_cons_succ, List.getElem?_cons_zero]; rfl
    case hy2_pt11 => exact Or.inl ⟨by rfl, by (intro w hSw; (try dsimp only at hSw); (have hq := sq_cells hSw; obtain ⟨⟨q0, q1, q2, q3, q4, q5, q6, q7, q8, q9⟩, qp⟩ := hq); go_simp) <;> with_reducible rfl⟩
    try simp only [Act.put, List.setIfInBounds_toArray, List.set_cons_zero, List.set_cons_succ]
    refine wpAnyH_take (i := 3) (oi := ?o3_pt11) (v := ?v3_pt11) ?hi3_pt11 (by kernel_rfl) (by kernel_rfl) (by kernel_rfl) (fun _ _ _ h => h) ?hy3_pt11 (by assumption) ?r3_pt11
    case hi3_pt11 => simp only [List.getElem?_toArray, List.getElem?_cons_succ, List.getElem?_cons_zero]; rfl
    case hy3_pt11 => exact Or.inl ⟨by rfl, by (intro w hSw; (try dsimp only at hSw); (have hq := sq_cells hSw; obtain ⟨⟨q0, q1, q2, q3, q4, q5, q6, q7, q8, q9⟩, qp⟩ := hq); go_simp) <;> with_reducible rfl⟩
    try simp only [Act.put, List.setIfInBounds_toArray, List.set_cons_zero, List.set_cons_succ]
    refine wpAnyH_take (i := 5) (oi := ?o5_pt11) (v := ?v5_pt11) ?hi5_pt11 (by kernel_rfl) (by kernel_rfl) (by kernel_rfl) (fun _ _ _ h => h) ?hy5_pt11 (by assumption) ?r5_pt11
    case hi5_pt11 => simp only [List.getElem?_toArray, List.getElem?_cons_succ, List.getElem?_cons_zero]; rfl
    case hy5_pt11 => exact Or.inl ⟨by rfl, by (intro w hSw; (try dsimp only at hSw); (have hq := sq_cells hSw; obtain ⟨⟨q0, q1, q2, q3, q4, q5, q6, q7, q8, q9⟩, qp⟩ := hq); go_simp) <;> with_reducible rfl⟩
    try simp only [Act.put, List.setIfInBounds_toArray, List.set_cons_zero, List.set_cons_succ]
    refine wpAnyH_ready (rs := [4, 6]) (by kernel_rfl) (by simp) ?_
    refine AllReadyH.cons (o := ?o4t11) ?hi4t11 (fun K hK => ?st4t11) (AllReadyH.cons (o := ?o6t11) ?hi6t11 (fun K hK => ?st6t11) AllReadyH.nil)
    case hi4t11 => simp only [List.getElem?_toArray, List.getElem?_cons_succ, List.getElem?_cons_zero]; rfl
    case hi6t11 => simp only [List.getElem?_toArray, List.getElem?_cons_succ, List.getElem?_cons_zero]; rfl
    case st4t11 =>
      have hPrev := hHeld
      have hcl := HSD.out.rw.cells.1.2.1
      (try dsimp only at hcl)
      go_simp
      refine hK.out _ _ ?_ (fun hHeld => ?_)
      · (try dsimp only); exact hPrev
      clear hK K hcl
      try simp only [Act.put, List.setIfInBounds_toArray, List.set_cons_zero, List.set_cons_succ]
      refine wpAnyH_ready (rs := [6]) (by kernel_rfl) (by simp) ?_
      refine AllReadyH.cons (o := ?o6at11) ?hi6at11 (fun K hK => ?st6at11) AllReadyH.nil
      case hi6at11 => simp only [List.getElem?_toArray, List.getElem?_cons_succ, List.getElem?_cons_zero]; rfl
      go_simp
      have HSA := Lib.hid (HSD.out.below ((Below.refl _ _).alloc (Nat.le_refl _) (.cells (NC ⟨7, z4, (p2 : Nat), 0, 0, 0, g + 1⟩) 40)))
      refine hK.out _ _ ?_ (fun hHeld => ?_)
      · (try dsimp only); exact sq_of HSA.out
      clear hK K
      try simp only [Act.put, List.setIfInBounds_toArray, List.set_cons_zero, List.set_cons_succ]
      have HNW := Lib.hid (@news_row W8 ⟨7, z4, (p2 : Nat), 0, 0, 0, g + 1⟩)
      revert HSA hHeld HNW
      generalize World.alloc _ _ = W9
      intro HSA hHeld HNW
      refine wpAnyH_ready (rs := [7]) (by kernel_rfl) (by simp) ?_
      refine AllReadyH.cons (o := ?o7at11) ?hi7at11 (fun K hK => ?st7at11) AllReadyH.nil
      case hi7at11 => simp only [List.getElem?_toArray, List.getElem?_cons_succ, List.getElem?_cons_zero]; rfl
      (refine step_append_lies _ rfl _ _ 22 rfl w0.heap.size 40 i0 _ 10 80 Tryd.underlying22 hi hz0 hz1 hz2 rfl (by decide) _ _ _ rfl HSA.out.rw.own ⟨_, 0, none⟩ 1 1 (NC ⟨7, z4, (p2 : Nat), 0, 0, 0, g + 1⟩).toList rfl rfl HNW.out (one_row _) (by decide) (by have := HLEN.out; (try dsimp only at this ⊢); unfold maxLen; omega) (by have := HLEN.out; (try dsimp only at this ⊢); omega) HSA.out.rw.bel.size _ rfl ?_; intro gg gcap w4 hown hgrow hat hlt4)
      have HP0 := rw_push HSA.out.rw hown hgrow hat
      have HP := Lib.hid HP0
      clear HP0
      have hq8 := sq_grown HSA.out hgrow
      refine hK.out _ _ ?_ (fun hHeld => ?_)
      · (try dsimp only); exact hq8
      clear hK K hq8
      try simp only [Act.put, List.setIfInBounds_toArray, List.set_cons_zero, List.set_cons_succ]
      refine wpAnyH_take (i := 8) (oi := ?o8_qt11a) (v := ?v8_qt11a) ?hi8_qt11a (by kernel_rfl) (by kernel_rfl) (by kernel_rfl) (fun _ _ _ h => h) ?hy8_qt11a (by assumption) ?r8_qt11a
      case hi8_qt11a => simp only [List.getElem?_toArray, List.getElem?_cons_succ, List.getElem?_cons_zero]; rfl
      case hy8_qt11a => exact Or.inl ⟨by rfl, by (intro w hSw; (try dsimp only at hSw); (have hq := sq_cells hSw; obtain ⟨⟨q0, q1, q2, q3, q4, q5, q6, q7, q8, q9⟩, qp⟩ := hq); go_simp) <;> with_reducible rfl⟩
      try simp only [Act.put, List.setIfInBounds_toArray, List.set_cons_zero, List.set_cons_succ]
      refine wpAnyH_take (i := 9) (oi := ?o9_qt11a) (v := ?v9_qt11a) ?hi9_qt11a (by kernel_rfl) (by kernel_rfl) (by kernel_rfl) (fun _ _ _ h => h) ?hy9_qt11a (by assumption) ?r9_qt11a
      case hi9_qt11a => simp only [List.getElem?_toArray, List.getElem?_cons_succ, List.getElem?_cons_zero]; rfl
      case hy9_qt11a => exact Or.inl ⟨by rfl, by (intro w hSw; (try dsimp only at hSw); (have hq := sq_cells hSw; obtain ⟨⟨q0, q1, q2, q3, q4, q5, q6, q7, q8, q9⟩, qp⟩ := hq); go_simp) <;> with_reducible rfl⟩
      try simp only [Act.put, List.setIfInBounds_toArray, List.set_cons_zero, List.set_cons_succ]
      refine wpAnyH_ready (rs := [10]) (by kernel_rfl) (by simp) ?_
      refine AllReadyH.cons (o := ?o10at11) ?hi10at11 (fun K hK => ?st10at11) AllReadyH.nil
      case hi10at11 => simp only [List.getElem?_toArray, List.getElem?_cons_succ, List.getElem?_cons_zero]; rfl
      have hf4 := fz_grown HSA.out hgrow 1
      have hc4 := cell_grown HSA.out hgrow
      go_simp
      have HZ := Lib.hid (HSA.out.step HP.out.1 HP.out.2)
      refine hK.out _ _ ?_ (fun hHeld => ?_)
      · (try dsimp only); exact sq_of HZ.out
      clear hK K hf4 hc4
      try simp only [Act.put, List.setIfInBounds_toArray, List.set_cons_zero, List.set_cons_succ]
      refine wpAnyH_done (by kernel_rfl) ?_ _
      refine NoPanic.normal ?_
      clear hHeld hgrow hown hat hlt4 HP HSA HSD HNW
      revert HZ
      generalize World.setCell _ _ _ = W10
      intro HZ
      obtain ⟨⟨p0, p1⟩, _, _⟩ := HZ.out.facts
      obtain ⟨⟨y0, y1, y2, y3⟩, _, _, _, _⟩ := HZ.out.rw.cells
      (try dsimp only at y0 y1 y2 y3)
      have hw1 : IntKind.i64.wrap ((((l2).length + 1 : Nat) : Int) - 1) = (((l2).length : Nat) : Int) := by have := HLEN.out; rw [IntKind.wrap_i64]; omega
      have hlen9 := HLEN.out
      go_wp2
      go_ret
      refine ⟨_, ?_, ?_, HZ.out.kr⟩
      · rw [HO.out]; rfl
      · rw [HO.out]; exact HZ.out.rw
    case st6t11 =>
      go_simp
      have HSA := Lib.hid (HSD.out.below ((Below.refl _ _).alloc (Nat.le_refl _) (.cells (NC ⟨7, z4, (p2 : Nat), 0, 0, 0, g + 1⟩) 40)))
      refine hK.out _ _ ?_ (fun hHeld => ?_)
      · (try dsimp only); exact sq_of HSA.out
      clear hK K
      try simp only [Act.put, List.setIfInBounds_toArray, List.set_cons_zero, List.set_cons_succ]
      have HNW := Lib.hid (@news_row W8 ⟨7, z4, (p2 : Nat), 0, 0, 0, g + 1⟩)
      revert HSA hHeld HNW
      generalize World.alloc _ _ = W9
      intro HSA hHeld HNW
      have hPrev := hHeld
      refine wpAnyH_ready (rs := [4]) (by kernel_rfl) (by simp) ?_
      refine AllReadyH.cons (o := ?o4bt11) ?hi4bt11 (fun K hK => ?st4bt11) AllReadyH.nil
      case hi4bt11 => simp only [List.getElem?_toArray, List.getElem?_cons_succ, List.getElem?_cons_zero]; rfl
      have hcl := HSA.out.rw.cells.1.2.1
      (try dsimp only at hcl)
      go_simp
      refine hK.out _ _ ?_ (fun hHeld => ?_)
      · (try dsimp only); exact hPrev
      clear hK K hcl
      try simp only [Act.put, List.setIfInBounds_toArray, List.set_cons_zero, List.set_cons_succ]
      refine wpAnyH_ready (rs := [7]) (by kernel_rfl) (by simp) ?_
      refine AllReadyH.cons (o := ?o7bt11) ?hi7bt11 (fun K hK => ?st7bt11) AllReadyH.nil
      case hi7bt11 => simp only [List.getElem?_toArray, List.getElem?_cons_succ, List.getElem?_cons_zero]; rfl
      (refine step_append_lies _ rfl _ _ 22 rfl w0.heap.size 40 i0 _ 10 80 Tryd.underlying22 hi hz0 hz1 hz2 rfl (by decide) _ _ _ rfl HSA.out.rw.own ⟨_, 0, none⟩ 1 1 (NC ⟨7, z4, (p2 : Nat), 0, 0, 0, g + 1⟩).toList rfl rfl HNW.out (one_row _) (by decide) (by have := HLEN.out; (try dsimp only at this ⊢); unfold maxLen; omega) (by have := HLEN.out; (try dsimp only at this ⊢); omega) HSA.out.rw.bel.size _ rfl ?_; intro gg gcap w4 hown hgrow hat hlt4)
      have HP0 := rw_push HSA.out.rw hown hgrow hat
      have HP := Lib.hid HP0
      clear HP0
      have hq8 := sq_grown HSA.out hgrow
      refine hK.out _ _ ?_ (fun hHeld => ?_)
      · (try dsimp only); exact hq8
      clear hK K hq8
      try simp only [Act.put, List.setIfInBounds_toArray, List.set_cons_zero, List.set_cons_succ]
      refine wpAnyH_take (i := 8) (oi := ?o8_qt11b) (v := ?v8_qt11b) ?hi8_qt11b (by kernel_rfl) (by kernel_rfl) (by kernel_rfl) (fun _ _ _ h => h) ?hy8_qt11b (by assumption) ?r8_qt11b
      case hi8_qt11b => simp only [List.getElem?_toArray, List.getElem?_cons_succ, List.getElem?_cons_zero]; rfl
      case hy8_qt11b => exact Or.inl ⟨by rfl, by (intro w hSw; (try dsimp only at hSw); (have hq := sq_cells hSw; obtain ⟨⟨q0, q1, q2, q3, q4, q5, q6, q7, q8, q9⟩, qp⟩ := hq); go_simp) <;> with_reducible rfl⟩
      try simp only [Act.put, List.setIfInBounds_toArray, List.set_cons_zero, List.set_cons_succ]
      refine wpAnyH_take (i := 9) (oi := ?o9_qt11b) (v := ?v9_qt11b) ?hi9_qt11b (by kernel_rfl) (by kernel_rfl) (by kernel_rfl) (fun _ _ _ h => h) ?hy9_qt11b (by assumption) ?r9_qt11b
      case hi9_qt11b => simp only [List.getElem?_toArray, List.getElem?_cons_succ, List.getElem?_cons_zero]; rfl
      case hy9_qt11b => exact Or.inl ⟨by rfl, by (intro w hSw; (try dsimp only at hSw); (have hq := sq_cells hSw; obtain ⟨⟨q0, q1, q2, q3, q4, q5, q6, q7, q8, q9⟩, qp⟩ := hq); go_simp) <;> with_reducible rfl⟩
      try simp only [Act.put, List.setIfInBounds_toArray, List.set_cons_zero, List.set_cons_succ]
      refine wpAnyH_ready (rs := [10]) (by kernel_rfl) (by simp) ?_
      refine AllReadyH.cons (o := ?o10bt11) ?hi10bt11 (fun K hK => ?st10bt11) AllReadyH.nil
      case hi10bt11 => simp only [List.getElem?_toArray, List.getElem?_cons_succ, List.getElem?_cons_zero]; rfl
      have hf4 := fz_grown HSA.out hgrow 1
      have hc4 := cell_grown HSA.out hgrow
      go_simp
      have HZ := Lib.hid (HSA.out.step HP.out.1 HP.out.2)
      refine hK.out _ _ ?_ (fun hHeld => ?_)
      · (try dsimp only); exact sq_of HZ.out
      clear hK K hf4 hc4
      try simp only [Act.put, List.setIfInBounds_toArray, List.set_cons_zero, List.set_cons_succ]
      refine wpAnyH_done (by kernel_rfl) ?_ _
      refine NoPanic.normal ?_
      clear hHeld hgrow hown hat hlt4 HP HSA HSD HNW
      revert HZ
      generalize World.setCell _ _ _ = W10
      intro HZ
      obtain ⟨⟨p0, p1⟩, _, _⟩ := HZ.out.facts
      obtain ⟨⟨y0, y1, y2, y3⟩, _, _, _, _⟩ := HZ.out.rw.cells
      (try dsimp only at y0 y1 y2 y3)
      have hw1 : IntKind.i64.wrap ((((l2).length + 1 : Nat) : Int) - 1) = (((l2).length : Nat) : Int) := by have := HLEN.out; rw [IntKind.wrap_i64]; omega
      have hlen9 := HLEN.out
      go_wp2
      go_ret
      refine ⟨_, ?_, ?_, HZ.out.kr⟩
      · rw [HO.out]; rfl
      · rw [HO.out]; exact HZ.out.rw
  · skip
    refine at_world (p := fun W => ST w0 b w _ lf ⟨7, z4, (p2 : Nat), 0, 0, 0, g + 1⟩ _ _ W) HSa.out (fun W hW => ?_)
    have HSD := Lib.hid (hW.below (Below.refl _ _).drew)
    clear hW
    refine wp_region_noPanic ?_
    refine wp_region_held_drew (S := fun w' => SR w b ⟨7, z4, (p2 : Nat), 0, 0, 0, g + 1⟩ x w') (by kernel_rfl) ?_ (fun hHeld => ?_)
    · (try dsimp only); exact sr_of HSD.out
    revert HSD hHeld
    generalize World.drew _ = W8
    intro HSD hHeld
    refine wpAnyH_take (i := 0) (oi := ?o0r7) (v := ?v0r7) ?hi0r7 (by kernel_rfl) (by kernel_rfl) (by kernel_rfl) (fun _ _ _ h => h) ?hy0r7 (by assumption) ?r0r7
    case hi0r7 => simp only [List.getElem?_toArray, List.getElem?_cons_succ, List.getElem?_cons_zero]; rfl
    case hy0r7 => exact Or.inl ⟨by rfl, by (intro w hSw; (try dsimp only at hSw); (have hq := sq_cells hSw.1; have qr := hSw.2; obtain ⟨⟨q0, q1, q2, q3, q4, q5, q6, q7, q8, q9⟩, qp⟩ := hq); go_simp) <;> with_reducible rfl⟩
    try simp only [Act.put, List.setIfInBounds_toArray, List.set_cons_zero, List.set_cons_succ]
    refine wpAnyH_take (i := 1) (oi := ?o1r7) (v := ?v1r7) ?hi1r7 (by kernel_rfl) (by kernel_rfl) (by kernel_rfl) (fun _ _ _ h => h) ?hy1r7 (by assumption) ?r1r7
    case hi1r7 => simp only [List.getElem?_toArray, List.getElem?_cons_succ, List.getElem?_cons_zero]; rfl
    case hy1r7 => exact Or.inl ⟨by rfl, by (intro w hSw; (try dsimp only at hSw); (have hq := sq_cells hSw.1; have qr := hSw.2; obtain ⟨⟨q0, q1, q2, q3, q4, q5, q6, q7, q8, q9⟩, qp⟩ := hq); go_simp) <;> with_reducible rfl⟩
    try simp only [Act.put, List.setIfInBounds_toArray, List.set_cons_zero, List.set_cons_succ]
    refine wpAnyH_take (i := 2) (oi := ?o2r7) (v := ?v2r7) ?hi2r7 (by kernel_rfl) (by kernel_rfl) (by kernel_rfl) (fun _ _ _ h => h) ?hy2r7 (by assumption) ?r2r7
    case hi2r7 => simp only [List.getElem?_toArray, List.getElem?_cons_succ, List.getElem?_cons_zero]; rfl
    case hy2r7 => exact Or.inl ⟨by rfl, by (intro w hSw; (try dsimp only at hSw); (have hq := sq_cells hSw.1; have qr := hSw.2; obtain ⟨⟨q0, q1, q2, q3, q4, q5, q6, q7, q8, q9⟩, qp⟩ := hq); go_simp) <;> with_reducible rfl⟩
    try simp only [Act.put, List.setIfInBounds_toArray, List.set_cons_zero, List.set_cons_succ]
    refine wpAnyH_take (i := 3) (oi := ?o3r7) (v := ?v3r7) ?hi3r7 (by kernel_rfl) (by kernel_rfl) (by kernel_rfl) (fun _ _ _ h => h) ?hy3r7 (by assumption) ?r3r7
    case hi3r7 => simp only [List.getElem?_toArray, List.getElem?_cons_succ, List.getElem?_cons_zero]; rfl
    case hy3r7 => exact Or.inl ⟨by rfl, by (intro w hSw; (try dsimp only at hSw); (have hq := sq_cells hSw.1; have qr := hSw.2; obtain ⟨⟨q0, q1, q2, q3, q4, q5, q6, q7, q8, q9⟩, qp⟩ := hq); go_simp) <;> with_reducible rfl⟩
    try simp only [Act.put, List.setIfInBounds_toArray, List.set_cons_zero, List.set_cons_succ]
    refine wpAnyH_ready (rs := [4]) (by kernel_rfl) (by simp) ?_
    refine AllReadyH.cons (o := ?o4r7) ?hi4r7 (fun K hK => ?st4r7) AllReadyH.nil
    case hi4r7 => simp only [List.getElem?_toArray, List.getElem?_cons_succ, List.getElem?_cons_zero]; rfl
    have hPrev := hHeld
    have hcl := HSD.out.rw.cells.1
    (try dsimp only at hcl)
    obtain ⟨hcl0, hcl1, hcl2, hcl3⟩ := hcl
    go_simp
    refine hK.out _ _ ?_ (fun hHeld => ?_)
    · (try dsimp only); exact hPrev
    clear hK K hcl0 hcl1 hcl2 hcl3 hPrev
    try simp only [Act.put, List.setIfInBounds_toArray, List.set_cons_zero, List.set_cons_succ]
    refine wpAnyH_take (i := 5) (oi := ?o5r7) (v := ?v5r7) ?hi5r7 (by kernel_rfl) (by kernel_rfl) (by kernel_rfl) (fun _ _ _ h => h) ?hy5r7 (by assumption) ?r5r7
    case hi5r7 => simp only [List.getElem?_toArray, List.getElem?_cons_succ, List.getElem?_cons_zero]; rfl
    case hy5r7 => exact Or.inl ⟨by rfl, by (intro w hSw; (try dsimp only at hSw); (have hq := sq_cells hSw.1; have qr := hSw.2; obtain ⟨⟨q0, q1, q2, q3, q4, q5, q6, q7, q8, q9⟩, qp⟩ := hq); go_simp) <;> with_reducible rfl⟩
    try simp only [Act.put, List.setIfInBounds_toArray, List.set_cons_zero, List.set_cons_succ]
    refine wpAnyH_take (i := 6) (oi := ?o6r7) (v := undef) ?hi6r7 (by kernel_rfl) (by kernel_rfl) (by kernel_rfl) (fun _ _ _ h => h) ?hy6r7 (by assumption) ?r6r7
    case hi6r7 => simp only [List.getElem?_toArray, List.getElem?_cons_succ, List.getElem?_cons_zero]; rfl
    case hy6r7 => exact Or.inr ⟨by rfl, rfl⟩
    try simp only [Act.put, List.setIfInBounds_toArray, List.set_cons_zero, List.set_cons_succ]
    refine wpAnyH_take (i := 7) (oi := ?o7r7) (v := undef) ?hi7r7 (by kernel_rfl) (by kernel_rfl) (by kernel_rfl) (fun _ _ _ h => h) ?hy7r7 (by assumption) ?r7r7
    case hi7r7 => simp only [List.getElem?_toArray, List.getElem?_cons_succ, List.getElem?_cons_zero]; rfl
    case hy7r7 => exact Or.inr ⟨by rfl, rfl⟩
    try simp only [Act.put, List.setIfInBounds_toArray, List.set_cons_zero, List.set_cons_succ]
    refine wpAnyH_take (i := 8) (oi := ?o8r7) (v := undef) ?hi8r7 (by kernel_rfl) (by kernel_rfl) (by kernel_rfl) (fun _ _ _ h => h) ?hy8r7 (by assumption) ?r8r7
    case hi8r7 => simp only [List.getElem?_toArray, List.getElem?_cons_succ, List.getElem?_cons_zero]; rfl
    case hy8r7 => exact Or.inr ⟨by rfl, rfl⟩
    try simp only [Act.put, List.setIfInBounds_toArray, List.set_cons_zero, List.set_cons_succ]
    refine wpAnyH_take (i := 9) (oi := ?o9r7) (v := undef) ?hi9r7 (by kernel_rfl) (by kernel_rfl) (by kernel_rfl) (fun _ _ _ h => h) ?hy9r7 (by assumption) ?r9r7
    case hi9r7 => simp only [List.getElem?_toArray, List.getElem?_cons_succ, List.getElem?_cons_zero]; rfl
    case hy9r7 => exact Or.inr ⟨by rfl, rfl⟩
    try simp only [Act.put, List.setIfInBounds_toArray, List.set_cons_zero, List.set_cons_succ]
    refine wpAnyH_take (i := 10) (oi := ?o10r7) (v := undef) ?hi10r7 (by kernel_rfl) (by kernel_rfl) (by kernel_rfl) (fun _ _ _ h => h) ?hy10r7 (by assumption) ?r10r7
    case hi10r7 => simp only [List.getElem?_toArray, List.getElem?_cons_succ, List.getElem?_cons_zero]; rfl
    case hy10r7 => exact Or.inr ⟨by rfl, rfl⟩
    try simp only [Act.put, List.setIfInBounds_toArray, List.set_cons_zero, List.set_cons_succ]
    refine wpAnyH_take (i := 11) (oi := ?o11r7) (v := undef) ?hi11r7 (by kernel_rfl) (by kernel_rfl) (by kernel_rfl) (fun _ _ _ h => h) ?hy11r7 (by assumption) ?r11r7
    case hi11r7 => simp only [List.getElem?_toArray, List.getElem?_cons_succ, List.getElem?_cons_zero]; rfl
    case hy11r7 => exact Or.inr ⟨by rfl, rfl⟩
    try simp only [Act.put, List.setIfInBounds_toArray, List.set_cons_zero, List.set_cons_succ]
    refine wpAnyH_take (i := 12) (oi := ?o12r7) (v := ?v12r7) ?hi12r7 (by kernel_rfl) (by kernel_rfl) (by kernel_rfl) (fun _ _ _ h => h) ?hy12r7 (by assumption) ?r12r7
    case hi12r7 => simp only [List.getElem?_toArray, List.getElem?_cons_succ, List.getElem?_cons_zero]; rfl
    case hy12r7 => exact Or.inl ⟨by rfl, by (intro w hSw; (try dsimp only at hSw); (have hq := sq_cells hSw.1; have qr := hSw.2; obtain ⟨⟨q0, q1, q2, q3, q4, q5, q6, q7, q8, q9⟩, qp⟩ := hq); go_simp) <;> with_reducible rfl⟩
    try simp only [Act.put, List.setIfInBounds_toArray, List.set_cons_zero, List.set_cons_succ]
    refine wpAnyH_take (i := 13) (oi := ?o13r7) (v := ?v13r7) ?hi13r7 (by kernel_rfl) (by kernel_rfl) (by kernel_rfl) (fun _ _ _ h => h) ?hy13r7 (by assumption) ?r13r7
    case hi13r7 => simp only [List.getElem?_toArray, List.getElem?_cons_succ, List.getElem?_cons_zero]; rfl
    case hy13r7 => exact Or.inl ⟨by rfl, by (intro w hSw; (try dsimp only at hSw); (have hq := sq_cells hSw.1; have qr := hSw.2; obtain ⟨⟨q0, q1, q2, q3, q4, q5, q6, q7, q8, q9⟩, qp⟩ := hq); go_simp) <;> with_reducible rfl⟩
    try simp only [Act.put, List.setIfInBounds_toArray, List.set_cons_zero, List.set_cons_succ]
    refine wpAnyH_take (i := 14) (oi := ?o14r7) (v := ?v14r7) ?hi14r7 (by kernel_rfl) (by kernel_rfl) (by kernel_rfl) (fun _ _ _ h => h) ?hy14r7 (by assumption) ?r14r7
    case hi14r7 => simp only [List.getElem?_toArray, List.getElem?_cons_succ, List.getElem?_cons_zero]; rfl
    case hy14r7 => exact Or.inl ⟨by rfl, by (intro w hSw; (try dsimp only at hSw); (have hq := sq_cells hSw.1; have qr := hSw.2; obtain ⟨⟨q0, q1, q2, q3, q4, q5, q6, q7, q8, q9⟩, qp⟩ := hq); go_simp) <;> with_reducible rfl⟩
    try simp only [Act.put, List.setIfInBounds_toArray, List.set_cons_zero, List.set_cons_succ]
    refine wpAnyH_ready (rs := [15]) (by kernel_rfl) (by simp) ?_
    refine AllReadyH.cons (o := ?o15r7) ?hi15r7 (fun K hK => ?st15r7) AllReadyH.nil
    case hi15r7 => simp only [List.getElem?_toArray, List.getElem?_cons_succ, List.getElem?_cons_zero]; rfl
    have hcl := HSD.out.rw.cells
    (try dsimp only at hcl)
    obtain ⟨⟨hcl0, hcl1, hcl2, hcl3⟩, hfl0, hfl1, hfl2, hfl3⟩ := hcl
    go_simp
    have HSb := Lib.hid (HSD.out.setBad true)
    refine hK.out _ _ ?_ (fun hHeld => ?_)
    · (try dsimp only); exact sr_of HSb.out
    clear hK K hcl0 hcl1 hcl2 hcl3 hfl0 hfl1 hfl2 hfl3
    try simp only [Act.put, List.setIfInBounds_toArray, List.set_cons_zero, List.set_cons_succ]
    refine wpAnyH_done (by kernel_rfl) ?_ _
    refine NoPanic.normal ?_
    clear hHeld HSD
    go_wp2
    refine at_world (p := fun W => ST w0 b w _ lf ⟨7, z4, (p2 : Nat), 0, 0, 0, g + 1⟩ _ _ W) HSb.out (fun W hW => ?_)
    have HSD := Lib.hid (hW.below (Below.refl _ _).drew)
    clear hW
    refine wp_region_noPanic ?_
    refine wp_region_held_drew (S := fun w' => SQ w b ⟨7, z4, (p2 : Nat), 0, 0, 0, g + 1⟩ w') (by kernel_rfl) ?_ (fun hHeld => ?_)
    · (try dsimp only); exact sq_of HSD.out
    revert HSD hHeld
    generalize World.drew _ = W8
    intro HSD hHeld
    refine wpAnyH_take (i := 0) (oi := ?o0r8) (v := ?v0r8) ?hi0r8 (by kernel_rfl) (by kernel_rfl) (by kernel_rfl) (fun _ _ _ h => h) ?hy0r8 (by assumption) ?r0r8
    case hi0r8 => simp only [List.getElem?_toArray, List.getElem?_cons_succ, List.getElem?_cons_zero]; rfl
    case hy0r8 => exact Or.inl ⟨by rfl, by (intro w hSw; (try dsimp only at hSw); (have hq := sq_cells hSw; obtain ⟨⟨q0, q1, q2, q3, q4, q5, q6, q7, q8, q9⟩, qp⟩ := hq); go_simp) <;> with_reducible rfl⟩
    try simp only [Act.put, List.setIfInBounds_toArray, List.set_cons_zero, List.set_cons_succ]
    refine wpAnyH_take (i := 1) (oi := ?o1r8) (v := ?v1r8) ?hi1r8 (by kernel_rfl) (by kernel_rfl) (by kernel_rfl) (fun _ _ _ h => h) ?hy1r8 (by assumption) ?r1r8
    case hi1r8 => simp only [List.getElem?_toArray, List.getElem?_cons_succ, List.getElem?_cons_zero]; rfl
    case hy1r8 => exact Or.inl ⟨by rfl, by (intro w hSw; (try dsimp only at hSw); (have hq := sq_cells hSw; obtain ⟨⟨q0, q1, q2, q3, q4, q5, q6, q7, q8, q9⟩, qp⟩ := hq); go_simp) <;> with_reducible rfl⟩
    try simp only [Act.put, List.setIfInBounds_toArray, List.set_cons_zero, List.set_cons_succ]
    refine wpAnyH_take (i := 2) (oi := ?o2r8) (v := ?v2r8) ?hi2r8 (by kernel_rfl) (by kernel_rfl) (by kernel_rfl) (fun _ _ _ h => h) ?hy2r8 (by assumption) ?r2r8
    case hi2r8 => simp only [List.getElem?_toArray, List.getElem?_cons_succ, List.getElem?_cons_zero]; rfl
    case hy2r8 => exact Or.inl ⟨by rfl, by (intro w hSw; (try dsimp only at hSw); (have hq := sq_cells hSw; obtain ⟨⟨q0, q1, q2, q3, q4, q5, q6, q7, q8, q9⟩, qp⟩ := hq); go_simp) <;> with_reducible rfl⟩
    try simp only [Act.put, List.setIfInBounds_toArray, List.set_cons_zero, List.set_cons_succ]
    refine wpAnyH_take (i := 3) (oi := ?o3r8) (v := ?v3r8) ?hi3r8 (by kernel_rfl) (by kernel_rfl) (by kernel_rfl) (fun _ _ _ h => h) ?hy3r8 (by assumption) ?r3r8
    case hi3r8 => simp only [List.getElem?_toArray, List.getElem?_cons_succ, List.getElem?_cons_zero]; rfl
    case hy3r8 => exact Or.inl ⟨by rfl, by (intro w hSw; (try dsimp only at hSw); (have hq := sq_cells hSw; obtain ⟨⟨q0, q1, q2, q3, q4, q5, q6, q7, q8, q9⟩, qp⟩ := hq); go_simp) <;> with_reducible rfl⟩
    try simp only [Act.put, List.setIfInBounds_toArray, List.set_cons_zero, List.set_cons_succ]
    refine wpAnyH_ready (rs := [4]) (by kernel_rfl) (by simp) ?_
    refine AllReadyH.cons (o := ?o4r8) ?hi4r8 (fun K hK => ?st4r8) AllReadyH.nil
    case hi4r8 => simp only [List.getElem?_toArray, List.getElem?_cons_succ, List.getElem?_cons_zero]; rfl
    have hPrev := hHeld
    have hcl := HSD.out.rw.cells.1
    (try dsimp only at hcl)
    obtain ⟨hcl0, hcl1, hcl2, hcl3⟩ := hcl
    go_simp
    refine hK.out _ _ ?_ (fun hHeld => ?_)
    · (try dsimp only); exact hPrev
    clear hK K hcl0 hcl1 hcl2 hcl3 hPrev
    try simp only [Act.put, List.setIfInBounds_toArray, List.set_cons_zero, List.set_cons_succ]
    refine wpAnyH_ready (rs := [5]) (by kernel_rfl) (by simp) ?_
    refine AllReadyH.cons (o := ?o5r8) ?hi5r8 (fun K hK => ?st5r8) AllReadyH.nil
    case hi5r8 => simp only [List.getElem?_toArray, List.getElem?_cons_succ, List.getElem?_cons_zero]; rfl
    go_simp
    (go_at_call 38; refine (HTP.out _).mono ?_; rintro e w9 ⟨rfl, rfl⟩)
    refine hK.out _ _ ?_ (fun hHeld => ?_)
    · (try dsimp only); (exact hHeld)
    clear hK K
    try simp only [Act.put, List.setIfInBounds_toArray, List.set_cons_zero, List.set_cons_succ]
    refine wpAnyH_take (i := 6) (oi := ?o6r8) (v := ?v6r8) ?hi6r8 (by kernel_rfl) (by kernel_rfl) (by kernel_rfl) (fun _ _ _ h => h) ?hy6r8 (by assumption) ?r6r8
    case hi6r8 => simp only [List.getElem?_toArray, List.getElem?_cons_succ, List.getElem?_cons_zero]; rfl
    case hy6r8 => exact Or.inl ⟨by rfl, by (intro w hSw; (try dsimp only at hSw); (have hq := sq_cells hSw; obtain ⟨⟨q0, q1, q2, q3, q4, q5, q6, q7, q8, q9⟩, qp⟩ := hq); go_simp) <;> with_reducible rfl⟩
    try simp only [Act.put, List.setIfInBounds_toArray, List.set_cons_zero, List.set_cons_succ]
    refine wpAnyH_take (i := 7) (oi := ?o7r8) (v := ?v7r8) ?hi7r8 (by kernel_rfl) (by kernel_rfl) (by kernel_rfl) (fun _ _ _ h => h) ?hy7r8 (by assumption) ?r7r8
    case hi7r8 => simp only [List.getElem?_toArray, List.getElem?_cons_succ, List.getElem?_cons_zero]; rfl
    case hy7r8 => exact Or.inl ⟨by rfl, by (intro w hSw; (try dsimp only at hSw); (have hq := sq_cells hSw; obtain ⟨⟨q0, q1, q2, q3, q4, q5, q6, q7, q8, q9⟩, qp⟩ := hq); go_simp) <;> with_reducible rfl⟩
    try simp only [Act.put, List.setIfInBounds_toArray, List.set_cons_zero, List.set_cons_succ]
    refine wpAnyH_ready (rs := [8]) (by kernel_rfl) (by simp) ?_
    refine AllReadyH.cons (o := ?o8r8) ?hi8r8 (fun K hK => ?st8r8) AllReadyH.nil
    case hi8r8 => simp only [List.getElem?_toArray, List.getElem?_cons_succ, List.getElem?_cons_zero]; rfl
    have hcl := HSD.out.rw.cells
    (try dsimp only at hcl)
    obtain ⟨⟨hcl0, hcl1, hcl2, hcl3⟩, hfl0, hfl1, hfl2, hfl3⟩ := hcl
    go_simp
    have HSc := Lib.hid (HSD.out.setRest y)
    refine hK.out _ _ ?_ (fun hHeld => ?_)
    · (try dsimp only); exact sq_of HSc.out
    clear hK K hcl0 hcl1 hcl2 hcl3 hfl0 hfl1 hfl2 hfl3
    try simp only [Act.put, List.setIfInBounds_toArray, List.set_cons_zero, List.set_cons_succ]
    refine wpAnyH_done (by kernel_rfl) ?_ _
    refine NoPanic.normal ?_
    clear hHeld HSD
    go_wp2
    refine at_world (p := fun W => ST w0 b w _ lf ⟨7, z4, (p2 : Nat), 0, 0, 0, g + 1⟩ _ _ W) HSc.out (fun W hW => ?_)
    have HSD := Lib.hid (hW.below (Below.refl _ _).drew)
    clear hW
    refine wp_region_noPanic ?_
    refine wp_region_held_drew (S := fun w' => SQ w b ⟨7, z4, (p2 : Nat), 0, 0, 0, g + 1⟩ w') (by kernel_rfl) ?_ (fun hHeld => ?_)
    · (try dsimp only); exact sq_of HSD.out
    revert HSD hHeld
    generalize World.drew _ = W8
    intro HSD hHeld
    refine wpAnyH_take (i := 0) (oi := ?o0_pt12) (v := ?v0_pt12) ?hi0_pt12 (by kernel_rfl) (by kernel_rfl) (by kernel_rfl) (fun _ _ _ h => h) ?hy0_pt12 (by assumption) ?r0_pt12
    case hi0_pt12 => simp only [List.getElem?_toArray, List.getElem?_cons_succ, List.getElem?_cons_zero]; rfl
    case hy0_pt12 => exact Or.inl ⟨by rfl, by (intro w hSw; (try dsimp only at hSw); (have hq := sq_cells hSw; obtain ⟨⟨q0, q1, q2, q3, q4, q5, q6, q7, q8, q9⟩, qp⟩ := hq); go_simp) <;> with_reducible rfl⟩
    try simp only [Act.put, List.setIfInBounds_toArray, List.set_cons_zero, List.set_cons_succ]
    refine wpAnyH_take (i := 1) (oi := ?o1_pt12) (v := ?v1_pt12) ?hi1_pt12 (by kernel_rfl) (by kernel_rfl) (by kernel_rfl) (fun _ _ _ h => h) ?hy1_pt12 (by assumption) ?r1_pt12
    case hi1_pt12 => simp only [List.getElem?_toArray, List.getElem?_cons_succ, List.getElem?_cons_zero]; rfl
    case hy1_pt12 => exact Or.inl ⟨by rfl, by (intro w hSw; (try dsimp only at hSw); (have hq := sq_cells hSw; obtain ⟨⟨q0, q1, q2, q3, q4, q5, q6, q7, q8, q9⟩, qp⟩ := hq); go_simp) <;> with_reducible rfl⟩
    try simp only [Act.put, List.setIfInBounds_toArray, List.set_cons_zero, List.set_cons_succ]
    refine wpAnyH_take (i := 2) (oi := ?o2_pt12) (v := ?v2_pt12) ?hi2_pt12 (by kernel_rfl) (by kernel_rfl) (by kernel_rfl) (fun _ _ _ h => h) ?hy2_pt12 (by assumption) ?r2_pt12
    case hi2_pt12 => simp only [List.getElem?_toArray, List.getElem?_cons_succ, List.getElem?_cons_zero]; rfl
    case hy2_pt12 => exact Or.inl ⟨by rfl, by (intro w hSw; (try dsimp only at hSw); (have hq := sq_cells hSw; obtain ⟨⟨q0, q1, q2, q3, q4, q5, q6, q7, q8, q9⟩, qp⟩ := hq); go_simp) <;> with_reducible rfl⟩
    try simp only [Act.put, List.setIfInBounds_toArray, List.set_cons_zero, List.set_cons_succ]
    refine wpAnyH_take (i := 3) (oi := ?o3_pt12) (v := ?v3_pt12) ?hi3_pt12 (by kernel_rfl) (by kernel_rfl) (by kernel_rfl) (fun _ _ _ h => h) ?hy3_pt12 (by assumption) ?r3_pt12
    case hi3_pt12 => simp only [List.getElem?_toArray, List.getElem?_cons_succ, List.getElem?_cons_zero]; rfl
    case hy3_pt12 => exact Or.inl ⟨by rfl, by (intro w hSw; (try dsimp only at hSw); (have hq := sq_cells hSw; obtain ⟨⟨q0, q1, q2, q3, q4, q5, q6, q7, q8, q9⟩, qp⟩ := hq); go_simp) <;> with_reducible rfl⟩
    try simp only [Act.put, List.setIfInBounds_toArray, List.set_cons_zero, List.set_cons_succ]
    refine wpAnyH_take (i := 5) (oi := ?o5_pt12) (v := ?v5_pt12) ?hi5_pt12 (by kernel_rfl) (by kernel_rfl) (by kernel_rfl) (fun _ _ _ h => h) ?hy5_pt12 (by assumption) ?r5_pt12
    case hi5_pt12 => simp only [List.getElem?_toArray, List.getElem?_cons_succ, List.getElem?_cons_zero]; rfl
    case hy5_pt12 => exact Or.inl ⟨by rfl, by (intro w hSw; (try dsimp only at hSw); (have hq := sq_cells hSw; obtain ⟨⟨q0, q1, q2, q3, q4, q5, q6, q7, q8, q9⟩, qp⟩ := hq); go_simp) <;> with_reducible rfl⟩
    try simp only [Act.put, List.setIfInBounds_toArray, List.set_cons_zero, List.set_cons_succ]
    refine wpAnyH_ready (rs := [4, 6]) (by kernel_rfl) (by simp) ?_
    refine AllReadyH.cons (o := ?o4t12) ?hi4t12 (fun K hK => ?st4t12) (AllReadyH.cons (o := ?o6t12) ?hi6t12 (fun K hK => ?st6t12) AllReadyH.nil)
    case hi4t12 => simp only [List.getElem?_toArray, List.getElem?_cons_succ, List.getElem?_cons_zero]; rfl
    case hi6t12 => simp only [List.getElem?_toArray, List.getElem?_cons_succ, List.getElem?_cons_zero]; rfl
    case st4t12 =>
      have hPrev := hHeld
      have hcl := HSD.out.rw.cells.1.2.1
      (try dsimp only at hcl)
      go_simp
      refine hK.out _ _ ?_ (fun hHeld => ?_)
      · (try dsimp only); exact hPrev
      clear hK K hcl
      try simp only [Act.put, List.setIfInBounds_toArray, List.set_cons_zero, List.set_cons_succ]
      refine wpAnyH_ready (rs := [6]) (by kernel_rfl) (by simp) ?_
      refine AllReadyH.cons (o := ?o6at12) ?hi6at12 (fun K hK => ?st6at12) AllReadyH.nil
      case hi6at12 => simp only [List.getElem?_toArray, List.getElem?_cons_succ, List.getElem?_cons_zero]; rfl
      go_simp
      have HSA := Lib.hid (HSD.out.below ((Below.refl _ _).alloc (Nat.le_refl _) (.cells (NC ⟨7, z4, (p2 : Nat), 0, 0, 0, g + 1⟩) 40)))
      refine hK.out _ _ ?_ (fun hHeld => ?_)
      · (try dsimp only); exact sq_of HSA.out
      clear hK K
      try simp only [Act.put, List.setIfInBounds_toArray, List.set_cons_zero, List.set_cons_succ]
      have HNW := Lib.hid (@news_row W8 ⟨7, z4, (p2 : Nat), 0, 0, 0, g + 1⟩)
      revert HSA hHeld HNW
      generalize World.alloc _ _ = W9
      intro HSA hHeld HNW
      refine wpAnyH_ready (rs := [7]) (by kernel_rfl) (by simp) ?_
      refine AllReadyH.cons (o := ?o7at12) ?hi7at12 (fun K hK => ?st7at12) AllReadyH.nil
      case hi7at12 => simp only [List.getElem?_toArray, List.getElem?_cons_succ, List.getElem?_cons_zero]; rfl
      (refine step_append_lies _ rfl _ _ 22 rfl w0.heap.size 40 i0 _ 10 80 Tryd.underlying22 hi hz0 hz1 hz2 rfl (by decide) _ _ _ rfl HSA.out.rw.own ⟨_, 0, none⟩ 1 1 (NC ⟨7, z4, (p2 : Nat), 0, 0, 0, g + 1⟩).toList rfl rfl HNW.out (one_row _) (by decide) (by have := HLEN.out; (try dsimp only at this ⊢); unfold maxLen; omega) (by have := HLEN.out; (try dsimp only at this ⊢); omega) HSA.out.rw.bel.size _ rfl ?_; intro gg gcap w4 hown hgrow hat hlt4)
      have HP0 := rw_push HSA.out.rw hown hgrow hat
      have HP := Lib.hid HP0
      clear HP0
      have hq8 := sq_grown HSA.out hgrow
      refine hK.out _ _ ?_ (fun hHeld => ?_)
      · (try dsimp only); exact hq8
      clear hK K hq8
      try simp only [Act.put, List.setIfInBounds_toArray, List.set_cons_zero, List.set_cons_succ]
      refine wpAnyH_take (i := 8) (oi := ?o8_qt12a) (v := ?v8_qt12a) ?hi8_qt12a (by kernel_rfl) (by kernel_rfl) (by kernel_rfl) (fun _ _ _ h => h) ?hy8_qt12a (by assumption) ?r8_qt12a
      case hi8_qt12a => simp only [List.getElem?_toArray, List.getElem?_cons_succ, List.getElem?_cons_zero]; rfl
      case hy8_qt12a => exact Or.inl ⟨by rfl, by (intro w hSw; (try dsimp only at hSw); (have hq := sq_cells hSw; obtain ⟨⟨q0, q1, q2, q3, q4, q5, q6, q7, q8, q9⟩, qp⟩ := hq); go_simp) <;> with_reducible rfl⟩
      try simp only [Act.put, List.setIfInBounds_toArray, List.set_cons_zero, List.set_cons_succ]
      refine wpAnyH_take (i := 9) (oi := ?o9_qt12a) (v := ?v9_qt12a) ?hi9_qt12a (by kernel_rfl) (by kernel_rfl) (by kernel_rfl) (fun _ _ _ h => h) ?hy9_qt12a (by assumption) ?r9_qt12a
      case hi9_qt12a => simp only [List.getElem?_toArray, List.getElem?_cons_succ, List.getElem?_cons_zero]; rfl
      case hy9_qt12a => exact Or.inl ⟨by rfl, by (intro w hSw; (try dsimp only at hSw); (have hq := sq_cells hSw; obtain ⟨⟨q0, q1, q2, q3, q4, q5, q6, q7, q8, q9⟩, qp⟩ := hq); go_simp) <;> with_reducible rfl⟩
      try simp only [Act.put, List.setIfInBounds_toArray, List.set_cons_zero, List.set_cons_succ]
      refine wpAnyH_ready (rs := [10]) (by kernel_rfl) (by simp) ?_
      refine AllReadyH.cons (o := ?o10at12) ?hi10at12 (fun K hK => ?st10at12) AllReadyH.nil
      case hi10at12 => simp only [List.getElem?_toArray, List.getElem?_cons_succ, List.getElem?_cons_zero]; rfl
      have hf4 := fz_grown HSA.out hgrow 1
      have hc4 := cell_grown HSA.out hgrow
      go_simp
      have HZ := Lib.hid (HSA.out.step HP.out.1 HP.out.2)
      refine hK.out _ _ ?_ (fun hHeld => ?_)
      · (try dsimp only); exact sq_of HZ.out
      clear hK K hf4 hc4
      try simp only [Act.put, List.setIfInBounds_toArray, List.set_cons_zero, List.set_cons_succ]
      refine wpAnyH_done (by kernel_rfl) ?_ _
      refine NoPanic.normal ?_
      clear hHeld hgrow hown hat hlt4 HP HSA HSD HNW
      revert HZ
      generalize World.setCell _ _ _ = W10
      intro HZ
      obtain ⟨⟨p0, p1⟩, _, _⟩ := HZ.out.facts
      obtain ⟨⟨y0, y1, y2, y3⟩, _, _, _, _⟩ := HZ.out.rw.cells
      (try dsimp only at y0 y1 y2 y3)
      have hw1 : IntKind.i64.wrap ((((l2).length + 1 : Nat) : Int) - 1) = (((l2).length : Nat) : Int) := by have := HLEN.out; rw [IntKind.wrap_i64]; omega
      have hlen9 := HLEN.out
      go_wp2
      go_ret
      refine ⟨_, ?_, ?_, HZ.out.kr⟩
      · rw [HO.out]; rfl
      · rw [HO.out]; exact HZ.out.rw
    case st6t12 =>
      go_simp
      have HSA := Lib.hid (HSD.out.below ((Below.refl _ _).alloc (Nat.le_refl _) (.cells (NC ⟨7, z4, (p2 : Nat), 0, 0, 0, g + 1⟩) 40)))
      refine hK.out _ _ ?_ (fun hHeld => ?_)
      · (try dsimp only); exact sq_of HSA.out
      clear hK K
      try simp only [Act.put, List.setIfInBounds_toArray, List.set_cons_zero, List.set_cons_succ]
      have HNW := Lib.hid (@news_row W8 ⟨7, z4, (p2 : Nat), 0, 0, 0, g + 1⟩)
      revert HSA hHeld HNW
      generalize World.alloc _ _ = W9
      intro HSA hHeld HNW
      have hPrev := hHeld
      refine wpAnyH_ready (rs := [4]) (by kernel_rfl) (by simp) ?_
      refine AllReadyH.cons (o := ?o4bt12) ?hi4bt12 (fun K hK => ?st4bt12) AllReadyH.nil
      case hi4bt12 => simp only [List.getElem?_toArray, List.getElem?_cons_succ, List.getElem?_cons_zero]; rfl
      have hcl := HSA.out.rw.cells.1.2.1
      (try dsimp only at hcl)
      go_simp
      refine hK.out _ _ ?_ (fun hHeld => ?_)
      · (try dsimp only); exact hPrev
      clear hK K hcl
      try simp only [Act.put, List.setIfInBounds_toArray, List.set_cons_zero, List.set_cons_succ]
      refine wpAnyH_ready (rs := [7]) (by kernel_rfl) (by simp) ?_
      refine AllReadyH.cons (o := ?o7bt12) ?hi7bt12 (fun K hK => ?st7bt12) AllReadyH.nil
      case hi7bt12 => simp only [List.getElem?_toArray, List.getElem?_cons_succ, List.getElem?_cons_zero]; rfl
      (refine step_append_lies _ rfl _ _ 22 rfl w0.heap.size 40 i0 _ 10 80 Tryd.underlying22 hi hz0 hz1 hz2 rfl (by decide) _ _ _ rfl HSA.out.rw.own ⟨_, 0, none⟩ 1 1 (NC ⟨7, z4, (p2 : Nat), 0, 0, 0, g + 1⟩).toList rfl rfl HNW.out (one_row _) (by decide) (by have := HLEN.out; (try dsimp only at this ⊢); unfold maxLen; omega) (by have := HLEN.out; (try dsimp only at this ⊢); omega) HSA.out.rw.bel.size _ rfl ?_; intro gg gcap w4 hown hgrow hat hlt4)
      have HP0 := rw_push HSA.out.rw hown hgrow hat
      have HP := Lib.hid HP0
      clear HP0
      have hq8 := sq_grown HSA.out hgrow
      refine hK.out _ _ ?_ (fun hHeld => ?_)
      · (try dsimp only); exact hq8
      clear hK K hq8
      try simp only [Act.put, List.setIfInBounds_toArray, List.set_cons_zero, List.set_cons_succ]
      refine wpAnyH_take (i := 8) (oi := ?o8_qt12b) (v := ?v8_qt12b) ?hi8_qt12b (by kernel_rfl) (by kernel_rfl) (by kernel_rfl) (fun _ _ _ h => h) ?hy8_qt12b (by assumption) ?r8_qt12b
      case hi8_qt12b => simp only [List.getElem?_toArray, List.getElem?_cons_succ, List.getElem?_cons_zero]; rfl
      case hy8_qt12b => exact Or.inl ⟨by rfl, by (intro w hSw; (try dsimp only at hSw); (have hq := sq_cells hSw; obtain ⟨⟨q0, q1, q2, q3, q4, q5, q6, q7, q8, q9⟩, qp⟩ := hq); go_simp) <;> with_reducible rfl⟩
      try simp only [Act.put, List.setIfInBounds_toArray, List.set_cons_zero, List.set_cons_succ]
      refine wpAnyH_take (i := 9) (oi := ?o9_qt12b) (v := ?v9_qt12b) ?hi9_qt12b (by kernel_rfl) (by kernel_rfl) (by kernel_rfl) (fun _ _ _ h => h) ?hy9_qt12b (by assumption) ?r9_qt12b
      case hi9_qt12b => simp only [List.getElem?_toArray, List.getElem?_cons_succ, List.getElem?_cons_zero]; rfl
      case hy9_qt12b => exact Or.inl ⟨by rfl, by (intro w hSw; (try dsimp only at hSw); (have hq := sq_cells hSw; obtain ⟨⟨q0, q1, q2, q3, q4, q5, q6, q7, q8, q9⟩, qp⟩ := hq); go_simp) <;> with_reducible rfl⟩
      try simp only [Act.put, List.setIfInBounds_toArray, List.set_cons_zero, List.set_cons_succ]
      refine wpAnyH_ready (rs := [10]) (by kernel_rfl) (by simp) ?_
      refine AllReadyH.cons (o := ?o10bt12) ?hi10bt12 (fun K hK => ?st10bt12) AllReadyH.nil
      case hi10bt12 => simp only [List.getElem?_toArray, List.getElem?_cons_succ, List.getElem?_cons_zero]; rfl
      have hf4 := fz_grown HSA.out hgrow 1
      have hc4 := cell_grown HSA.out hgrow
      go_simp
      have HZ := Lib.hid (HSA.out.step HP.out.1 HP.out.2)
      refine hK.out _ _ ?_ (fun hHeld => ?_)
      · (try dsimp only); exact sq_of HZ.out
      clear hK K hf4 hc4
      try simp only [Act.put, List.setIfInBounds_toArray, List.set_cons_zero, List.set_cons_succ]
      refine wpAnyH_done (by kernel_rfl) ?_ _
      refine NoPanic.normal ?_
      clear hHeld hgrow hown hat hlt4 HP HSA HSD HNW
      revert HZ
      generalize World.setCell _ _ _ = W10
      intro HZ
      obtain ⟨⟨p0, p1⟩, _, _⟩ := HZ.out.facts
      obtain ⟨⟨y0, y1, y2, y3⟩, _, _, _, _⟩ := HZ.out.rw.cells
      (try dsimp only at y0 y1 y2 y3)
      have hw1 : IntKind.i64.wrap ((((l2).length + 1 : Nat) : Int) - 1) = (((l2).length : Nat) : Int) := by have := HLEN.out; rw [IntKind.wrap_i64]; omega
      have hlen9 := HLEN.out
      go_wp2
      go_ret
      refine ⟨_, ?_, ?_, HZ.out.kr⟩
      · rw [HO.out]; rfl
      · rw [HO.out]; exact HZ.out.rw
end Go.Proofs.YtdjedjfanfbbcaaDoor.Rx
