/- MatchAlts: the walk joined with what both patterns are. -/
import Derived.Test.YtlicoffnjphphaaGreatDoorMtLaw4Pk
set_option maxRecDepth 100000
namespace Go.Proofs.YtlicoffnjphphaaGreatDoor.Mt
open Go.RowKit Go.Shelf
open Go.Proofs.YtlicoffnjphphaaGreatDoor.Rx
open Go.Proofs.YtlicoffnjphphaaGreatDoor.Rx.Tr
open Go.Proofs.YtlicoffnjphphaaGreatDoor.St (Wf)
set_option linter.unusedVariables false
set_option linter.unusedSimpArgs false
theorem qW_alt (T : List UInt8) (x y : Tr) (k j : Nat) : qW T (.alt x y) k j = (qW T x k j || qW T y k j) := by
 unfold qW;rw [whole_alt];cases decide (k ≤ j) <;> simp
theorem row_q {t : Tr} (hg : Go.Proofs.YtlicoffnjphphaaGreatDoor.Rx.Good t) {ao : Option Addr} {c : Nat} {W : World} (h : Ns W (.slice ao (t.nodes 0).length c) (t.nodes 0)) (F : ∀ n ∈ t.nodes 0, Wf n.s) {T : List UInt8} (hT : T.length ≤ 100000) (k j : Nat) (hj : j ≤ T.length) :
  Calls Tryz.prog 17 #[.slice ao (t.nodes 0).length c, S T, E (k : Nat), E (j : Nat)] W fun e w' => (∃ cj, e = .returned (.tuple #[CV cj, .bool (qW T t k j)])) ∧ Below W.heap.size W w' := by
 have := whole_row h F hT k j hj;rw [patOf_good hg] at this;exact this
theorem matchAlts_walk (W : World) (hL : Lay W) (ao : Option Addr) (c : Nat) (la : List Nd) (m : la.length ≤ maxLen) (B : Ns W (.slice ao la.length c) la) (F : ∀ n ∈ la, Wf n.s) (bo : Option Addr) (d : Nat) (lb : List Nd) (m' : lb.length ≤ maxLen) (B' : Ns W (.slice bo lb.length d) lb) (F' : ∀ n ∈ lb, Wf n.s) (a1 : ByteArray) (w1 : a1.size ≤ maxLen) (a2 : Int) (w2 : (Lit.int .u8 a2).wf = true) :
  Calls Tryz.prog 6 #[.slice ao la.length c, .slice bo lb.length d, .string a1, .int .u8 a2] W fun e W' => e = .returned (.bool true) ∧ Below W.heap.size W W' := by
 obtain ⟨x, rfl, hx⟩ := u8_nat w2;obtain ⟨T, rfl⟩ : ∃ T : List UInt8, a1 = ⟨T.toArray⟩ := ⟨a1.data.toList, (Lib.mk_data a1).symm⟩;cases hb1 : boundedL 24 9 6 la T.length with
 | false => exact alts_skip0 W hL ao bo la.length c lb.length d T x (fun W' => bounded_any ao c la W B m T false hb1.symm)
 | true =>
 obtain ⟨hl1, hT⟩ := bounded_len hb1;(have hba := fun W' : World => bounded_any ao c la W B m T true hb1.symm);cases hb2 : boundedL 24 9 6 lb T.length with
 | false => exact alts_skip1 W hL ao bo la.length c lb.length d T x hba (fun W' => bounded_any bo d lb W B' m' T false hb2.symm)
 | true =>
 obtain ⟨hl2, _⟩ := bounded_len hb2;(have hbb := fun W' : World => bounded_any bo d lb W B' m' T true hb2.symm);(have hma := fun (W' : World) (h : Below W.heap.size W W') => may_any ao c la W' (B.below h) F);(have hmb := fun (W' : World) (h : Below W.heap.size W W') => may_any bo d lb W' (B'.below h) F');(have hga := fun (W' : World) (h : Below W.heap.size W W') => groups_any ao c la W' (B.below h) F);(have hgb := fun (W' : World) (h : Below W.heap.size W W') => groups_any bo d lb W' (B'.below h) F');cases hp : patOf la with
 | none =>
  rw [show mayL la = false from by unfold mayL; rw [hp]; rfl] at hma;exact alts_skip2 W hL ao bo la.length c lb.length d T x hba hbb hma
 | some u =>
 rw [show mayL la = true from by unfold mayL; rw [hp]; rfl] at hma;cases hq : patOf lb with
 | none =>
  rw [show mayL lb = false from by unfold mayL; rw [hq]; rfl] at hmb;exact alts_skip3 W hL ao bo la.length c lb.length d T x hba hbb hma hmb
 | some v =>
 rw [show mayL lb = true from by unfold mayL; rw [hq]; rfl] at hmb;rw [show groupsL la = cnt u from by unfold groupsL; rw [hp]] at hga;rw [show groupsL lb = cnt v from by unfold groupsL; rw [hq]] at hgb;obtain ⟨rfl, gu⟩ := patOf_some hp;obtain ⟨rfl, gv⟩ := patOf_some hq;have lu := nodes_len u 0;have lv := nodes_len v 0;have pu := size_pos u;have pv := size_pos v;have c1 := cnt_pos u;have c2 := cnt_size u;have c3 := cnt_pos v;have c4 := cnt_size v;by_cases hG : 0 < cnt u + cnt v
 · exact alts_skip4 W hL ao bo _ c _ d T x hba hbb hma hmb _ _ hga hgb (by omega) (by omega) hG
 by_cases hN : 20 < (u.nodes 0).length + (v.nodes 0).length
 · exact alts_skip5 W hL ao bo _ c _ d T x hba hbb hma hmb _ _ hga hgb (by omega) (by omega) (by omega) hN (by omega)
 (have zu : cnt u = 0 := by omega);(have zv : cnt v = 0 := by omega);rw [zu] at hga;rw [zv] at hgb;obtain ⟨Ba, oa, rfl, ka⟩ : ∃ Ba oa, ao = some ⟨Ba, oa, none⟩ ∧ ∀ W' : World, Below W.heap.size W W' → ∀ i (hi : i < (u.nodes 0).length), W'.cell? ⟨Ba, oa + i * 10, none⟩ = some (E (u.nodes 0)[i].k) := by
  obtain ⟨b0, o0, rfl, -⟩ := B.at (i := 0) (by omega);refine ⟨b0, o0, rfl, fun W' hb i hi => ?_⟩;obtain ⟨b1, o1, e1, q0, -⟩ := (B.below hb).at hi;cases e1;exact q0
 obtain ⟨Bb, ob, rfl, kb⟩ : ∃ Bb ob, bo = some ⟨Bb, ob, none⟩ ∧ ∀ W' : World, Below W.heap.size W W' → ∀ i (hi : i < (v.nodes 0).length), W'.cell? ⟨Bb, ob + i * 10, none⟩ = some (E (v.nodes 0)[i].k) := by
  obtain ⟨b0, o0, rfl, -⟩ := B'.at (i := 0) (by omega);refine ⟨b0, o0, rfl, fun W' hb i hi => ?_⟩;obtain ⟨b1, o1, e1, q0, -⟩ := (B'.below hb).at hi;cases e1;exact q0
 (have hm1 : (u.nodes 0).length = (u.size - 1) + 1 := by omega);have hcl : ∀ W' : World, Below W.heap.size W W' → W'.cell? ⟨Ba, oa + (u.size - 1) * 10, none⟩ = some (E (u.nodes 0)[u.size - 1].k) ∧ W'.cell? ⟨Ba, oa, none⟩ = some (E (u.nodes 0)[0].k) ∧ W'.cell? ⟨Bb, ob, none⟩ = some (E (v.nodes 0)[0].k) := fun W' hb =>
  ⟨ka W' hb _ (by omega), by simpa using ka W' hb 0 (by omega), by simpa using kb W' hb 0 (by omega)⟩
 have hlast : (u.nodes 0)[u.size - 1].k = u.rk := by
  have h1 := nodes_last u 0;rw [List.getElem?_eq_getElem (by omega)] at h1;rw [Option.some.inj h1, root_k]
 by_cases h5 : (u.nodes 0)[u.size - 1].k = 5
 · exact alts_true0 W hL Ba oa c Bb ob d _ _ T (by omega) x (u.size - 1) hm1 (by omega) (by omega) _ _ _ h5 hba hbb hma hmb hga hgb hcl
 by_cases h6 : (u.nodes 0)[0].k = 0
 · exact alts_true1 W hL Ba oa c Bb ob d _ _ T (by omega) x (u.size - 1) hm1 (by omega) (by omega) _ _ _ h5 h6 hba hbb hma hmb hga hgb hcl
 by_cases h7 : (v.nodes 0)[0].k = 0
 · exact alts_true2 W hL Ba oa c Bb ob d _ _ T (by omega) x (u.size - 1) hm1 (by omega) (by omega) _ _ _ h5 h6 h7 hba hbb hma hmb hga hgb hcl
 (have nu : u ≠ .e := by rintro rfl; exact h6 rfl);(have nv : v ≠ .e := by rintro rfl; exact h7 rfl);have ga := alt_good gu gv nu nv (by rw [← hlast]; exact h5) zu zv (by omega);have hLL := alt_nodes u v zv;have FA : ∀ n ∈ (Tr.alt u v).nodes 0, Wf n.s := nodes_sets _ 0 ⟨sets_nodes u 0 F, sets_nodes v 0 F'⟩;(have hmL : mayL ((Tr.alt u v).nodes 0) = true := by unfold mayL; rw [patOf_good ga]; rfl);refine alts_core W hL Ba oa c Bb ob d _ _ T (by omega) x (u.size - 1) hm1 (by omega) (by omega) _ _ _ h5 h6 h7 hba hbb hma hmb hga hgb hcl B B' hx _ rfl (fun n hn => ?_) (qW T u (x % (T.length + 1))) (qW T v (x % (T.length + 1))) ((Tr.alt u v).nodes 0) ?_ (fun W' j hb _ hj => row_q gu (B.below hb) F (by omega) _ j hj) (fun W' j hb _ hj => row_q gv (B'.below hb) F' (by omega) _ j hj) (fun W' g cap hns => ?_) (fun W' g cap j hns _ hj => ?_)
 · have := nodes_small v 0 n hn;omega
 · rw [hLL, lu]
 · have := may_any _ cap _ W' hns FA;rw [hmL] at this;exact this
 · have := row_q ga hns FA (T := T) (by omega) (x % (T.length + 1)) j hj;rw [qW_alt] at this;exact this
end Go.Proofs.YtlicoffnjphphaaGreatDoor.Mt