/- A set as a parameter (StSet over other texts). -/
import Derived.Test.YtlicoffnjphphaaGreatDoorMtSzPk
import Derived.ProofKit
import Derived.OpenShut
import Derived.Laws.IdiomArrays
set_option maxRecDepth 100000
namespace Go.Proofs.YtlicoffnjphphaaGreatDoor.St
open Go.RowKit Go.ChangeShapes Go.WideShapes
set_option linter.unusedVariables false
set_option linter.unusedSimpArgs false
theorem cellsU64 : Tryz.prog.cellsOf 51 = 1 := by kernel_rfl
theorem cellsSet : Tryz.prog.cellsOf 53 = 4 := by kernel_rfl
theorem u64_nat {a : Int} (h : (Lit.int .u64 a).wf = true) : ∃ n : Nat, a = (n : Int) ∧ n < 2 ^ 64 := by
 simp [Lit.wf, IntKind.min, IntKind.max, IntKind.signed, IntKind.bits] at h;exact ⟨a.toNat, by omega, by omega⟩
theorem nat_u64 {n : Nat} (h : n < 2 ^ 64) : (Lit.int .u64 (n : Int)).wf = true := by
 simp [Lit.wf, IntKind.min, IntKind.max, IntKind.signed, IntKind.bits]; omega
def dataSet {H : Type} (ws : List Nat) : DataW H := .agg (ws.map fun n : Nat => .lit (.int .u64 (n : Int)))
set_option linter.constructorNameAsVariable false in
theorem open_set {H : Type} {enc : TypeId × Value → H} {w : World} {base : Nat} {spare : Nat → Bool} {held : Bool} {r : Reach} {b0 : Nat} {v : Value} {d : DataW H} {ps : List MemPlace} (hval : Value.okWide Tryz.prog w r b0 53 v)
  (hd : DataW.Trod enc Tryz.prog w base spare held 53 v d ps) : ∃ ws : List Nat, v = SV ws ∧ d = dataSet ws ∧ ps = [] ∧ Wf ws := by
 have hv : ∃ cs : Array Value, v = .agg cs ∧ cs.size = Tryz.prog.cellsOf 53 := by
  simp only [Value.okWide, Tryz.underlying53] at hval;obtain ⟨cs, h1, h2, _⟩ := hval;exact ⟨cs, h1, h2⟩
 obtain ⟨cs, rfl, hs⟩ := hv;rw [cellsSet] at hs;obtain ⟨l⟩ := cs
 match l, hs with
 | [c0, c1, c2, c3], _ =>
  obtain ⟨fuel, hf⟩ := hd;obtain ⟨y0, y1, y2, y3, n, hx, h0, h1, h2, h3⟩ := trod_array4 Tryz.underlying53 cellsU64 hf;obtain ⟨n0, e0, rfl, w0⟩ := DataW.trod_int Tryz.underlying51 h0;obtain ⟨n1, e1, rfl, w1⟩ := DataW.trod_int Tryz.underlying51 h1;obtain ⟨n2, e2, rfl, w2⟩ := DataW.trod_int Tryz.underlying51 h2;obtain ⟨n3, e3, rfl, w3⟩ := DataW.trod_int Tryz.underlying51 h3;obtain ⟨n0, rfl, b0⟩ := u64_nat w0;obtain ⟨n1, rfl, b1⟩ := u64_nat w1;obtain ⟨n2, rfl, b2⟩ := u64_nat w2;obtain ⟨n3, rfl, b3⟩ := u64_nat w3;(obtain rfl : c0 = _ := by simpa using e0);(obtain rfl : c1 = _ := by simpa using e1);(obtain rfl : c2 = _ := by simpa using e2);(obtain rfl : c3 = _ := by simpa using e3);simp only [Prod.mk.injEq] at hx;exact ⟨[n0, n1, n2, n3], rfl, hx.1, by simpa using hx.2, rfl, by simp [b0, b1, b2, b3]⟩
theorem shut_set {H : Type} {enc : TypeId × Value → H} {w : World} {base : Nat} {spare : Nat → Bool} {held : Bool} {ws : List Nat} (h : Wf ws) : DataW.Trod enc Tryz.prog w base spare held 53 (SV ws) (dataSet ws) [] := by
 obtain ⟨hl, hb⟩ := h
 match ws, hl with
 | [n0, n1, n2, n3], _ =>
  have w0 := nat_u64 (hb n0 (by simp));have w1 := nat_u64 (hb n1 (by simp));have w2 := nat_u64 (hb n2 (by simp));have w3 := nat_u64 (hb n3 (by simp));refine ⟨2, ?_⟩;have r4 : List.range 4 = [0, 1, 2, 3] := rfl;simp [DataW.trod, Value.cells, Tryz.underlying53, Tryz.underlying51, cellsU64, cellsSet, r4, dataSet, w0, w1, w2, w3]
end Go.Proofs.YtlicoffnjphphaaGreatDoor.St