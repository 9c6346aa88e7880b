/- TransMakes: for every input the law returns true, and its arguments read as they did. -/
import Derived.Test.YtpgglnibfojdgaaDoorRows
import Derived.ProofKit
import Derived.OpenShut
import Derived.ShutString
import Derived.WalkLawsBesides
import Derived.Test.YtpgglnibfojdgaaDoorCards
import Derived.Test.YtpgglnibfojdgaaDoorTie
import Derived.Deep.DeepHandedRow
import Derived.Lib.LaidTab
import Derived.Stop.LaidErr
import Derived.LaidSub
import Derived.Test.YtpgglnibfojdgaaDoorTrMakes
namespace Go.Proofs.YtpgglnibfojdgaaDoor.transMakesLaw
open Go.ChangeShapes Go.WideShapes Go.ChangeAt Go.RowKit
open Go.ChangeMaps (open_string shut_string)
set_option linter.unusedVariables false

theorem own : ownKnob Tryd.prog.godebug = none := by kernel_rfl

theorem gSyn : Tryd.prog.globalNamed "strconv.ErrSyntax" = some 1 := by kernel_rfl
theorem gRng : Tryd.prog.globalNamed "strconv.ErrRange" = some 2 := by kernel_rfl
theorem gSynType : (Tryd.prog.globals[1]?).map (·.type) = some 51 := by kernel_rfl
theorem gRngType : (Tryd.prog.globals[2]?).map (·.type) = some 51 := by kernel_rfl
theorem cellsE : Tryd.prog.cellsOf 95 = 1 := by kernel_rfl
theorem cellsS : Tryd.prog.cellsOf 9 = 1 := by kernel_rfl
theorem star : "*" ++ "errors.errorString" = "*errors.errorString" := by decide
theorem rowE (u : TypeId) (h : Tryd.prog.typeName? 3 u = some "*errors.errorString") : u = 93 :=
  typeName_ptr_named (nm := "errors.errorString") (by rw [star]; kernel_rfl) (by kernel_rfl) (by decide) u (by rw [star]; exact h)
theorem gTab : Tryd.prog.globalNamed "math/bits.deBruijn64tab" = some 5 := by kernel_rfl
theorem gTabType : (Tryd.prog.globals[5]?).map (·.type) = some 106 := by kernel_rfl
theorem cellsTab : Tryd.prog.cellsOf 106 = 64 := by kernel_rfl
theorem cellsU8 : Tryd.prog.cellsOf 5 = 1 := by kernel_rfl
theorem table {W : World} (h : laidMetH Tryd.prog Rows.transMakesRow.laid W) : Tr.Lay W := by
  have h0 : laidMet Tryd.prog Rows.transMakesRow.laid W := by
    have := (laidMetH_iff.1 h).1
    rwa [show (Rows.transMakesRow.laid.filter fun x => x.2.handleName?.isNone) = Rows.transMakesRow.laid from by kernel_rfl] at this
  have h1 := h0.tail.tail.tail
  obtain ⟨a1, s1, hv1, _⟩ := laid_sentinel h1 gRng gRngType Tryd.underlying51 rowE Tryd.underlying93 Tryd.underlying95 rfl rfl Tryd.underlying9 cellsE cellsS
  obtain ⟨a0, s0, hv0, _⟩ := laid_sentinel h1.tail gSyn gSynType Tryd.underlying51 rowE Tryd.underlying93 Tryd.underlying95 rfl rfl Tryd.underlying9 cellsE cellsS
  exact ⟨Tr.tab_of (Lib.tabIs_of_head gTab gTabType Tryd.underlying106 Tryd.underlying5 cellsU8 cellsTab h0.tail) gTab,
    Tr.errs_of (by simpa using World.var?_cell gSyn hv0 0) (by simpa using World.var?_cell gRng hv1 0) (Or.inr ⟨_, _, rfl⟩) (Or.inr ⟨_, _, rfl⟩)⟩

set_option maxRecDepth 100000 in
theorem contract (H : Type) (enc : TypeId × Value → H) (W : World) (base : Nat) (args : Array Value) (ds gs : List (DataW H)) (before : List MemPlace)
    (hval : ∀ (j : Nat) t v, Tryd.f3.params[j]? = some t → args[j]? = some v → Value.okWide Tryd.prog W .any base t v)
    (hW : DataW.Whole enc Tryd.prog Tryd.f3.params.toList Rows.transMakesSpec.vars false W args.toList ds gs before) (hL : laidMetH Tryd.prog Rows.transMakesRow.laid W) :
    Calls Tryd.prog 3 args W fun e W' => ∃ v, e = .returned v ∧ Rows.transMakesSpec.post enc Tryd.prog Tryd.f3 false true false false W args v W' := by
  have hW' := hW
  obtain ⟨p, q, hA0, hV, rfl, hfz, hnd⟩ := hW
  have hA : DataW.TrodAll enc Tryd.prog W 0 (fun _ => true) true Tryd.f3.params.toList args.toList ds p := hA0
  rw [Tryd.params3] at hA hval
  obtain ⟨v0, vs0, d0, ds0, p0, q0, hargs, rfl, rfl, h0, r0⟩ := trodAll_cons hA
  obtain ⟨v1, vs1, d1, ds1, p1, q1, rfl, rfl, rfl, h1, r1⟩ := trodAll_cons r0
  obtain ⟨v2, vs2, d2, ds2, p2, q2, rfl, rfl, rfl, h2, r2⟩ := trodAll_cons r1
  obtain ⟨v3, vs3, d3, ds3, p3, q3, rfl, rfl, rfl, h3, r3⟩ := trodAll_cons r2
  obtain ⟨rfl, rfl, rfl⟩ := trodAll_nil r3
  obtain rfl : args = #[v0, v1, v2, v3] := by cases args; simp_all
  obtain ⟨rfl, rfl⟩ := trodVars_none hV
  obtain ⟨a0, rfl, rfl, rfl, w0⟩ := open_string Tryd.underlying9 (hval 0 9 v0 rfl rfl) h0
  obtain ⟨a1, rfl, rfl, rfl, w1⟩ := open_string Tryd.underlying9 (hval 1 9 v1 rfl rfl) h1
  obtain ⟨a2, rfl, rfl, rfl, w2⟩ := open_string Tryd.underlying9 (hval 2 9 v2 rfl rfl) h2
  obtain ⟨a3, rfl, rfl, rfl⟩ := Tr.open_map (hval 3 23 v3 rfl rfl) h3
  clear hA0
  simp only [List.append_nil] at hW'
  refine (Tr.transMakes_walk a0 a1 a2 a3 w0 w1 w2 W (table hL)).mono fun e W' ⟨he, hg⟩ => ?_
  subst he
  exact ⟨_, rfl, _, _, _, [], [], [], hW', (trodAll_cons_mk (shut_bool Tryd.underlying4 _) trodAll_mk0), (trodAll_cons_mk (shut_string Tryd.underlying9 w0) (trodAll_cons_mk (shut_string Tryd.underlying9 w1) (trodAll_cons_mk (shut_string Tryd.underlying9 w2) (trodAll_cons_mk (Tr.shut_map a3) trodAll_mk0)))), rfl, hg.frame _, fun h => by cases h⟩

def lit1 : DataW Unit → List Value
  | .lit (.int k n) => [.int k n]
  | _ => []
def lit2 : DataW Unit → List Value
  | .agg l => l.flatMap lit1
  | _ => []
def lit3 : DataW Unit → List Value
  | .agg l => l.flatMap lit2
  | _ => []
noncomputable def put (w : World) (g : Nat) (cs : List Value) : World := { w with heap := w.heap.modify g fun
      | .cells _ t frozen => .cells cs.toArray t frozen
      | o => o }
noncomputable def low : Nat := (World.holding Tryd.prog default ⟨#[], #[], []⟩).heap.size
noncomputable def laidWorld (os : Os) : World :=
  let w0 := World.holding Tryd.prog os ⟨#[.cells #[.string ⟨#[118, 97, 108, 117, 101, 32, 111, 117, 116, 32, 111, 102, 32, 114, 97, 110, 103, 101]⟩] 95, .cells #[.string ⟨#[105, 110, 118, 97, 108, 105, 100, 32, 115, 121, 110, 116, 97, 120]⟩] 95], #[], []⟩
  put (put (put (put (put w0 4 (lit2 Rows.laid_math_bits_deBruijn32tab)) 5 (lit2 Rows.laid_math_bits_deBruijn64tab)) 3 (lit2 Rows.laid_internal_strconv_uint64pow10)) 2 [.iface 93 (.pointer (some ⟨low, 0, none⟩))]) 1 [.iface 93 (.pointer (some ⟨low + 1, 0, none⟩))]

theorem laid_met (os : Os) : laidMet Tryd.prog Rows.transMakesRow.laid ((laidWorld os).forCall (fun _ _ => 0) ⟨#[], #[.string ByteArray.empty, .string ByteArray.empty, .string ByteArray.empty, .agg (Array.replicate 256 (.int .u8 0))], []⟩).memory :=
  laidMet_of_run' 8 (by kernel_rfl) (by kernel_rfl)
theorem reads (os : Os) {H : Type} (enc : TypeId × Value → H) : ∃ places, DataW.whole enc Tryd.prog ((laidWorld os).forCall (fun _ _ => 0) ⟨#[], #[.string ByteArray.empty, .string ByteArray.empty, .string ByteArray.empty, .agg (Array.replicate 256 (.int .u8 0))], []⟩).memory Tryd.f3.params.toList Rows.transMakesSpec.vars false #[Value.string ByteArray.empty, Value.string ByteArray.empty, Value.string ByteArray.empty, Value.agg (Array.replicate 256 (.int .u8 0))].toList 8 = some ([.lit (.string []), .lit (.string []), .lit (.string []), .agg (List.replicate 256 (.lit (.int .u8 0)))], [], places) :=
  ⟨[], by kernel_rfl⟩
set_option maxRecDepth 100000 in
theorem lifted (os : Os) (started : os.Started) (H : Type) (enc : TypeId × Value → H) (F : Stop.Interp) :
    ReturnsInHanded {} Tryd.checked os 3 .any ((OpenSpec.ofChange Rows.transMakesSpec).preRow enc Tryd.prog Tryd.f3 Rows.transMakesRow.domain false Rows.transMakesRow.laid) (((OpenSpec.ofChange Rows.transMakesSpec).at F).post enc Tryd.prog Tryd.f3 false true false false) := by
  obtain ⟨places, hx⟩ := reads os enc
  refine returnsInHanded_of_row (C := Tryd.checked) (s := OpenSpec.ofChange Rows.transMakesSpec) own started (by kernel_rfl) Tryd.func3
    (witness_row_at (enc := enc) (C := Tryd.checked) false (laidWorld os) #[.string ByteArray.empty, .string ByteArray.empty, .string ByteArray.empty, .agg (Array.replicate 256 (.int .u8 0))] rfl (by kernel_rfl) (by kernel_rfl) (by kernel_rfl)
      (OpenSpec.preRow_of_cond 8 hx (by kernel_rfl) (fun k hk => by cases hk) (by kernel_rfl) (laid_met os))) ?_
  intro W base args ds gs before hval hW _ _ _ hL _ _
  exact contract H enc W base args ds gs before hval hW hL

theorem said : Rows.TransMakesSaid :=
  OpenClaim.holds_of_cond 3 Tryd.f3 rfl rfl rfl rfl rfl rfl rfl ⟨rfl, rfl, rfl, rfl, rfl⟩ rfl rfl rfl rfl rfl (by kernel_rfl) Tryd.func3 (by kernel_rfl)
    (of_decide_eq_true (by kernel_rfl)) (by unfold Func.isWrapper; first | (rw [if_pos (by decide +kernel)]; kernel_rfl) | (rw [if_neg (by decide +kernel)]; exact ⟨rfl, rfl⟩))
    (fun os started H enc _ F => by rw [OpenClaim.pre_eq_preRow]; exact lifted os started H enc F)

theorem plain (f : FuncId) (fn : Func) (hf : Tryd.pinned.checked.prog.funcNamed "calender/calenderlaw10.TransMakes" = some f) (hfn : Tryd.pinned.checked.prog.funcs[f]? = some fn) :
    true = Tryd.pinned.checked.prog.looks [] ∧ ∀ (j : Nat) t, fn.params[j]? = some t → Tryd.pinned.checked.prog.wantsStandIn t = false := by
  obtain rfl : f = 3 := Option.some.inj ((show Tryd.prog.funcNamed "calender/calenderlaw10.TransMakes" = some 3 by kernel_rfl).symm.trans hf) |>.symm
  obtain rfl : fn = Tryd.f3 := (Option.some.inj (Tryd.func3.symm.trans hfn)).symm
  refine ⟨by kernel_rfl, fun j t ht => ?_⟩
  rw [Tryd.params3] at ht
  have hm : t ∈ [9, 9, 9, 23] := by simpa using Array.mem_of_getElem? ht
  simp only [List.mem_cons, List.not_mem_nil, or_false] at hm
  rcases hm with rfl | rfl | rfl | rfl
  · exact (show Tryd.prog.wantsStandIn 9 = false by kernel_rfl)
  · exact (show Tryd.prog.wantsStandIn 9 = false by kernel_rfl)
  · exact (show Tryd.prog.wantsStandIn 9 = false by kernel_rfl)
  · exact (show Tryd.prog.wantsStandIn 23 = false by kernel_rfl)
end Go.Proofs.YtpgglnibfojdgaaDoor.transMakesLaw

namespace Go.Proofs.YtpgglnibfojdgaaDoor
theorem transMakes_holds : Rows.TransMakesCardSaid :=
  Claim7.holds_tied_plain_at .later [] _ _ _ _ transMakesLaw.said (fun _ h => by cases h) (by kernel_rfl) (fun _ h => by cases h) transMakes_row_tie rfl ⟨rfl, rfl⟩ (by kernel_rfl) rfl transMakesLaw.plain (by kernel_rfl)
end Go.Proofs.YtpgglnibfojdgaaDoor
