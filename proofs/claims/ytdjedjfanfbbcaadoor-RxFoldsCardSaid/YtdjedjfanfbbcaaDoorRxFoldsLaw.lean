/- RxFolds: for every input the law returns true, and its arguments read as they did. -/
import Derived.Test.YtdjedjfanfbbcaaDoorRows
import Derived.ProofKit
import Derived.OpenShut
import Derived.ShutString
import Derived.WalkLawsBesides
import Derived.Test.YtdjedjfanfbbcaaDoorCards
import Derived.Test.YtdjedjfanfbbcaaDoorTie
import Derived.Deep.DeepHandedRow
import Derived.Lib.LaidTab
import Derived.Stop.LaidErr
import Derived.LaidSub
import Derived.Test.YtdjedjfanfbbcaaDoorRxL3
namespace Go.Proofs.YtdjedjfanfbbcaaDoor.rxFoldsLaw
open Go.ChangeShapes Go.WideShapes Go.ChangeAt Go.RowKit
open Go.ChangeMaps (open_string shut_string)
set_option linter.unusedVariables false

theorem own : ownKnob Tryd.prog.godebug = none := by kernel_rfl

theorem gSyn : Tryd.prog.globalNamed "strconv.ErrSyntax" = some 4 := by kernel_rfl
theorem gRng : Tryd.prog.globalNamed "strconv.ErrRange" = some 5 := by kernel_rfl
theorem gSynType : (Tryd.prog.globals[4]?).map (·.type) = some 65 := by kernel_rfl
theorem gRngType : (Tryd.prog.globals[5]?).map (·.type) = some 65 := by kernel_rfl
theorem cellsE : Tryd.prog.cellsOf 125 = 1 := by kernel_rfl
theorem cellsS : Tryd.prog.cellsOf 9 = 1 := by kernel_rfl
theorem star : "*" ++ "errors.errorString" = "*errors.errorString" := by decide
theorem rowE (u : TypeId) (h : Tryd.prog.typeName? 3 u = some "*errors.errorString") : u = 123 :=
  typeName_ptr_named (nm := "errors.errorString") (by rw [star]; kernel_rfl) (by kernel_rfl) (by decide) u (by rw [star]; exact h)
theorem gPow : Tryd.prog.globalNamed "internal/strconv.uint64pow10" = some 1 := by kernel_rfl
theorem gPowType : (Tryd.prog.globals[1]?).map (·.type) = some 97 := by kernel_rfl
theorem cellsPow : Tryd.prog.cellsOf 97 = 20 := by kernel_rfl
theorem cellsU64 : Tryd.prog.cellsOf 35 = 1 := by kernel_rfl
theorem isTab : (Rows.laid_internal_strconv_uint64pow10 : DataW Unit) = Lib.tabData .u64 Lib.pow10Tab := by kernel_rfl
theorem gTab : Tryd.prog.globalNamed "math/bits.deBruijn64tab" = some 0 := by kernel_rfl
theorem gTabType : (Tryd.prog.globals[0]?).map (·.type) = some 95 := by kernel_rfl
theorem cellsTab : Tryd.prog.cellsOf 95 = 64 := by kernel_rfl
theorem cellsU8 : Tryd.prog.cellsOf 5 = 1 := by kernel_rfl
theorem table {W : World} (h : laidMetH Tryd.prog Rows.rxFoldsRow.laid W) : Rx.Lay W := by
  have h0 : laidMet Tryd.prog Rows.rxFoldsRow.laid W := by
    have := (laidMetH_iff.1 h).1
    rwa [show (Rows.rxFoldsRow.laid.filter fun x => x.2.handleName?.isNone) = Rows.rxFoldsRow.laid from by kernel_rfl] at this
  have h1 := h0.tail.tail.tail
  have h2 := h0.tail.tail
  obtain ⟨a1, s1, hv1, _⟩ := laid_sentinel h1 gRng gRngType Tryd.underlying65 rowE Tryd.underlying123 Tryd.underlying125 rfl rfl Tryd.underlying9 cellsE cellsS
  obtain ⟨a0, s0, hv0, _⟩ := laid_sentinel h1.tail gSyn gSynType Tryd.underlying65 rowE Tryd.underlying123 Tryd.underlying125 rfl rfl Tryd.underlying9 cellsE cellsS
  rw [isTab] at h2
  have ht := Rx.tab_of (Lib.tabIs_of_head gTab gTabType Tryd.underlying95 Tryd.underlying5 cellsU8 cellsTab h0.tail) gTab
  exact ⟨ht.1, ht.2, Lib.tabIs_of_head gPow gPowType Tryd.underlying97 Tryd.underlying35 cellsU64 cellsPow h2,
    Rx.errs_of (by simpa using World.var?_cell gSyn hv0 0) (by simpa using World.var?_cell gRng hv1 0) (Or.inr ⟨_, _, rfl⟩) (Or.inr ⟨_, _, rfl⟩)⟩

set_option maxRecDepth 100000 in
theorem contract (H : Type) (enc : TypeId × Value → H) (W : World) (base : Nat) (args : Array Value) (ds gs : List (DataW H)) (before : List MemPlace)
    (hval : ∀ (j : Nat) t v, Tryd.f6.params[j]? = some t → args[j]? = some v → Value.okWide Tryd.prog W .any base t v)
    (hW : DataW.Whole enc Tryd.prog Tryd.f6.params.toList Rows.rxFoldsSpec.vars false W args.toList ds gs before) (hL : laidMetH Tryd.prog Rows.rxFoldsRow.laid W) :
    Calls Tryd.prog 6 args W fun e W' => ∃ v, e = .returned v ∧ Rows.rxFoldsSpec.post enc Tryd.prog Tryd.f6 false true false false W args v W' := by
  have hW' := hW
  obtain ⟨p, q, hA0, hV, rfl, hfz, hnd⟩ := hW
  have hA : DataW.TrodAll enc Tryd.prog W 0 (fun _ => true) true Tryd.f6.params.toList args.toList ds p := hA0
  rw [Tryd.params6] at hA hval
  have hAk := hA
  obtain ⟨v0, vs0, d0, ds0, p0, q0, hargs, rfl, rfl, h0, r0⟩ := trodAll_cons hA
  obtain ⟨rfl, rfl, rfl⟩ := trodAll_nil r0
  obtain rfl : args = #[v0] := by cases args; simp_all
  obtain ⟨rfl, rfl⟩ := trodVars_none hV
  obtain ⟨o0, c0, s0, rfl, m0, B0, F0⟩ := Rx.open_nodes (hval 0 22 v0 rfl rfl) h0
  clear hA0
  simp only [List.append_nil] at hW'
  refine (Rx.rxFolds_walk W (table hL) o0 c0 s0 m0 B0 F0).mono fun e W' ⟨he, hg⟩ => ?_
  subst he
  have hRd : ∀ t ∈ [22], Tryd.prog.readableRec t = true ∧ t < Tryd.prog.types.size := by
    intro t ht
    simp only [List.mem_cons, List.not_mem_nil, or_false] at ht
    subst ht
    exact ⟨by kernel_rfl, of_decide_eq_true (by kernel_rfl)⟩
  exact ⟨_, rfl, _, _, _, [], _, [], hW', (trodAll_cons_mk (shut_bool Tryd.underlying4 _) trodAll_mk0), Rx.carryAll hg hRd hAk (fun x hx => hW'.lt x (by simpa using hx)), rfl, hg.frame _, fun h => by cases h⟩

def lit1 : DataW Unit → List Value
  | .lit (.int k n) => [.int k n]
  | _ => []
def lit2 : DataW Unit → List Value
  | .agg l => l.flatMap lit1
  | _ => []
def lit3 : DataW Unit → List Value
  | .agg l => l.flatMap lit2
  | _ => []
noncomputable def put (w : World) (g : Nat) (cs : List Value) : World := { w with heap := w.heap.modify g fun
      | .cells _ t frozen => .cells cs.toArray t frozen
      | o => o }
noncomputable def low : Nat := (World.holding Tryd.prog default ⟨#[], #[], []⟩).heap.size
noncomputable def laidWorld (os : Os) : World :=
  let w0 := World.holding Tryd.prog os ⟨#[.cells #[.string ⟨#[118, 97, 108, 117, 101, 32, 111, 117, 116, 32, 111, 102, 32, 114, 97, 110, 103, 101]⟩] 125, .cells #[.string ⟨#[105, 110, 118, 97, 108, 105, 100, 32, 115, 121, 110, 116, 97, 120]⟩] 125], #[], []⟩
  put (put (put (put (put w0 3 (lit2 Rows.laid_math_bits_deBruijn32tab)) 0 (lit2 Rows.laid_math_bits_deBruijn64tab)) 1 (lit2 Rows.laid_internal_strconv_uint64pow10)) 5 [.iface 123 (.pointer (some ⟨low, 0, none⟩))]) 4 [.iface 123 (.pointer (some ⟨low + 1, 0, none⟩))]

theorem laid_met (os : Os) : laidMet Tryd.prog Rows.rxFoldsRow.laid ((laidWorld os).forCall (fun _ _ => 0) ⟨#[], #[.slice none 0 0], []⟩).memory :=
  laidMet_of_run' 8 (by kernel_rfl) (by kernel_rfl)
theorem reads (os : Os) {H : Type} (enc : TypeId × Value → H) : ∃ places, DataW.whole enc Tryd.prog ((laidWorld os).forCall (fun _ _ => 0) ⟨#[], #[.slice none 0 0], []⟩).memory Tryd.f6.params.toList Rows.rxFoldsSpec.vars false #[(.slice none 0 0 : Value)].toList 8 = some ([.nil], [], places) :=
  ⟨[], by kernel_rfl⟩
set_option maxRecDepth 100000 in
theorem lifted (os : Os) (started : os.Started) (H : Type) (enc : TypeId × Value → H) (F : Stop.Interp) :
    ReturnsInHanded {} Tryd.checked os 6 .any ((OpenSpec.ofChange Rows.rxFoldsSpec).preRow enc Tryd.prog Tryd.f6 Rows.rxFoldsRow.domain false Rows.rxFoldsRow.laid) (((OpenSpec.ofChange Rows.rxFoldsSpec).at F).post enc Tryd.prog Tryd.f6 false true false false) := by
  obtain ⟨places, hx⟩ := reads os enc
  refine returnsInHanded_of_row (C := Tryd.checked) (s := OpenSpec.ofChange Rows.rxFoldsSpec) own started (by kernel_rfl) Tryd.func6
    (witness_row_at (enc := enc) (C := Tryd.checked) false (laidWorld os) #[.slice none 0 0] rfl (by kernel_rfl) (by kernel_rfl) (by kernel_rfl)
      (OpenSpec.preRow_of_cond 8 hx (by kernel_rfl) (fun k hk => by cases hk) (by kernel_rfl) (laid_met os))) ?_
  intro W base args ds gs before hval hW _ _ _ hL _ _
  exact contract H enc W base args ds gs before hval hW hL

theorem said : Rows.RxFoldsSaid :=
  OpenClaim.holds_of_cond 6 Tryd.f6 rfl rfl rfl rfl rfl rfl rfl ⟨rfl, rfl, rfl, rfl, rfl⟩ rfl rfl rfl rfl rfl (by kernel_rfl) Tryd.func6 (by kernel_rfl)
    (of_decide_eq_true (by kernel_rfl)) (by unfold Func.isWrapper; first | (rw [if_pos (by decide +kernel)]; kernel_rfl) | (rw [if_neg (by decide +kernel)]; exact ⟨rfl, rfl⟩))
    (fun os started H enc _ F => by rw [OpenClaim.pre_eq_preRow]; exact lifted os started H enc F)

theorem plain (f : FuncId) (fn : Func) (hf : Tryd.pinned.checked.prog.funcNamed "calender/calenderlaw03.RxFolds" = some f) (hfn : Tryd.pinned.checked.prog.funcs[f]? = some fn) :
    true = Tryd.pinned.checked.prog.looks [] ∧ ∀ (j : Nat) t, fn.params[j]? = some t → Tryd.pinned.checked.prog.wantsStandIn t = false := by
  obtain rfl : f = 6 := Option.some.inj ((show Tryd.prog.funcNamed "calender/calenderlaw03.RxFolds" = some 6 by kernel_rfl).symm.trans hf) |>.symm
  obtain rfl : fn = Tryd.f6 := (Option.some.inj (Tryd.func6.symm.trans hfn)).symm
  refine ⟨by kernel_rfl, fun j t ht => ?_⟩
  rw [Tryd.params6] at ht
  have hm : t ∈ [22] := by simpa using Array.mem_of_getElem? ht
  simp only [List.mem_cons, List.not_mem_nil, or_false] at hm
  subst hm
  exact (show Tryd.prog.wantsStandIn 22 = false by kernel_rfl)
end Go.Proofs.YtdjedjfanfbbcaaDoor.rxFoldsLaw

namespace Go.Proofs.YtdjedjfanfbbcaaDoor
theorem rxFolds_holds : Rows.RxFoldsCardSaid :=
  Claim7.holds_tied_plain_at .later [] _ _ _ _ rxFoldsLaw.said (fun _ h => by cases h) (by kernel_rfl) (fun _ h => by cases h) rxFolds_row_tie rfl ⟨rfl, rfl⟩ (by kernel_rfl) rfl rxFoldsLaw.plain (by kernel_rfl)
end Go.Proofs.YtdjedjfanfbbcaaDoor
