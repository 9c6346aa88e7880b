/- AddrTells: for every input the law returns true, and its arguments read as they did. -/
import Derived.Test.YtcijhfdccbgcpaaDoorRows
import Derived.ProofKit
import Derived.OpenShut
import Derived.ShutString
import Derived.WalkLawsBesides
import Derived.Test.YtcijhfdccbgcpaaDoorCards
import Derived.Test.YtcijhfdccbgcpaaDoorTie
import Derived.Deep.DeepHandedRow
import Derived.Lib.LaidTab
import Derived.Stop.LaidErr
import Derived.LaidSub
import Derived.Test.YtcijhfdccbgcpaaDoorAdL6
namespace Go.Proofs.YtcijhfdccbgcpaaDoor.addrTellsLaw
open Go.ChangeShapes Go.WideShapes Go.ChangeAt Go.RowKit
open Go.ChangeMaps (open_string shut_string)
set_option linter.unusedVariables false

theorem own : ownKnob Tryd.prog.godebug = none := by kernel_rfl

theorem gSyn : Tryd.prog.globalNamed "strconv.ErrSyntax" = some 1 := by kernel_rfl
theorem gRng : Tryd.prog.globalNamed "strconv.ErrRange" = some 2 := by kernel_rfl
theorem gSynType : (Tryd.prog.globals[1]?).map (·.type) = some 77 := by kernel_rfl
theorem gRngType : (Tryd.prog.globals[2]?).map (·.type) = some 77 := by kernel_rfl
theorem cellsE : Tryd.prog.cellsOf 143 = 1 := by kernel_rfl
theorem cellsS : Tryd.prog.cellsOf 9 = 1 := by kernel_rfl
theorem star : "*" ++ "errors.errorString" = "*errors.errorString" := by decide
theorem rowE (u : TypeId) (h : Tryd.prog.typeName? 3 u = some "*errors.errorString") : u = 141 :=
  typeName_ptr_named (nm := "errors.errorString") (by rw [star]; kernel_rfl) (by kernel_rfl) (by decide) u (by rw [star]; exact h)
theorem gTab : Tryd.prog.globalNamed "internal/strconv.uint64pow10" = some 3 := by kernel_rfl
theorem gTabType : (Tryd.prog.globals[3]?).map (·.type) = some 130 := by kernel_rfl
theorem cellsTab : Tryd.prog.cellsOf 130 = 20 := by kernel_rfl
theorem cellsU64 : Tryd.prog.cellsOf 88 = 1 := by kernel_rfl
theorem isTab : (Rows.laid_internal_strconv_uint64pow10 : DataW Unit) = Lib.tabData .u64 Lib.pow10Tab := by kernel_rfl
theorem table {W : World} (h : laidMetH Tryd.prog Rows.addrTellsRow.laid W) : Ad.Lay W := by
  have h0 : laidMet Tryd.prog Rows.addrTellsRow.laid W := by
    have := (laidMetH_iff.1 h).1
    rwa [show (Rows.addrTellsRow.laid.filter fun x => x.2.handleName?.isNone) = Rows.addrTellsRow.laid from by kernel_rfl] at this
  have h1 := h0.tail.tail.tail.tail
  have h2 := h0.tail.tail
  obtain ⟨a1, s1, hv1, _⟩ := laid_sentinel h1 gRng gRngType Tryd.underlying77 rowE Tryd.underlying141 Tryd.underlying143 rfl rfl Tryd.underlying9 cellsE cellsS
  obtain ⟨a0, s0, hv0, _⟩ := laid_sentinel h1.tail gSyn gSynType Tryd.underlying77 rowE Tryd.underlying141 Tryd.underlying143 rfl rfl Tryd.underlying9 cellsE cellsS
  rw [isTab] at h2
  exact ⟨Lib.tabIs_of_head gTab gTabType Tryd.underlying130 Tryd.underlying88 cellsU64 cellsTab h2,
    ⟨_, by simpa using World.var?_cell gSyn hv0 0, Or.inr ⟨_, _, rfl⟩⟩, ⟨_, by simpa using World.var?_cell gRng hv1 0, Or.inr ⟨_, _, rfl⟩⟩⟩

set_option maxRecDepth 100000 in
theorem contract (H : Type) (enc : TypeId × Value → H) (W : World) (base : Nat) (args : Array Value) (ds gs : List (DataW H)) (before : List MemPlace)
    (hval : ∀ (j : Nat) t v, Tryd.f3.params[j]? = some t → args[j]? = some v → Value.okWide Tryd.prog W .any base t v)
    (hW : DataW.Whole enc Tryd.prog Tryd.f3.params.toList Rows.addrTellsSpec.vars false W args.toList ds gs before) (hL : laidMetH Tryd.prog Rows.addrTellsRow.laid W) :
    Calls Tryd.prog 3 args W fun e W' => ∃ v, e = .returned v ∧ Rows.addrTellsSpec.post enc Tryd.prog Tryd.f3 false true false false W args v W' := by
  have hW' := hW
  obtain ⟨p, q, hA0, hV, rfl, hfz, hnd⟩ := hW
  have hA : DataW.TrodAll enc Tryd.prog W 0 (fun _ => true) true Tryd.f3.params.toList args.toList ds p := hA0
  rw [Tryd.params3] at hA hval
  have hAk := hA
  obtain ⟨v0, vs0, d0, ds0, p0, q0, hargs, rfl, rfl, h0, r0⟩ := trodAll_cons hA
  obtain ⟨v1, vs1, d1, ds1, p1, q1, rfl, rfl, rfl, h1, r1⟩ := trodAll_cons r0
  obtain ⟨rfl, rfl, rfl⟩ := trodAll_nil r1
  obtain rfl : args = #[v0, v1] := by cases args; simp_all
  obtain ⟨rfl, rfl⟩ := trodVars_none hV
  obtain ⟨a0, b0, n0, rfl⟩ := Ad.open_range (hval 0 25 v0 rfl rfl) h0
  obtain ⟨a1, rfl, rfl, rfl, w1⟩ := open_string Tryd.underlying9 (hval 1 9 v1 rfl rfl) h1
  clear hA0
  simp only [List.append_nil] at hW'
  refine (Ad.addrTells_walk W (table hL) a0 b0 n0 a1 w1).mono fun e W' ⟨he, hg⟩ => ?_
  subst he
  have hRd : ∀ t ∈ [25, 9], Tryd.prog.readableRec t = true ∧ t < Tryd.prog.types.size := by
    intro t ht
    simp only [List.mem_cons, List.not_mem_nil, or_false] at ht
    rcases ht with rfl | rfl
    · exact ⟨by kernel_rfl, of_decide_eq_true (by kernel_rfl)⟩
    · exact ⟨by kernel_rfl, of_decide_eq_true (by kernel_rfl)⟩
  exact ⟨_, rfl, _, _, _, [], _, [], hW', (trodAll_cons_mk (shut_bool Tryd.underlying4 _) trodAll_mk0), Ad.carryAll hg hRd hAk (fun x hx => hW'.lt x (by simpa using hx)), rfl, hg.frame _, fun h => by cases h⟩

def lit1 : DataW Unit → List Value
  | .lit (.int k n) => [.int k n]
  | _ => []
def lit2 : DataW Unit → List Value
  | .agg l => l.flatMap lit1
  | _ => []
def lit3 : DataW Unit → List Value
  | .agg l => l.flatMap lit2
  | _ => []
noncomputable def low : Nat := (World.holding Tryd.prog default ⟨#[], #[], []⟩).heap.size
noncomputable def put (w : World) (g : Nat) (cs : List Value) : World := { w with heap := w.heap.modify g fun
      | .cells _ t frozen => .cells cs.toArray t frozen
      | o => o }
noncomputable def laidWorld (os : Os) : World :=
  let w0 := World.holding Tryd.prog os ⟨#[.cells #[.string ⟨#[118, 97, 108, 117, 101, 32, 111, 117, 116, 32, 111, 102, 32, 114, 97, 110, 103, 101]⟩] 143, .cells #[.string ⟨#[105, 110, 118, 97, 108, 105, 100, 32, 115, 121, 110, 116, 97, 120]⟩] 143], #[], []⟩
  put (put (put (put (put (put (put w0 6 (lit2 Rows.laid_math_bits_deBruijn32tab)) 7 (lit2 Rows.laid_math_bits_deBruijn64tab)) 3 (lit2 Rows.laid_internal_strconv_uint64pow10)) 5 (lit3 Rows.laid_unicode_utf8_acceptRanges)) 2 [.iface 141 (.pointer (some ⟨low, 0, none⟩))]) 1 [.iface 141 (.pointer (some ⟨low + 1, 0, none⟩))]) 4 (lit2 Rows.laid_unicode_utf8_first)

theorem laid_met (os : Os) : laidMet Tryd.prog Rows.addrTellsRow.laid ((laidWorld os).forCall (fun _ _ => 0) ⟨#[], #[.agg #[.int .i64 0, .int .i64 0, .int .i64 0, .int .i64 0, .int .i64 0, .int .i64 0, .bool false], .string ByteArray.empty], []⟩).memory :=
  laidMet_of_run' 8 (by kernel_rfl) (by kernel_rfl)
theorem reads (os : Os) {H : Type} (enc : TypeId × Value → H) : ∃ places, DataW.whole enc Tryd.prog ((laidWorld os).forCall (fun _ _ => 0) ⟨#[], #[.agg #[.int .i64 0, .int .i64 0, .int .i64 0, .int .i64 0, .int .i64 0, .int .i64 0, .bool false], .string ByteArray.empty], []⟩).memory Tryd.f3.params.toList Rows.addrTellsSpec.vars false #[(.agg #[.int .i64 0, .int .i64 0, .int .i64 0, .int .i64 0, .int .i64 0, .int .i64 0, .bool false] : Value), Value.string ByteArray.empty].toList 8 = some ([.agg [.agg [.lit (.int .i64 0), .lit (.int .i64 0), .lit (.int .i64 0)], .agg [.lit (.int .i64 0), .lit (.int .i64 0), .lit (.int .i64 0)], .lit (.bool false)], .lit (.string [])], [], places) :=
  ⟨[], by kernel_rfl⟩
set_option maxRecDepth 100000 in
theorem lifted (os : Os) (started : os.Started) (H : Type) (enc : TypeId × Value → H) (F : Stop.Interp) :
    ReturnsInHanded {} Tryd.checked os 3 .any ((OpenSpec.ofChange Rows.addrTellsSpec).preRow enc Tryd.prog Tryd.f3 Rows.addrTellsRow.domain false Rows.addrTellsRow.laid) (((OpenSpec.ofChange Rows.addrTellsSpec).at F).post enc Tryd.prog Tryd.f3 false true false false) := by
  obtain ⟨places, hx⟩ := reads os enc
  refine returnsInHanded_of_row (C := Tryd.checked) (s := OpenSpec.ofChange Rows.addrTellsSpec) own started (by kernel_rfl) Tryd.func3
    (witness_row_at (enc := enc) (C := Tryd.checked) false (laidWorld os) #[.agg #[.int .i64 0, .int .i64 0, .int .i64 0, .int .i64 0, .int .i64 0, .int .i64 0, .bool false], .string ByteArray.empty] rfl (by kernel_rfl) (by kernel_rfl) (by kernel_rfl)
      (OpenSpec.preRow_of_cond 8 hx (by kernel_rfl) (fun k hk => by cases hk) (by kernel_rfl) (laid_met os))) ?_
  intro W base args ds gs before hval hW _ _ _ hL _ _
  exact contract H enc W base args ds gs before hval hW hL

theorem said : Rows.AddrTellsSaid :=
  OpenClaim.holds_of_cond 3 Tryd.f3 rfl rfl rfl rfl rfl rfl rfl ⟨rfl, rfl, rfl, rfl, rfl⟩ rfl rfl rfl rfl rfl (by kernel_rfl) Tryd.func3 (by kernel_rfl)
    (of_decide_eq_true (by kernel_rfl)) (by unfold Func.isWrapper; first | (rw [if_pos (by decide +kernel)]; kernel_rfl) | (rw [if_neg (by decide +kernel)]; exact ⟨rfl, rfl⟩))
    (fun os started H enc _ F => by rw [OpenClaim.pre_eq_preRow]; exact lifted os started H enc F)

theorem plain (f : FuncId) (fn : Func) (hf : Tryd.pinned.checked.prog.funcNamed "calender/calenderlaw11.AddrTells" = some f) (hfn : Tryd.pinned.checked.prog.funcs[f]? = some fn) :
    true = Tryd.pinned.checked.prog.looks [] ∧ ∀ (j : Nat) t, fn.params[j]? = some t → Tryd.pinned.checked.prog.wantsStandIn t = false := by
  obtain rfl : f = 3 := Option.some.inj ((show Tryd.prog.funcNamed "calender/calenderlaw11.AddrTells" = some 3 by kernel_rfl).symm.trans hf) |>.symm
  obtain rfl : fn = Tryd.f3 := (Option.some.inj (Tryd.func3.symm.trans hfn)).symm
  refine ⟨by kernel_rfl, fun j t ht => ?_⟩
  rw [Tryd.params3] at ht
  have hm : t ∈ [25, 9] := by simpa using Array.mem_of_getElem? ht
  simp only [List.mem_cons, List.not_mem_nil, or_false] at hm
  rcases hm with rfl | rfl
  · exact (show Tryd.prog.wantsStandIn 25 = false by kernel_rfl)
  · exact (show Tryd.prog.wantsStandIn 9 = false by kernel_rfl)
end Go.Proofs.YtcijhfdccbgcpaaDoor.addrTellsLaw

namespace Go.Proofs.YtcijhfdccbgcpaaDoor
theorem addrTells_holds : Rows.AddrTellsCardSaid :=
  Claim7.holds_tied_plain_at .later [] _ _ _ _ addrTellsLaw.said (fun _ h => by cases h) (by kernel_rfl) (fun _ h => by cases h) addrTells_row_tie rfl ⟨rfl, rfl⟩ (by kernel_rfl) rfl addrTellsLaw.plain (by kernel_rfl)
end Go.Proofs.YtcijhfdccbgcpaaDoor
