/- SubstNth: for every input the law returns true, and its arguments read as they did. -/
import Derived.Test.YtinallojhkaogaaGreatDoorRows
import Derived.ProofKit
import Derived.OpenShut
import Derived.ShutString
import Derived.WalkLawsBesides
import Derived.Test.YtinallojhkaogaaGreatDoorCards
import Derived.Test.YtinallojhkaogaaGreatDoorTie
import Derived.Deep.DeepHandedRow
import Derived.Lib.LaidTab
import Derived.Stop.LaidErr
import Derived.LaidSub
import Derived.Test.YtinallojhkaogaaGreatDoorHk15
import Derived.Test.YtinallojhkaogaaGreatDoorSbLaw2Pk
namespace Go.Proofs.YtinallojhkaogaaGreatDoor.substNthLaw
open Go.ChangeShapes Go.WideShapes Go.ChangeAt Go.RowKit
open Go.ChangeMaps (open_string shut_string)
set_option linter.unusedVariables false

theorem own:ownKnob Tryz.prog.godebug = none:=by kernel_rfl

theorem gSyn:Tryz.prog.globalNamed "strconv.ErrSyntax" = some 3:=by kernel_rfl
theorem gRng:Tryz.prog.globalNamed "strconv.ErrRange" = some 4:=by kernel_rfl
theorem gSynType:(Tryz.prog.globals[3]?).map (·.type) = some 100:=by kernel_rfl
theorem gRngType:(Tryz.prog.globals[4]?).map (·.type) = some 100:=by kernel_rfl
theorem cellsE:Tryz.prog.cellsOf 289 = 1:=by kernel_rfl
theorem cellsS:Tryz.prog.cellsOf 9 = 1:=by kernel_rfl
theorem star : "*" ++ "errors.errorString" = "*errors.errorString" := by decide
theorem rowE (u:TypeId) (h:Tryz.prog.typeName? 3 u = some "*errors.errorString"):u = 287 :=
  typeName_ptr_named (nm := "errors.errorString") (by rw [star];kernel_rfl) (by kernel_rfl) (by decide) u (by rw [star];exact h)
theorem gPow:Tryz.prog.globalNamed "internal/strconv.uint64pow10" = some 1:=by kernel_rfl
theorem gPowType:(Tryz.prog.globals[1]?).map (·.type) = some 253:=by kernel_rfl
theorem cellsPow:Tryz.prog.cellsOf 253 = 20:=by kernel_rfl
theorem cellsU64:Tryz.prog.cellsOf 68 = 1:=by kernel_rfl
theorem isTab:(Rows.laid_internal_strconv_uint64pow10:DataW Unit) = Lib.tabData .u64 Lib.pow10Tab:=by kernel_rfl
theorem gTab:Tryz.prog.globalNamed "math/bits.deBruijn64tab" = some 2:=by kernel_rfl
theorem gTabType:(Tryz.prog.globals[2]?).map (·.type) = some 266:=by kernel_rfl
theorem cellsTab:Tryz.prog.cellsOf 266 = 64:=by kernel_rfl
theorem cellsU8:Tryz.prog.cellsOf 5 = 1:=by kernel_rfl
theorem table {W:World} (h:laidMetH Tryz.prog Rows.substNthRow.laid W):Rx.Lay W:=by
  have h0:laidMet Tryz.prog Rows.substNthRow.laid W:=by
    have:=(laidMetH_iff.1 h).1
    rwa [show (Rows.substNthRow.laid.filter fun x=>x.2.handleName?.isNone) = Rows.substNthRow.laid from by kernel_rfl] at this
  have h1:=h0.tail.tail.tail
  have h2:=h0.tail.tail
  obtain ⟨a1,s1,hv1,_⟩:=laid_sentinel h1 gRng gRngType Tryz.underlying100 rowE Tryz.underlying287 Tryz.underlying289 rfl rfl Tryz.underlying9 cellsE cellsS
  obtain ⟨a0,s0,hv0,_⟩:=laid_sentinel h1.tail gSyn gSynType Tryz.underlying100 rowE Tryz.underlying287 Tryz.underlying289 rfl rfl Tryz.underlying9 cellsE cellsS
  rw [isTab] at h2
  have ht:=Rx.tab_of (Lib.tabIs_of_head gTab gTabType Tryz.underlying266 Tryz.underlying5 cellsU8 cellsTab h0.tail) gTab
  exact ⟨ht.1,ht.2,Lib.tabIs_of_head gPow gPowType Tryz.underlying253 Tryz.underlying68 cellsU64 cellsPow h2,
    Rx.errs_of (by simpa using World.var?_cell gSyn hv0 0) (by simpa using World.var?_cell gRng hv1 0) (Or.inr ⟨_,_,rfl⟩) (Or.inr ⟨_,_,rfl⟩)⟩

set_option maxRecDepth 100000 in
theorem contract (H:Type) (enc:TypeId × Value → H) (W:World) (base:Nat) (args:Array Value) (ds gs:List (DataW H)) (before:List MemPlace)
    (hval:∀ (j:Nat) t v,Tryz.f6.params[j]? = some t → args[j]? = some v → Value.okWide Tryz.prog W .any base t v)
    (hW:DataW.Whole enc Tryz.prog Tryz.f6.params.toList Rows.substNthSpec.vars false W args.toList ds gs before) (hL:laidMetH Tryz.prog Rows.substNthRow.laid W) :
    Calls Tryz.prog 6 args W fun e W'=>∃ v,e = .returned v ∧ Rows.substNthSpec.post enc Tryz.prog Tryz.f6 false true false false W args v W':=by
  have hW':=hW
  obtain ⟨p,q,hA0,hV,rfl,hfz,hnd⟩:=hW
  have hA:DataW.TrodAll enc Tryz.prog W 0 (fun _=>true) true Tryz.f6.params.toList args.toList ds p:=hA0
  rw [Tryz.params6] at hA hval
  have hAk:=hA
  obtain ⟨v0,vs0,d0,ds0,p0,q0,hargs,rfl,rfl,h0,r0⟩:=trodAll_cons hA
  obtain ⟨v1,vs1,d1,ds1,p1,q1,rfl,rfl,rfl,h1,r1⟩:=trodAll_cons r0
  obtain ⟨v2,vs2,d2,ds2,p2,q2,rfl,rfl,rfl,h2,r2⟩:=trodAll_cons r1
  obtain ⟨rfl,rfl,rfl⟩:=trodAll_nil r2
  obtain rfl:args = #[v0,v1,v2]:=by cases args;simp_all
  obtain ⟨rfl,rfl⟩:=trodVars_none hV
  obtain ⟨o0,c0,s0,rfl,m0,B0,F0⟩:=Rx.open_nodes (hval 0 22 v0 rfl rfl) h0
  obtain ⟨a1,rfl,rfl,rfl,w1⟩:=open_string Tryz.underlying9 (hval 1 9 v1 rfl rfl) h1
  obtain ⟨a2,rfl,rfl,rfl,w2⟩:=open_int Tryz.underlying5 (hval 2 5 v2 rfl rfl) h2
  clear hA0
  simp only [List.append_nil] at hW'
  refine (Mt.substNth_walk W (table hL) o0 c0 s0 m0 B0 F0 a1 w1 a2 w2).mono fun e W' ⟨he,hg⟩=>?_
  subst he
  have hRd:∀ t ∈ [22,9,5],Tryz.prog.readableRec t = true ∧ t < Tryz.prog.types.size:=by
    intro t ht
    simp only [List.mem_cons,List.not_mem_nil,or_false] at ht
    rcases ht with rfl | rfl | rfl
    · exact ⟨by kernel_rfl,of_decide_eq_true (by kernel_rfl)⟩
    · exact ⟨by kernel_rfl,of_decide_eq_true (by kernel_rfl)⟩
    · exact ⟨by kernel_rfl,of_decide_eq_true (by kernel_rfl)⟩
  exact ⟨_,rfl,_,_,_,[],_,[],hW',(trodAll_cons_mk (shut_bool Tryz.underlying4 _) trodAll_mk0),Rx.carryAll hg hRd hAk (fun x hx=>hW'.lt x (by simpa using hx)),rfl,hg.frame _,fun h=>by cases h⟩

def lit1:DataW Unit → List Value
  | .lit (.int k n)=>[.int k n]
  | _=>[]
def lit2:DataW Unit → List Value
  | .agg l=>l.flatMap lit1
  | _=>[]
def lit3:DataW Unit → List Value
  | .agg l=>l.flatMap lit2
  | _=>[]
noncomputable def put (w:World) (g:Nat) (cs:List Value):World:={ w with heap:=w.heap.modify g fun
      | .cells _ t frozen=>.cells cs.toArray t frozen
      | o=>o }
noncomputable def low:Nat:=(World.holding Tryz.prog default ⟨#[],#[],[]⟩).heap.size
noncomputable def laidWorld (os:Os):World :=
  let w0:=World.holding Tryz.prog os ⟨#[.cells #[.string ⟨#[118,97,108,117,101,32,111,117,116,32,111,102,32,114,97,110,103,101]⟩] 289,.cells #[.string ⟨#[105,110,118,97,108,105,100,32,115,121,110,116,97,120]⟩] 289],#[],[]⟩
  put (put (put (put (put w0 5 (lit2 Rows.laid_math_bits_deBruijn32tab)) 2 (lit2 Rows.laid_math_bits_deBruijn64tab)) 1 (lit2 Rows.laid_internal_strconv_uint64pow10)) 4 [.iface 287 (.pointer (some ⟨low,0,none⟩))]) 3 [.iface 287 (.pointer (some ⟨low + 1,0,none⟩))]

theorem laid_met (os:Os):laidMet Tryz.prog Rows.substNthRow.laid ((laidWorld os).forCall (fun _ _=>0) ⟨#[],#[.slice none 0 0,.string ByteArray.empty,.int .u8 0],[]⟩).memory :=
  laidMet_of_run' 8 (by kernel_rfl) (by kernel_rfl)
theorem reads (os:Os) {H:Type} (enc:TypeId × Value → H):∃ places,DataW.whole enc Tryz.prog ((laidWorld os).forCall (fun _ _=>0) ⟨#[],#[.slice none 0 0,.string ByteArray.empty,.int .u8 0],[]⟩).memory Tryz.f6.params.toList Rows.substNthSpec.vars false #[(.slice none 0 0:Value),Value.string ByteArray.empty,Value.int .u8 0].toList 8 = some ([.nil,.lit (.string []),.lit (.int .u8 0)],[],places) :=
  ⟨[],by kernel_rfl⟩
set_option maxRecDepth 100000 in
theorem lifted (os:Os) (started:os.Started) (H:Type) (enc:TypeId × Value → H) (F:Stop.Interp) :
    ReturnsInHanded {} Tryz.checked os 6 .any ((OpenSpec.ofChange Rows.substNthSpec).preRow enc Tryz.prog Tryz.f6 Rows.substNthRow.domain false Rows.substNthRow.laid) (((OpenSpec.ofChange Rows.substNthSpec).at F).post enc Tryz.prog Tryz.f6 false true false false):=by
  obtain ⟨places,hx⟩:=reads os enc
  refine returnsInHanded_of_row (C:=Tryz.checked) (s:=OpenSpec.ofChange Rows.substNthSpec) own started (by kernel_rfl) Tryz.func6
    (witness_row_at (enc:=enc) (C:=Tryz.checked) false (laidWorld os) #[.slice none 0 0,.string ByteArray.empty,.int .u8 0] rfl (by kernel_rfl) (by kernel_rfl) (by kernel_rfl)
      (OpenSpec.preRow_of_cond 8 hx (by kernel_rfl) (fun k hk=>by cases hk) (by kernel_rfl) (laid_met os))) ?_
  intro W base args ds gs before hval hW _ _ _ hL _ _
  exact contract H enc W base args ds gs before hval hW hL

theorem said:Rows.SubstNthSaid :=
  OpenClaim.holds_of_cond 6 Tryz.f6 rfl rfl rfl rfl rfl rfl rfl ⟨rfl,rfl,rfl,rfl,rfl⟩ rfl rfl rfl rfl rfl (by kernel_rfl) Tryz.func6 (by kernel_rfl)
    (of_decide_eq_true (by kernel_rfl)) (by unfold Func.isWrapper;first | (rw [if_pos (by decide +kernel)];kernel_rfl) | (rw [if_neg (by decide +kernel)];exact ⟨rfl,rfl⟩))
    (fun os started H enc _ F=>by rw [OpenClaim.pre_eq_preRow];exact lifted os started H enc F)

theorem plain (f:FuncId) (fn:Func) (hf:Tryz.pinned.checked.prog.funcNamed "calender/calenderlaw09.SubstNth" = some f) (hfn:Tryz.pinned.checked.prog.funcs[f]? = some fn) :
    true = Tryz.pinned.checked.prog.looks [] ∧ ∀ (j:Nat) t,fn.params[j]? = some t → Tryz.pinned.checked.prog.wantsStandIn t = false:=by
  obtain rfl:f = 6:=Option.some.inj ((show Tryz.prog.funcNamed "calender/calenderlaw09.SubstNth" = some 6 by kernel_rfl).symm.trans hf) |>.symm
  obtain rfl:fn = Tryz.f6:=(Option.some.inj (Tryz.func6.symm.trans hfn)).symm
  refine ⟨by kernel_rfl,fun j t ht=>?_⟩
  rw [Tryz.params6] at ht
  have hm:t ∈ [22,9,5]:=by simpa using Array.mem_of_getElem? ht
  simp only [List.mem_cons,List.not_mem_nil,or_false] at hm
  rcases hm with rfl | rfl | rfl
  · exact (show Tryz.prog.wantsStandIn 22 = false by kernel_rfl)
  · exact (show Tryz.prog.wantsStandIn 9 = false by kernel_rfl)
  · exact (show Tryz.prog.wantsStandIn 5 = false by kernel_rfl)
end Go.Proofs.YtinallojhkaogaaGreatDoor.substNthLaw

namespace Go.Proofs.YtinallojhkaogaaGreatDoor
theorem substNth_holds:Rows.SubstNthCardSaid :=
  Claim7.holds_tied_plain_at .later [] _ _ _ _ substNthLaw.said (fun _ h=>by cases h) (by kernel_rfl) (fun _ h=>by cases h) substNth_row_tie rfl ⟨rfl,rfl⟩ (by kernel_rfl) rfl substNthLaw.plain (by kernel_rfl)
end Go.Proofs.YtinallojhkaogaaGreatDoor
