/- A map of bytes as a parameter. -/
import Derived.Test.YtpgglnibfojdgaaDoorTrLay
import Derived.ProofKit
import Derived.OpenShut
namespace Go.Proofs.YtpgglnibfojdgaaDoor.Tr
open Go.RowKit Go.ChangeShapes Go.WideShapes
set_option linter.unusedVariables false
set_option linter.unusedSimpArgs false
theorem cellsB : Tryd.prog.cellsOf 5 = 1 := by kernel_rfl
theorem cellsMap : Tryd.prog.cellsOf 23 = 256 := by kernel_rfl
def dataMap {H : Type} (f : MF) : DataW H := .agg ((List.range 256).map fun j => .lit (.int .u8 ((f j).toNat : Int)))
theorem mapM_some {α β : Type} {f : α → Option β} {g : α → β} : ∀ (l : List α), (∀ a ∈ l, f a = some (g a)) → l.mapM f = some (l.map g)
  | [], _ => rfl
  | a :: r, h => by rw [List.mapM_cons, h a (by simp), mapM_some r (fun b hb => h b (by simp [hb]))]; rfl
theorem byte_wf (c : UInt8) : (Lit.int .u8 (c.toNat : Int)).wf = true := by
  have := UInt8.toNat_lt c
  simp [Lit.wf, IntKind.min, IntKind.max, IntKind.signed, IntKind.bits]; omega
theorem flat_none {α β : Type} : ∀ l : List α, (l.flatMap fun _ => ([] : List β)) = []
  | [] => rfl
  | _ :: r => by rw [List.flatMap_cons, flat_none r]; rfl
theorem open_map {H : Type} {enc : TypeId × Value → H} {w : World} {base : Nat} {spare : Nat → Bool} {held : Bool} {r : Reach} {b0 : Nat} {v : Value} {d : DataW H} {ps : List MemPlace} (hval : Value.okWide Tryd.prog w r b0 23 v)
    (hd : DataW.Trod enc Tryd.prog w base spare held 23 v d ps) : ∃ f : MF, v = MV f ∧ d = dataMap f ∧ ps = [] := by
  have hv : ∃ cs : Array Value, v = .agg cs ∧ cs.size = Tryd.prog.cellsOf 23 := by
    simp only [Value.okWide, Tryd.underlying23] at hval
    obtain ⟨cs, h1, h2, _⟩ := hval
    exact ⟨cs, h1, h2⟩
  obtain ⟨cs, rfl, hs⟩ := hv
  rw [cellsMap] at hs
  obtain ⟨fuel, hf⟩ := hd
  have hcs : (Value.agg cs).cells = cs := rfl
  cases fuel with
  | zero => simp [DataW.trod] at hf
  | succ fuel =>
    simp only [DataW.trod, Tryd.underlying23, cellsB, cellsMap, Nat.mul_one] at hf
    split at hf
    · obtain ⟨xs, hm, hx⟩ := Option.map_eq_some_iff.1 hf
      have hxl : xs.length = 256 := by simpa using Go.Lib.mapM_length hm
      have hat : ∀ i, i < 256 → ∃ z : Int, cs[i]? = some (.int .u8 z) ∧ xs[i]? = some (.lit (.int .u8 z), []) ∧ (Lit.int .u8 z).wf = true := by
        intro i hi
        obtain ⟨b, hb, hg⟩ := Go.Lib.mapM_at hm i i (by simp [hi])
        obtain ⟨z, hc, rfl, hw⟩ := DataW.trod_int Tryd.underlying5 hg
        refine ⟨z, ?_, hb, hw⟩
        have := congrArg (·[0]?) hc
        simpa [List.getElem?_take, List.getElem?_drop, Value.cells] using this
      obtain ⟨f, hf2⟩ : ∃ f : MF, ∀ i, i < 256 → cs[i]? = some (.int .u8 ((f i).toNat : Int)) ∧ xs[i]? = some (.lit (.int .u8 ((f i).toNat : Int)), []) := by
        refine ⟨fun i => match cs[i]? with | some (.int .u8 z) => UInt8.ofNat z.toNat | _ => 0, fun i hi => ?_⟩
        obtain ⟨z, h1, h2, h3⟩ := hat i hi
        obtain ⟨c, rfl⟩ := as_byte h3
        simp only [h1, Int.toNat_natCast, UInt8.ofNat_toNat]
        exact ⟨trivial, h2⟩
      refine ⟨f, ?_, ?_, ?_⟩
      · refine congrArg Value.agg ?_
        apply Array.ext_getElem?
        intro i
        by_cases hi : i < 256
        · rw [(hf2 i hi).1, rc_at f hi]
        · rw [Array.getElem?_eq_none (by omega), Array.getElem?_eq_none (by rw [rc_size]; omega)]
      · have hxs : xs = (List.range 256).map fun j => ((.lit (.int .u8 ((f j).toNat : Int)) : DataW H), ([] : List MemPlace)) := by
          apply List.ext_getElem?
          intro i
          by_cases hi : i < 256
          · rw [(hf2 i hi).2]; simp [hi]
          · rw [List.getElem?_eq_none (by omega), List.getElem?_eq_none (by simp; omega)]
        have := congrArg Prod.fst hx
        rw [hxs] at this
        rw [List.map_map] at this
        exact this.symm
      · have hxs : xs = (List.range 256).map fun j => ((.lit (.int .u8 ((f j).toNat : Int)) : DataW H), ([] : List MemPlace)) := by
          apply List.ext_getElem?
          intro i
          by_cases hi : i < 256
          · rw [(hf2 i hi).2]; simp [hi]
          · rw [List.getElem?_eq_none (by omega), List.getElem?_eq_none (by simp; omega)]
        have := congrArg Prod.snd hx
        rw [hxs] at this
        refine this.symm.trans ?_
        simp only [List.flatMap_map]
        exact flat_none _
    · cases hf
theorem trod_cells {H : Type} (enc : TypeId × Value → H) (w : World) (base : Nat) (spare : Nat → Bool) (held : Bool) (f : MF) (l : List Nat) (hl : ∀ i ∈ l, i < 256) :
    l.mapM (fun i => DataW.trod enc Tryd.prog w base spare held 1 5 (((rc f).toList.drop i).take 1)) = some (l.map fun j => ((.lit (.int .u8 ((f j).toNat : Int)) : DataW H), ([] : List MemPlace))) := by
  apply mapM_some
  intro i hi
  have hi' : i < 256 := hl i hi
  have e : ((rc f).toList.drop i).take 1 = [.int .u8 ((f i).toNat : Int)] := by
    have h1 : i < (rc f).toList.length := by rw [Array.length_toList, rc_size]; exact hi'
    rw [List.drop_eq_getElem_cons h1]
    have := rc_at f hi'
    simp only [List.take_succ_cons, List.take_zero, List.cons.injEq, and_true]
    rw [← Array.getElem?_toList, List.getElem?_eq_getElem h1] at this
    exact Option.some.inj this
  rw [e]
  simp [DataW.trod, Tryd.underlying5, byte_wf]
theorem shut_map {H : Type} {enc : TypeId × Value → H} {w : World} {base : Nat} {spare : Nat → Bool} {held : Bool} (f : MF) : DataW.Trod enc Tryd.prog w base spare held 23 (MV f) (dataMap f) [] := by
  refine ⟨2, ?_⟩
  have hm := trod_cells enc w base spare held f (List.range 256) (fun i hi => List.mem_range.1 hi)
  unfold DataW.trod
  rw [Tryd.underlying23]
  simp only [cellsB, cellsMap, Nat.mul_one, Value.cells]
  rw [if_pos (by rw [Array.length_toList, rc_size]), hm]
  simp only [Option.map_some, dataMap, List.map_map]
  have e : List.flatMap (fun x : DataW H × List MemPlace => x.snd) ((List.range 256).map fun j => ((.lit (.int .u8 ((f j).toNat : Int)) : DataW H), ([] : List MemPlace))) = [] := by
    rw [List.flatMap_map]; exact flat_none _
  rw [e]
  rfl
end Go.Proofs.YtpgglnibfojdgaaDoor.Tr
