/- SetTells: the walk, for every text. -/
import Derived.Test.YtmlgbjdohijlnaaDoorSrTells
import Derived.Test.YtmlgbjdohijlnaaDoorStLaws
namespace Go.Proofs.YtmlgbjdohijlnaaDoor.St
open Go.RowKit
set_option linter.unusedVariables false
set_option linter.unusedSimpArgs false
set_option maxHeartbeats 1000000 in
theorem setTells_gt (s t : List Nat) (l : List UInt8) (a b : Nat) (hs : Wf s) (ht : Wf t) (hl : 300 < l.length) (w : World) (hg : 0 < w.heap.size) (hT : Tab w) :
    Calls Tryd.prog 7 #[SV s, SV t, .string ⟨l.toArray⟩, .int .u8 (a : Int), .int .u8 (b : Int)] w fun e w' => e = .returned (.bool true) ∧ Below w.heap.size w w' := by
  have HT := Lib.hid hT
  clear hT
  have hsz : (ByteArray.mk l.toArray).size = l.length := by simp [ByteArray.size]
  have hI : (300 : Int) < (l.length : Int) := by omega
  have CSH := fun W h1 h2 => shown_any W h1 h2
  go_enter Tryd.func7, Tryd.ntmps7
  refine wp_seq_k fun K0 hK => ?_
  have HK := Lib.hid hK; clear hK
  go_wp2
  refine HK.out _ _ ?_
  clear HK K0
  have H2 := Lib.hid (Two.mk' (b1 := w.heap.size) (b2 := w.heap.size + 1) (w0 := w) (sb_alloc (heap_alloc_new w (Obj.cells (wc s) 25)) (Obj.cells (wc t) 25)) (show SB _ (w.heap.size + 1) t from (two_new w _ _).2) hs ht (((Below.refl _ w).alloc (Nat.le_refl _) _).alloc (alloc_le _ _) _))
  generalize (w.alloc (Obj.cells (wc s) 25)).alloc (Obj.cells (wc t) 25) = wA at *
  go_wp2_with (first
    | (go_at_call 10; refine (CSH _ (Two.pos H2.out hg) (Two.tab H2.out hg HT.out)).mono ?_; rintro e w1 ⟨rfl, hb1⟩))
  go_ret
  exact ⟨rfl, (Two.last H2.out).trans (hb1.mono (Two.last H2.out).size)⟩
theorem setTells_walk (s t : List Nat) (x : ByteArray) (a b : Int) (hs : Wf s) (ht : Wf t) (wx : x.size ≤ maxLen) (wa : (Lit.int .u8 a).wf = true) (wb : (Lit.int .u8 b).wf = true) (W : World) (hg : 0 < W.heap.size) (hT : Tab W) :
    Calls Tryd.prog 7 #[SV s, SV t, .string x, .int .u8 a, .int .u8 b] W fun e w' => e = .returned (.bool true) ∧ Below W.heap.size W w' := by
  obtain ⟨a, rfl, ha⟩ := u8_nat wa
  obtain ⟨b, rfl, hb⟩ := u8_nat wb
  by_cases hl : x.data.toList.length ≤ 300
  · have := setTells_le s t x.data.toList a b hs ht ha hb hl W hg hT
    rwa [Array.toArray_toList] at this
  · have := setTells_gt s t x.data.toList a b hs ht (by omega) W hg hT
    rwa [Array.toArray_toList] at this
end Go.Proofs.YtmlgbjdohijlnaaDoor.St
