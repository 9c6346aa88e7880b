/- Sets of bytes: the iterator's contract. -/
import Derived.Test.YtdjedjfanfbbcaaDoorSl6
namespace Go.Proofs.YtdjedjfanfbbcaaDoor.St
open Go.RowKit Go.Shelf
set_option linter.unusedVariables false
set_option linter.unusedSimpArgs false
attribute [local go_sem] Oper.semAt_some

theorem shl6 (k : Nat) (hk : k < 4) : True := trivial
set_option maxRecDepth 100000 in
set_option maxHeartbeats 2000000 in
theorem all_stops (n : Nat) (hn : 2 ≤ n) (B : Nat) (ws : List Nat) (w : World) (Kp : World → World → Prop) (hw : Wf ws) (hB : B < w.heap.size) (hg : 0 < w.heap.size) (hS : SB w B ws)
    (hT : ∀ W, Below w.heap.size w W → Tab W) (hKT : ∀ W W', Kp W W' → Tab W → Tab W') :
    SeqStopsK Fence.wide n Tryd.prog 44 #[.pointer (some ⟨B, 0, none⟩)] (fun x : UInt8 => #[.int .u8 (x.toNat : Int)]) Kp (fun xs => xs = bytesL ws) (fun _ => True) 256 w := fun l J Jx W hW hJ hJx hY h0 => by
  have hSW : SB W B ws := (hW.block B hB).trans hS
  have hTW := hT W hW
  have c0 := hSW.cell hw (i := 0) (by omega)
  have c1 := hSW.cell hw (i := 1) (by omega)
  have c2 := hSW.cell hw (i := 2) (by omega)
  have c3 := hSW.cell hw (i := 3) (by omega)
  clear hS hSW
  refine callsIn_of_wp Tryd.func44 rfl trivial ?_ rfl
  simp only [Tryd.ntmps44, List.size_toArray, List.length_cons, List.length_nil, Nat.reduceAdd, Nat.reduceSub, Array.replicate_succ, Array.replicate_zero, List.push_toArray, List.append_toArray, List.nil_append, List.cons_append]
  gi_wp2
  gi_loopw [3, 4, 6] (fun _ _ i wr => ∃ k : Nat, k ≤ 4 ∧ i = .int .i64 (k : Int) ∧ Tab wr ∧ ∃ pre : List UInt8, pre.map UInt8.toNat ++ tl ws k (4 - k) = bytesN ws ∧ J pre wr) (fun _ _ i _ => 4 - (intOf i).toNat)
  case atStart => exact ⟨0, Nat.zero_le _, rfl, hTW, [], tl_four ws, h0⟩
  case round =>
    obtain ⟨k, hk, rfl, hTr, pre, hpre, hJr⟩ := hrel
    by_cases hlt : k < 4
    · have hI : (k : Int) < 4 := by omega
      have hi := fun w => idx_word ws hlt w
      have HP := Lib.hid hpre
      clear hpre
      gi_wp2
      gi_loopw [4] (fun v wv => ∃ x : Nat, v = .int .u64 (x : Int) ∧ x < 2 ^ 64 ∧ Tab wv ∧ ∃ pre : List UInt8, pre.map UInt8.toNat ++ ((bl x).map (k * 64 + ·) ++ tl ws (k + 1) (4 - (k + 1))) = bytesN ws ∧ J pre wv) (fun v _ => (bl (intOf v).toNat).length)
      case atStart => exact ⟨word ws k, rfl, word_lt hw k, hTr, pre, by rw [← HP.out, show 4 - k = (4 - (k + 1)) + 1 from by omega, tl], hJr⟩
      case round =>
        clear HP hTr hJr pre
        obtain ⟨x, rfl, hx, hTv, pre, hpre, hJv⟩ := hrel
        have HP := Lib.hid hpre
        clear hpre
        by_cases hx0 : x = 0
        · subst hx0
          gi_wp2
          go_roundw
          case rel => exact ⟨k + 1, by omega, by go_num, hTv, pre, by rw [← HP.out, bl_zero]; rfl, hJv⟩
          case measure => simp [intOf]; omega
        · obtain ⟨hstep, hc⟩ := bl_step hx hx0
          have HST := Lib.hid hstep
          have hlen : pre.length < 256 := by
            have := bytesN_len ws
            have e := congrArg List.length HP.out
            rw [hstep] at e
            simp at e
            omega
          have hne : ((x : Int) != 0) = true := by simp; omega
          have htz := fun w => tz_any x hx hx0 w
          clear hstep
          generalize hcz : Lib.ctz 64 x = c at *
          have hcz' := Lib.hid hcz
          clear hcz
          obtain ⟨fn, tmps, assign, body, hy, hR⟩ := hY pre (UInt8.ofNat (k * 64 + c)) _ hJv hlen
          have hu := ofNat_toNat (n := k * 64 + c) (by omega)
          generalize UInt8.ofNat (k * 64 + c) = d at *
          rw [show ((d.toNat : Nat) : Int) = (k : Int) * 64 + (c : Int) from by omega] at hy
          have HU := Lib.hid hu
          clear hu
          gi_wp2
          refine ⟨trivial, fun h => (by cases h), ?_⟩
          refine (callsIn_wide.2 (htz _ hTv)).mono ?_
          rintro e w' ⟨rfl, rfl⟩
          gi_wp2
          refine ⟨fun h => (by cases h), hR.mono ?_⟩
          clear hy hR
          rintro e W' (⟨rfl, hJ', hk'⟩ | ⟨rfl, hJx'⟩)
          · gi_wp2
            have hand : bits BinOp.and IntKind.u64 (x : Int) ((x : Int) - 1) = ((x &&& (x - 1) : Nat) : Int) := by
              rw [show ((x : Int) - 1) = ((x - 1 : Nat) : Int) from by omega]
              exact u64_and_nat _ _ hx (by omega)
            go_roundw
            case rel =>
              refine ⟨x &&& (x - 1), by rw [hand], clear_lt hx, hKT _ _ hk' hTv, pre ++ [d], ?_, hJ'⟩
              rw [← HP.out, HST.out]; simp [HU.out]
            case measure =>
              rw [hand]
              simp only [intOf, Int.toNat_natCast]
              rw [HST.out]; simp
          · gi_wp2
            refine bodyPost_ret (results_none rfl _ _ _) rfl ?_
            exact ⟨⟨_, rfl⟩, .inr ⟨_, trivial, hJx'⟩⟩
    · have hk4 : k = 4 := by omega
      subst hk4
      have HP := Lib.hid hpre
      clear hpre
      gi_wp2
      go_end0
      exact ⟨⟨_, rfl⟩, .inl ⟨_, bytesL_of (by have := HP.out; simpa [tl] using this), hJr⟩⟩
end Go.Proofs.YtdjedjfanfbbcaaDoor.St
