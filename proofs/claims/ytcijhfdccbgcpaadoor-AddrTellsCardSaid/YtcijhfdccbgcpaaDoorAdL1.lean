/- AddrSpans, AddrLast, AddrPlus: the walks. -/
import Derived.Test.YtcijhfdccbgcpaaDoorAdS
import Derived.Test.YtcijhfdccbgcpaaDoorAdArg
namespace Go.Proofs.YtcijhfdccbgcpaaDoor.Ad
open Go.RowKit Go.Shelf
set_option linter.unusedVariables false
set_option linter.unusedSimpArgs false
theorem as_byte {n : Int} (h : (Lit.int .u8 n).wf = true) : ∃ d : UInt8, n = d.toNat := by
  have hb : 0 ≤ n ∧ n < 256 := by
    simp [Lit.wf, IntKind.min, IntKind.max, IntKind.signed, IntKind.bits] at h
    omega
  refine ⟨UInt8.ofNat n.toNat, ?_⟩
  have : (UInt8.ofNat n.toNat).toNat = n.toNat % 256 := rfl
  omega
theorem shown_at (w w1 : World) (hL : Lay w) (hb : Below w.heap.size w w1) : Calls Tryd.prog 12 #[] w1 fun e w2 => e = .returned (.bool true) ∧ Below w1.heap.size w1 w2 := shown_any w1 (hL.below hb)
set_option maxRecDepth 100000 in
set_option maxHeartbeats 1600000 in
theorem spans_walk (fr to n : Nat) (hf : fr < 256) (hto : to < 256) (hn : n < 256) (w : World) (hL : Lay w) :
    Calls Tryd.prog 8 #[Y fr, Y to, Y n] w fun e w' => e = .returned (.bool true) ∧ Below w.heap.size w w' := by
  have hm : May ⟨1, 1 + (fr : Int), 0⟩ ⟨1, (to : Int), 0⟩ := by unfold May One; dsimp only; omega
  have HSH := Lib.hid (fun w1 (h : Below w.heap.size w w1) => shown_at w w1 hL h)
  have HL0 := Lib.hid (lp0 (Below.refl w.heap.size w) ⟨1, 1 + (fr : Int), 0⟩ ⟨1, (to : Int), 0⟩ false ⟨false, 0⟩)
  go_enter Tryd.func8, Tryd.ntmps8
  go_wp2
  go_loopw [10] (fun i wr => ∃ k : Nat, 1 ≤ k ∧ k ≤ n + 1 ∧ i = .int .i64 (k : Nat) ∧ Hid (Lp w w.heap.size ⟨1, 1 + (fr : Int), 0⟩ ⟨1, (to : Int), 0⟩ false (spanS (1 + (fr : Int)) to (k : Nat)) wr)) (fun i _ => n + 1 - (intOf i).toNat)
  case atStart => exact ⟨1, by omega, by omega, rfl, by rw [show spanS (1 + (fr : Int)) to ((1 : Nat) : Int) = ⟨false, 0⟩ from by unfold spanS; rw [if_neg (by omega)]]; exact Lib.hid HL0.out⟩
  case round =>
    obtain ⟨k, hk1, hk2, rfl, HR⟩ := hrel
    by_cases hlt : k ≤ n
    · have hlt' : ((k : Nat) : Int) ≤ (n : Int) := by omega
      have HA := Lib.hid (fun w' => Ask_plain ⟨1, 1 + (fr : Int), 0⟩ ⟨1, (to : Int), 0⟩ false (spanS (1 + (fr : Int)) to (k : Nat)) k ((k : Int) == (n : Int)) w' hm (by omega) (ask_span (1 + (fr : Int)) to k (by omega) (by omega) _ []))
      obtain ⟨⟨q0, q1, q2, q3, q4, q5, q6⟩, ⟨q7, q8⟩, q9, qa⟩ := HR.out.cells
      generalize spanS (1 + (fr : Int)) to (k : Nat) = s at *
      have hS := Lib.hid (show spanS (1 + (fr : Int)) to ((k + 1 : Nat) : Int) = spanS (1 + (fr : Int)) to ((k : Int) + 1) from by push_cast; rfl)
      generalize spanS (1 + (fr : Int)) to ((k : Int) + 1) = s2 at *
      have key : ∀ (x : Bool), (decide ((k : Int) = 1 + (fr : Int)) || decide (1 + (fr : Int) < (k : Int) ∧ (k : Int) ≤ to)) = x → (x = true ∧ ((k : Int) == 1 + (fr : Int)) = true) ∨ (((k : Int) == 1 + (fr : Int)) = false ∧ 1 + (fr : Int) < (k : Int) ∧ (k : Int) ≤ to ∧ x = true) ∨ (((k : Int) == 1 + (fr : Int)) = false ∧ 1 + (fr : Int) < (k : Int) ∧ ¬ (k : Int) ≤ to ∧ x = false) ∨ (((k : Int) == 1 + (fr : Int)) = false ∧ ¬ 1 + (fr : Int) < (k : Int) ∧ x = false) := by
        rintro x rfl
        by_cases c1 : (k : Int) = 1 + (fr : Int)
        · left; simp [c1]
        · right
          by_cases c2 : 1 + (fr : Int) < (k : Int)
          · by_cases c3 : (k : Int) ≤ to
            · left; simp [c1, c2, c3]
            · right; left; simp [c1, c2, c3]
          · right; right; simp [c1, c2]
      have HK := key _ rfl
      clear key
      generalize (decide ((k : Int) = 1 + (fr : Int)) || decide (1 + (fr : Int) < (k : Int) ∧ (k : Int) ≤ to)) = x at *
      rcases HK with ⟨rfl, c1⟩ | ⟨c1, c2, c3, rfl⟩ | ⟨c1, c2, c3, rfl⟩ | ⟨c1, c2, rfl⟩
      all_goals go_wp2_with (go_at_call 24; refine (HA.out _).mono ?_; rintro e w2 ⟨rfl, hb⟩; have HR2 := Lib.hid ((HR.out.below hb).below ((Below.refl w2.heap.size w2).alloc (Nat.le_refl _) (.cells #[.bool s2.op, E s2.to] 52))); clear hb; obtain ⟨⟨q0, q1, q2, q3, q4, q5, q6⟩, ⟨q7, q8⟩, q9, qa⟩ := HR2.out.cells)
      all_goals go_roundw
      all_goals first | (refine ⟨k + 1, by omega, by omega, by go_num, ?_⟩; rw [hS.out]; exact Lib.hid (HR2.out.set s2)) | (simp [intOf]; omega)
    · have hlt' : ¬ ((k : Nat) : Int) ≤ (n : Int) := by omega
      go_wp2_with (go_at_call 12; refine (HSH.out _ HR.out.2.2.2).mono ?_; rintro e w2 ⟨rfl, hb⟩)
      go_ret
      exact ⟨rfl, HR.out.2.2.2.trans (hb.mono HR.out.2.2.2.size)⟩
theorem addrSpans_walk (a b c : Int) (wa : (Lit.int .u8 a).wf = true) (wb : (Lit.int .u8 b).wf = true) (wc : (Lit.int .u8 c).wf = true) (W : World) (hL : Lay W) :
    Calls Tryd.prog 8 #[.int .u8 a, .int .u8 b, .int .u8 c] W fun e w' => e = .returned (.bool true) ∧ Below W.heap.size W w' := by
  obtain ⟨x, rfl⟩ := as_byte wa
  obtain ⟨y, rfl⟩ := as_byte wb
  obtain ⟨z, rfl⟩ := as_byte wc
  exact spans_walk x.toNat y.toNat z.toNat (UInt8.toNat_lt x) (UInt8.toNat_lt y) (UInt8.toNat_lt z) W hL
set_option maxRecDepth 100000 in
set_option maxHeartbeats 1600000 in
theorem last_walk (fr n : Nat) (hf : fr < 256) (hn : n < 256) (w : World) (hL : Lay w) :
    Calls Tryd.prog 9 #[Y fr, Y n] w fun e w' => e = .returned (.bool true) ∧ Below w.heap.size w w' := by
  obtain ⟨a, hak⟩ : ∃ a : Int, 1 + (fr : Int) % 20 = a := ⟨_, rfl⟩
  have hak1 : 1 ≤ a ∧ a ≤ 20 := by omega
  have hm : May ⟨1, a, 0⟩ ⟨2, 0, 0⟩ := by unfold May One; dsimp only; omega
  have HSH := Lib.hid (fun w1 (h : Below w.heap.size w w1) => shown_at w w1 hL h)
  have HL0 := Lib.hid (lp0 (Below.refl w.heap.size w) ⟨1, a, 0⟩ ⟨2, 0, 0⟩ false ⟨false, 0⟩)
  go_enter Tryd.func9, Tryd.ntmps9
  go_wp2
  go_loopw [8] (fun i wr => ∃ k : Nat, 1 ≤ k ∧ k ≤ n + 1 ∧ i = .int .i64 (k : Nat) ∧ Hid (Lp w w.heap.size ⟨1, a, 0⟩ ⟨2, 0, 0⟩ false (if k ≤ n then lastS a (k : Nat) else ⟨false, 0⟩) wr)) (fun i _ => n + 1 - (intOf i).toNat)
  case atStart => exact ⟨1, by omega, by omega, rfl, by rw [show (if 1 ≤ n then lastS a ((1 : Nat) : Int) else ⟨false, 0⟩) = ⟨false, 0⟩ from by unfold lastS; split <;> simp; omega]; exact Lib.hid HL0.out⟩
  case round =>
    obtain ⟨k, hk1, hk2, rfl, HR⟩ := hrel
    by_cases hlt : k ≤ n
    · have hlt' : ((k : Nat) : Int) ≤ (n : Int) := by omega
      rw [if_pos hlt] at HR
      have HA := Lib.hid (fun w' => Ask_plain ⟨1, a, 0⟩ ⟨2, 0, 0⟩ false (lastS a (k : Nat)) k ((k : Int) == (n : Int)) w' hm (by omega) (ask_last a k n (by omega) (by omega) (by omega) []))
      obtain ⟨⟨q0, q1, q2, q3, q4, q5, q6⟩, ⟨q7, q8⟩, q9, qa⟩ := HR.out.cells
      generalize lastS a (k : Nat) = s at *
      have hS := Lib.hid (show (if k + 1 ≤ n then lastS a ((k + 1 : Nat) : Int) else ⟨false, 0⟩) = (⟨decide (a ≤ (k : Int) ∧ (k : Int) < n), 0⟩ : S2) from by
        unfold lastS
        by_cases c : k + 1 ≤ n
        · rw [if_pos c]; congr 1; exact decide_eq_decide.2 (by omega)
        · rw [if_neg c, decide_eq_false (by omega)])
      have c0 : (a ≤ (k : Int) ∧ (k : Int) < n) ∨ (a ≤ (k : Int) ∧ ¬ (k : Int) < n) ∨ ¬ a ≤ (k : Int) := by omega
      rcases c0 with ⟨c1, c2⟩ | ⟨c1, c2⟩ | c1
      · rw [decide_eq_true c1, decide_eq_true ⟨c1, c2⟩] at HA
        rw [decide_eq_true ⟨c1, c2⟩] at hS
        go_wp2_with (go_at_call 24; refine (HA.out _).mono ?_; rintro e w2 ⟨rfl, hb⟩; have HR2 := Lib.hid ((HR.out.below hb).below ((Below.refl w2.heap.size w2).alloc (Nat.le_refl _) (.cells #[.bool true, E 0] 52))); clear hb; obtain ⟨⟨q0, q1, q2, q3, q4, q5, q6⟩, ⟨q7, q8⟩, q9, qa⟩ := HR2.out.cells)
        go_roundw
        case rel => exact ⟨k + 1, by omega, by omega, by go_num, by rw [hS.out]; exact Lib.hid (HR2.out.set ⟨true, 0⟩)⟩
        case measure => simp [intOf]; omega
      · rw [decide_eq_true c1, decide_eq_false (fun q => c2 q.2)] at HA
        rw [decide_eq_false (fun q => c2 q.2)] at hS
        go_wp2_with (go_at_call 24; refine (HA.out _).mono ?_; rintro e w2 ⟨rfl, hb⟩; have HR2 := Lib.hid ((HR.out.below hb).below ((Below.refl w2.heap.size w2).alloc (Nat.le_refl _) (.cells #[.bool false, E 0] 52))); clear hb; obtain ⟨⟨q0, q1, q2, q3, q4, q5, q6⟩, ⟨q7, q8⟩, q9, qa⟩ := HR2.out.cells)
        go_roundw
        case rel => exact ⟨k + 1, by omega, by omega, by go_num, by rw [hS.out]; exact Lib.hid (HR2.out.set ⟨false, 0⟩)⟩
        case measure => simp [intOf]; omega
      · rw [decide_eq_false c1, decide_eq_false (fun q => c1 q.1)] at HA
        rw [decide_eq_false (fun q => c1 q.1)] at hS
        go_wp2_with (go_at_call 24; refine (HA.out _).mono ?_; rintro e w2 ⟨rfl, hb⟩; have HR2 := Lib.hid ((HR.out.below hb).below ((Below.refl w2.heap.size w2).alloc (Nat.le_refl _) (.cells #[.bool false, E 0] 52))); clear hb; obtain ⟨⟨q0, q1, q2, q3, q4, q5, q6⟩, ⟨q7, q8⟩, q9, qa⟩ := HR2.out.cells)
        go_roundw
        case rel => exact ⟨k + 1, by omega, by omega, by go_num, by rw [hS.out]; exact Lib.hid (HR2.out.set ⟨false, 0⟩)⟩
        case measure => simp [intOf]; omega
    · have hlt' : ¬ ((k : Nat) : Int) ≤ (n : Int) := by omega
      go_wp2_with (go_at_call 12; refine (HSH.out _ HR.out.2.2.2).mono ?_; rintro e w2 ⟨rfl, hb⟩)
      go_ret
      exact ⟨rfl, HR.out.2.2.2.trans (hb.mono HR.out.2.2.2.size)⟩
theorem addrLast_walk (a b : Int) (w0 : (Lit.int .u8 a).wf = true) (w1 : (Lit.int .u8 b).wf = true) (W : World) (hL : Lay W) :
    Calls Tryd.prog 9 #[.int .u8 a, .int .u8 b] W fun e w' => e = .returned (.bool true) ∧ Below W.heap.size W w' := by
  obtain ⟨x0, rfl⟩ := as_byte w0
  obtain ⟨x1, rfl⟩ := as_byte w1
  exact last_walk x0.toNat x1.toNat (UInt8.toNat_lt x0) (UInt8.toNat_lt x1) W hL
set_option maxRecDepth 100000 in
set_option maxHeartbeats 1600000 in
theorem plus_walk (st mo n : Nat) (hst : st < 256) (hmo : mo < 256) (hn : n < 256) (w : World) (hL : Lay w) :
    Calls Tryd.prog 10 #[Y st, Y mo, Y n] w fun e w' => e = .returned (.bool true) ∧ Below w.heap.size w w' := by
  obtain ⟨q, hq⟩ : ∃ q : Int, 1 + (st : Int) % 9 = q := ⟨_, rfl⟩
  obtain ⟨m, hmm⟩ : ∃ m : Nat, (mo : Int) % 9 = (m : Int) := ⟨mo % 9, by omega⟩
  have hq1 : 1 ≤ q ∧ q ≤ 9 := by omega
  have hm1 : m ≤ 8 := by omega
  have hm : May ⟨3, 0, q⟩ ⟨5, (m : Int), 0⟩ := by unfold May One; dsimp only; omega
  have HSH := Lib.hid (fun w1 (h : Below w.heap.size w w1) => shown_at w w1 hL h)
  have HL0 := Lib.hid (lp0 (Below.refl w.heap.size w) ⟨3, 0, q⟩ ⟨5, (m : Int), 0⟩ false ⟨false, 0⟩)
  go_enter Tryd.func10, Tryd.ntmps10
  go_wp2
  go_loopw [11, 12] (fun l i wr => ∃ k L : Nat, 1 ≤ k ∧ k ≤ n + 1 ∧ L ≤ 8 ∧ i = .int .i64 (k : Nat) ∧ l = .int .i64 (L : Nat) ∧ Hid (Lp w w.heap.size ⟨3, 0, q⟩ ⟨5, (m : Int), 0⟩ false (plusS (L : Nat) (k : Nat)) wr)) (fun _ i _ => n + 1 - (intOf i).toNat)
  case atStart => exact ⟨1, 0, by omega, by omega, by omega, rfl, rfl, Lib.hid HL0.out⟩
  case round =>
    obtain ⟨k, L, hk1, hk2, hL8, rfl, rfl, HR⟩ := hrel
    by_cases hlt : k ≤ n
    · have hlt' : ((k : Nat) : Int) ≤ (n : Int) := by omega
      have hask := ask_plus q m L k (by omega) (by omega) (by omega) (by omega) false []
      obtain ⟨⟨q0, q1, q2, q3, q4, q5, q6⟩, ⟨q7, q8⟩, q9, qa⟩ := HR.out.cells
      have hnx : (k : Int) + 1 = ((k + 1 : Nat) : Int) := by omega
      by_cases c1 : 0 < L
      · have c1' : (0 : Int) < (L : Int) := by omega
        have hl1 : (L : Int) - 1 = ((L - 1 : Nat) : Int) := by omega
        rw [if_pos c1', hnx, hl1] at hask
        obtain ⟨s2, hs2⟩ : ∃ s2, plusS (((L - 1 : Nat) : Int)) ((k + 1 : Nat) : Int) = s2 := ⟨_, rfl⟩
        rw [hs2] at hask
        have hS := Lib.hid hs2
        clear hs2
        have HA := Lib.hid (fun w' => Ask_plain ⟨3, 0, q⟩ ⟨5, (m : Int), 0⟩ false (plusS ((L : Nat)) (k : Nat)) k false w' hm (by omega) hask)
        clear hask hnx
        generalize plusS ((L : Nat)) (k : Nat) = s at *
        go_wp2_with (go_at_call 24; refine (HA.out _).mono ?_; rintro e w2 ⟨rfl, hb⟩; have HR2 := Lib.hid ((HR.out.below hb).below ((Below.refl w2.heap.size w2).alloc (Nat.le_refl _) (.cells #[.bool s2.op, E s2.to] 52))); clear hb; obtain ⟨⟨q0, q1, q2, q3, q4, q5, q6⟩, ⟨q7, q8⟩, q9, qa⟩ := HR2.out.cells)
        go_roundw
        case rel => exact ⟨k + 1, L - 1, by omega, by omega, by omega, by go_num, by go_num, by rw [hS.out]; exact Lib.hid (HR2.out.set s2)⟩
        case measure => simp [intOf]; omega
      · obtain rfl : L = 0 := by omega
        rw [if_neg (by omega), hnx] at hask
        by_cases c2 : (k : Int) % q = 0
        · rw [if_pos c2] at hask
          obtain ⟨s2, hs2⟩ : ∃ s2, plusS ((m : Int)) ((k + 1 : Nat) : Int) = s2 := ⟨_, rfl⟩
          rw [hs2] at hask
          have hS := Lib.hid hs2
          clear hs2
          have HA := Lib.hid (fun w' => Ask_plain ⟨3, 0, q⟩ ⟨5, (m : Int), 0⟩ false (plusS (((0 : Nat) : Int)) (k : Nat)) k false w' hm (by omega) hask)
          clear hask hnx
          generalize plusS (((0 : Nat) : Int)) (k : Nat) = s at *
          go_wp2_with (go_at_call 24; refine (HA.out _).mono ?_; rintro e w2 ⟨rfl, hb⟩; have HR2 := Lib.hid ((HR.out.below hb).below ((Below.refl w2.heap.size w2).alloc (Nat.le_refl _) (.cells #[.bool s2.op, E s2.to] 52))); clear hb; obtain ⟨⟨q0, q1, q2, q3, q4, q5, q6⟩, ⟨q7, q8⟩, q9, qa⟩ := HR2.out.cells)
          go_roundw
          case rel => exact ⟨k + 1, m, by omega, by omega, by omega, by go_num, by go_num, by rw [hS.out]; exact Lib.hid (HR2.out.set s2)⟩
          case measure => simp [intOf]; omega
        · rw [if_neg c2] at hask
          change _ = (false, plusS ((0 : Nat) : Int) ((k + 1 : Nat) : Int)) at hask
          have c2B : ((k : Int) % q == 0) = false := by rw [beq_eq_false_iff_ne]; exact c2
          obtain ⟨s2, hs2⟩ : ∃ s2, plusS (((0 : Nat) : Int)) ((k + 1 : Nat) : Int) = s2 := ⟨_, rfl⟩
          rw [hs2] at hask
          have hS := Lib.hid hs2
          clear hs2
          have HA := Lib.hid (fun w' => Ask_plain ⟨3, 0, q⟩ ⟨5, (m : Int), 0⟩ false (plusS (((0 : Nat) : Int)) (k : Nat)) k false w' hm (by omega) hask)
          clear hask hnx
          generalize plusS (((0 : Nat) : Int)) (k : Nat) = s at *
          go_wp2_with (go_at_call 24; refine (HA.out _).mono ?_; rintro e w2 ⟨rfl, hb⟩; have HR2 := Lib.hid ((HR.out.below hb).below ((Below.refl w2.heap.size w2).alloc (Nat.le_refl _) (.cells #[.bool s2.op, E s2.to] 52))); clear hb; obtain ⟨⟨q0, q1, q2, q3, q4, q5, q6⟩, ⟨q7, q8⟩, q9, qa⟩ := HR2.out.cells)
          go_roundw
          case rel => exact ⟨k + 1, 0, by omega, by omega, by omega, by go_num, by go_num, by rw [hS.out]; exact Lib.hid (HR2.out.set s2)⟩
          case measure => simp [intOf]; omega
    · have hlt' : ¬ ((k : Nat) : Int) ≤ (n : Int) := by omega
      go_wp2_with (go_at_call 12; refine (HSH.out _ HR.out.2.2.2).mono ?_; rintro e w2 ⟨rfl, hb⟩)
      go_ret
      exact ⟨rfl, HR.out.2.2.2.trans (hb.mono HR.out.2.2.2.size)⟩
theorem addrPlus_walk (a b c : Int) (w0 : (Lit.int .u8 a).wf = true) (w1 : (Lit.int .u8 b).wf = true) (w2 : (Lit.int .u8 c).wf = true) (W : World) (hL : Lay W) :
    Calls Tryd.prog 10 #[.int .u8 a, .int .u8 b, .int .u8 c] W fun e w' => e = .returned (.bool true) ∧ Below W.heap.size W w' := by
  obtain ⟨x0, rfl⟩ := as_byte w0
  obtain ⟨x1, rfl⟩ := as_byte w1
  obtain ⟨x2, rfl⟩ := as_byte w2
  exact plus_walk x0.toNat x1.toNat x2.toNat (UInt8.toNat_lt x0) (UInt8.toNat_lt x1) (UInt8.toNat_lt x2) W hL
end Go.Proofs.YtcijhfdccbgcpaaDoor.Ad
