/- strings.NewReplacer(..).Replace of two bytes: what it makes of a text. -/
import Derived.Test.YtpgglnibfojdgaaGreatDoorRpRep
namespace Go.Proofs.YtpgglnibfojdgaaGreatDoor.Rp
open Go.RowKit
set_option linter.unusedVariables false
set_option linter.unusedSimpArgs false
set_option maxRecDepth 100000 in
set_option maxHeartbeats 1600000 in
theorem replace_any (b d : Nat) (t : Two) (l : List UInt8) (w : World) (h : Made b d (S [t.o1]) (S [t.p1, t.q1]) (S [t.o2]) (S [t.p2, t.q2]) w) (hl : l.length ≤ 100000) :
    Calls Tryz.prog 15 #[.pointer (some ⟨b, 0, none⟩), S l] w fun e w' => e = .returned (S (t.rep l)) ∧ Below b w w' := by
  have hmf : ∀ (fn : Fn) (first cap : Array Value) (w : World), (Instr.makeFunc fn first cap).run Tryz.prog w = .ok (.func fn first cap) w := fun _ _ _ _ => rfl
  have HO := Lib.hid (once_any b d t.o1 t.o2 t.p1 t.q1 t.p2 t.q2 t.ne w h)
  have hlt : b < w.heap.size := by
    obtain ⟨cap, hb⟩ := h.rep
    exact lt_of_heap hb
  clear h
  go_enter Tryz.func15, Tryz.ntmps15
  go_wp2_with (go_at_call 25; refine HO.out.mono ?_)
  rintro e w1 ⟨rfl, HU, HL⟩
  obtain ⟨q, v1, v2, hb, HS, Y1, Y2⟩ := HU.ex
  have g3 : w1.cell? ⟨b, 3, none⟩ = some (.iface 106 (.pointer (some ⟨q, 0, none⟩))) := by rw [Lib.cell_of_heap hb]; rfl
  have HR := Lib.hid (bsr_any w.heap.size q t v1 v2 l w1 HS Y1 Y2 hl)
  have HL' := Lib.hid HL
  have hsz1 := HL.size
  clear HU HL hb HS Y1 Y2
  have hme : ∀ (n : Nat) (w : World), (method (n + 1) 106 (.pointer (some ⟨q, 0, none⟩)) "Replace").run Tryz.prog w = .ok (127, .pointer (some ⟨q, 0, none⟩)) w := fun n w => by kernel_rfl
  go_wp2_with (go_at_call 127; refine HR.out.mono ?_; rintro e w2 ⟨rfl, h2⟩)
  go_ret
  exact ⟨rfl, HL'.out.trans (h2.mono (by omega))⟩
end Go.Proofs.YtpgglnibfojdgaaGreatDoor.Rp
