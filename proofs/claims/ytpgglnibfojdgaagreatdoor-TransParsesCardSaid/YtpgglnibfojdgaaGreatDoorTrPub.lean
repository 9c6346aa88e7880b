/- strconv.ParseUint to the base 8: the walk. -/
import Derived.Test.YtpgglnibfojdgaaGreatDoorTrParse
namespace Go.Proofs.YtpgglnibfojdgaaGreatDoor.Tr
open Go.RowKit Go.Shelf Bld
set_option linter.unusedVariables false
set_option linter.unusedSimpArgs false
/-- The library's two sentinels lie in their variables. -/
structure Errs (w : World) : Prop where
  syn : ∃ ev, w.cell? ⟨1, 0, none⟩ = some ev ∧ (ev = .nilIface ∨ ∃ te pe, ev = .iface te pe)
  rng : ∃ ev, w.cell? ⟨2, 0, none⟩ = some ev ∧ (ev = .nilIface ∨ ∃ te pe, ev = .iface te pe)
  l1 : 1 < w.heap.size
  l2 : 2 < w.heap.size
theorem Errs.below {w w' : World} (h : Errs w) (hb : Below w.heap.size w w') : Errs w' where
  syn := by obtain ⟨ev, h1, h2⟩ := h.syn; exact ⟨ev, (hb.cell (p := ⟨1, 0, none⟩) h.l1).trans h1, h2⟩
  rng := by obtain ⟨ev, h1, h2⟩ := h.rng; exact ⟨ev, (hb.cell (p := ⟨2, 0, none⟩) h.l2).trans h1, h2⟩
  l1 := Nat.lt_of_lt_of_le h.l1 hb.size
  l2 := Nat.lt_of_lt_of_le h.l2 hb.size
def Pub (t : List UInt8) (e : Ending) : Prop :=
  (∃ x : Nat, oct 0 t = some x ∧ e = .returned (.tuple #[.int .u64 x, .nilIface])) ∨ (oct 0 t = none ∧ ∃ (v : Int) (te : TypeId) (pe : Value), e = .returned (.tuple #[.int .u64 v, .iface te pe]))
set_option maxRecDepth 100000 in
set_option maxHeartbeats 800000 in
theorem pub8_any (t : List UInt8) (h1 : 1 ≤ t.length) (h3 : t.length ≤ 3) (w : World) (hE : Errs w) :
    Calls Tryz.prog 19 #[S t, E 8, E 8] w fun e w' => Pub t e ∧ Below w.heap.size w w' := by
  have HP := Lib.hid (parse8_any t h1 h3 w)
  have HE := Lib.hid hE
  clear hE
  have hsz : (ByteArray.mk t.toArray).size ≤ 281474976710656 := by simp [ByteArray.size]; omega
  have HSZ := Lib.hid hsz
  clear hsz
  go_enter Tryz.func19, Tryz.ntmps19
  go_wp2_with (go_at_call 29; refine HP.out.mono ?_)
  rintro e w1 ⟨hp | ⟨ho, v, n, hn, he⟩, hb⟩
  · obtain ⟨x, ho, rfl⟩ := hp
    have HO : Hid (∀ e : Ending, e = .returned (.tuple #[.int .u64 x, .nilIface]) → Pub t e) := Lib.hid fun e he => Or.inl ⟨x, ho, he⟩
    have HB := Lib.hid hb
    clear ho hb
    go_wp2
    go_ret2
    exact ⟨HO.out _ rfl, HB.out⟩
  · subst he
    have HO : Hid (∀ (e : Ending) (te : TypeId) (pe : Value), e = .returned (.tuple #[.int .u64 v, .iface te pe]) → Pub t e) := Lib.hid fun e te pe he => Or.inr ⟨ho, v, te, pe, he⟩
    have HB := Lib.hid hb
    have HE1 := HE.out.below hb
    obtain ⟨es, s1, s2⟩ := HE1.syn
    obtain ⟨er, r1, r2⟩ := HE1.rng
    clear ho hb HE1
    rcases hn with rfl | rfl
    · have HT := Lib.hid (Tryz.strconv_toError_range ⟨#[80, 97, 114, 115, 101, 85, 105, 110, 116]⟩ ⟨t.toArray⟩ 8 8 er w1 HSZ.out r1 r2)
      clear s1 s2 r1 r2
      go_wp2_with (go_at_call 30; refine HT.out.mono ?_; rintro e w2 ⟨N, rfl, _, _, hb2⟩; have HB2 := Lib.hid (HB.out.trans (hb2.mono HB.out.size)); clear hb2)
      go_ret2
      exact ⟨HO.out _ _ _ rfl, HB2.out⟩
    · have HT := Lib.hid (Tryz.strconv_toError_syntax ⟨#[80, 97, 114, 115, 101, 85, 105, 110, 116]⟩ ⟨t.toArray⟩ 8 8 es w1 HSZ.out s1 s2)
      clear s1 s2 r1 r2
      go_wp2_with (go_at_call 30; refine HT.out.mono ?_; rintro e w2 ⟨N, rfl, _, _, hb2⟩; have HB2 := Lib.hid (HB.out.trans (hb2.mono HB.out.size)); clear hb2)
      go_ret2
      exact ⟨HO.out _ _ _ rfl, HB2.out⟩
end Go.Proofs.YtpgglnibfojdgaaGreatDoor.Tr
