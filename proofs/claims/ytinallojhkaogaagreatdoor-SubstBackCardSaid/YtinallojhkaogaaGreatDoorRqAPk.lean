/- strings.NewReplacer(..).Replace of three bytes: what it makes of a text, the first time and later. -/
import Derived.Test.YtinallojhkaogaaGreatDoorRqRPk
import Derived.Test.YtinallojhkaogaaGreatDoorRpOncePk
namespace Go.Proofs.YtinallojhkaogaaGreatDoor.Rq
open Go.RowKit
open Go.Proofs.YtinallojhkaogaaGreatDoor.Rp (S lk Bs Bytes lt_of_heap)
set_option linter.unusedVariables false
set_option linter.unusedSimpArgs false
theorem own_kept {B e n z : Nat} {v : Value} {xs : List Value} {w w' : World} (ho : w.ownsRow B e z v n xs) (hk : ∀ g, v.ownBlock = some g → w'.heap[g]? = w.heap[g]?) : w'.ownsRow B e z v n xs := by
  refine ⟨ho.1, ?_⟩
  rcases ho.2 with h | ⟨g, cp, cur, hv, h1, h2, h3⟩
  · exact Or.inl h
  · exact Or.inr ⟨g, cp, cur, hv, h1, (hk g (by subst hv; rfl)).trans h2, h3⟩
/-- What lies behind B is all that is asked of the world. -/
theorem Bq.keep {B q : Nat} {t : List Tp} {w w' : World} (h : Bq B q t w) (hk : ∀ (g : Nat) (o : Obj), B ≤ g → w.heap[g]? = some o → w'.heap[g]? = some o) : Bq B q t w' := by
  obtain ⟨M, h1, h2, h3⟩ := h.ex
  obtain ⟨row, tv, hq, a1, a2, a3, ho, hn⟩ := h1.row
  refine ⟨M, ⟨⟨row, tv, hk _ _ h1.le hq, a1, a2, a3, own_kept ho (fun g hg => ?_), hn⟩, h1.le⟩, h2, fun y hy => ?_⟩
  · rcases ho.2 with ⟨hv, _⟩ | ⟨g', cp, cur, hv, b1, b2, b3⟩
    · subst hv; cases hg
    · subst hv
      obtain rfl : g' = g := by simpa [Value.ownBlock] using hg
      rw [b2]; exact hk _ _ b1 b2
  · obtain ⟨⟨s, cap, cells, fz, e1, e2, e3⟩, ⟨s2, n2, c2, f1, f2⟩⟩ := h3 y hy
    obtain rfl : s = s2 := by rw [e1] at f1; simp at f1; exact f1.1
    exact ⟨⟨s, cap, cells, fz, e1, hk _ _ f2 e2, e3⟩, s, n2, c2, f1, f2⟩
/-- A replacer, not yet used or used. -/
def Ra (b : Nat) (t : List Tp) (w : World) : Prop := (∃ d, Made b d t w) ∨ ∃ B, Used B b t (.int .u32 1) (.int .i32 0) (.int .u32 0) w
/-- A replacer, of which just the blocks Z are asked. -/
def Rd (Z : Nat → Prop) (b : Nat) (t : List Tp) (w : World) : Prop := ∃ w0 : World, (∀ (g : Nat) (o : Obj), Z g → w0.heap[g]? = some o → w.heap[g]? = some o) ∧ (∀ g, Z g → g < w0.heap.size) ∧ w0.heap.size ≤ w.heap.size ∧ Z b ∧
  ((∃ d, Made b d t w0 ∧ Z d) ∨ ∃ B, Used B b t (.int .u32 1) (.int .i32 0) (.int .u32 0) w0 ∧ ∀ g, B ≤ g → g < w0.heap.size → Z g)
theorem Made.keep {b d : Nat} {t : List Tp} {w w' : World} (h : Made b d t w) (hb : ∀ o, w.heap[b]? = some o → w'.heap[b]? = some o) (hd : ∀ o, w.heap[d]? = some o → w'.heap[d]? = some o) : Made b d t w' := by
  obtain ⟨cap, h1⟩ := h.rep
  obtain ⟨cur, h2, h3⟩ := h.old
  exact ⟨⟨cap, hb _ h1⟩, ⟨cur, hd _ h2, h3⟩, h.ne⟩
theorem Rd.keep {Z : Nat → Prop} {b : Nat} {t : List Tp} {w w' : World} (h : Rd Z b t w) (hs : w.heap.size ≤ w'.heap.size) (hk : ∀ (g : Nat) (o : Obj), Z g → w.heap[g]? = some o → w'.heap[g]? = some o) : Rd Z b t w' := by
  obtain ⟨w0, h1, h2, h3, h4, h5⟩ := h
  exact ⟨w0, fun g o z e => hk g o z (h1 g o z e), h2, by omega, h4, h5⟩
theorem Rd.lt {Z : Nat → Prop} {b : Nat} {t : List Tp} {w : World} (h : Rd Z b t w) : ∀ g, Z g → g < w.heap.size := by
  obtain ⟨w0, h1, h2, h3, h4, h5⟩ := h
  exact fun g z => Nat.lt_of_lt_of_le (h2 g z) h3
theorem Rd.own {Z : Nat → Prop} {b : Nat} {t : List Tp} {w : World} (h : Rd Z b t w) : Z b := h.elim fun _ q => q.2.2.2.1
theorem Rd.ra {Z : Nat → Prop} {b : Nat} {t : List Tp} {w : World} (h : Rd Z b t w) : (∃ d, Made b d t w ∧ Z d) ∨ ∃ B, Used B b t (.int .u32 1) (.int .i32 0) (.int .u32 0) w ∧ Rd Z b t w := by
  have h0 := h
  obtain ⟨w0, h1, h2, h3, h4, h5⟩ := h
  rcases h5 with ⟨d, hm, hd⟩ | ⟨B, hu, hz⟩
  · exact Or.inl ⟨d, hm.keep (fun o => h1 _ o h4) (fun o => h1 _ o hd), hd⟩
  · obtain ⟨q, e1, e2⟩ := hu.ex
    exact Or.inr ⟨B, ⟨⟨q, h1 _ _ h4 e1, e2.keep fun g o hg e => h1 g o (hz g hg (lt_of_heap e)) e⟩, hu.lt⟩, h0⟩
theorem rd_made {b d : Nat} {t : List Tp} {w : World} (h : Made b d t w) : Rd (fun g => g = b ∨ g = d) b t w := by
  obtain ⟨cap, h1⟩ := h.rep
  obtain ⟨cur, h2, _⟩ := h.old
  exact ⟨w, fun _ _ _ e => e, fun g z => by rcases z with rfl | rfl; exact lt_of_heap h1; exact lt_of_heap h2, Nat.le_refl _, Or.inl rfl, Or.inl ⟨d, h, Or.inr rfl⟩⟩
theorem rd_used {B b : Nat} {t : List Tp} {w : World} (h : Used B b t (.int .u32 1) (.int .i32 0) (.int .u32 0) w) : Rd (fun g => g = b ∨ (B ≤ g ∧ g < w.heap.size)) b t w := by
  obtain ⟨q, e1, e2⟩ := h.ex
  exact ⟨w, fun _ _ _ e => e, fun g z => by rcases z with rfl | z; exact lt_of_heap e1; exact z.2, Nat.le_refl _, Or.inl rfl, Or.inr ⟨B, h, fun g h1 h2 => Or.inr ⟨h1, h2⟩⟩⟩
theorem below_keep {w w' : World} (h : Below w.heap.size w w') : ∀ (g : Nat) (o : Obj), w.heap[g]? = some o → w'.heap[g]? = some o := fun g o e => (h.block g (lt_of_heap e)).trans e
set_option maxRecDepth 100000 in
set_option maxHeartbeats 1600000 in
/-- Do, done before. -/
theorem do_done (b fn : Nat) (fs : Array Value) (w : World) (h0 : w.cell? ⟨b, 0, none⟩ = some (.int .u32 1)) :
    Calls Tryz.prog 82 #[.pointer (some ⟨b, 0, none⟩), .func (.func fn) fs #[]] w fun e w' => e = .returned (.tuple #[]) ∧ w' = w := by
  have hl := run_call_load (P := Tryz.prog) Tryz.func133 (by kernel_rfl) (by kernel_rfl) (by kernel_rfl) .u32 (by kernel_rfl) h0
  have hnot : ∀ (x : Bool) (w : World), (Op.unary .not (.bool x)).run Tryz.prog w = .ok (.bool (!x)) w := fun _ _ => rfl
  go_enter Tryz.func82, Tryz.ntmps82
  go_wp2_with (go_at_call 108; go_in)
  go_end0
  exact ⟨rfl, rfl⟩
/-- What a use leaves: the replacer, of other blocks perhaps, none of which is an old one but those that were its own; the others stand. -/
def After (Z : Nat → Prop) (b : Nat) (t : List Tp) (w w' : World) : Prop := (∃ Z', Rd Z' b t w' ∧ ∀ g, Z' g → Z g ∨ w.heap.size ≤ g) ∧ Oth b w w' ∧ Below b w w'
theorem once_rd (Z : Nat → Prop) (b : Nat) (t : List Tp) (ht3 : t.length = 3) (hnd : (t.map (·.o)).Nodup) (w : World) (h : Rd Z b t w) :
    Calls Tryz.prog 82 #[.pointer (some ⟨b, 0, none⟩), .func (.func 83) #[.pointer (some ⟨b, 0, none⟩)] #[]] w fun e w' => e = .returned (.tuple #[]) ∧
      (∃ B, Used B b t (.int .u32 1) (.int .i32 0) (.int .u32 0) w') ∧ After Z b t w w' := by
  have hz := h.own
  rcases h.ra with ⟨d, hm, hd⟩ | ⟨B, hu, h0⟩
  · refine (once_any b d t ht3 hnd w hm).mono ?_
    rintro e w' ⟨rfl, hu, hb, ho⟩
    exact ⟨rfl, ⟨_, hu⟩, ⟨_, rd_used hu, fun g q => by rcases q with rfl | q; exact Or.inl hz; exact Or.inr q.1⟩, ho, hb⟩
  · obtain ⟨q, h1, h2⟩ := hu.ex
    refine (do_done b _ _ w (by rw [Lib.cell_of_heap h1]; rfl)).mono ?_
    rintro e w' ⟨rfl, rfl⟩
    exact ⟨rfl, ⟨_, hu⟩, ⟨Z, h0, fun g q => Or.inl q⟩, fun g o _ e => e, Below.refl _ _⟩
theorem After.more {Z : Nat → Prop} {b : Nat} {t : List Tp} {w w1 w2 : World} (h : After Z b t w w1) (hlt : b < w.heap.size) (hb : Below w1.heap.size w1 w2) : After Z b t w w2 := by
  obtain ⟨⟨Z', h1, h2⟩, h3, h4⟩ := h
  exact ⟨⟨Z', h1.keep hb.size (fun g o _ e => below_keep hb g o e), h2⟩, fun g o e1 e2 => below_keep hb g o (h3 g o e1 e2), h4.trans (hb.mono (by have := h4.size; omega))⟩
set_option maxRecDepth 100000 in
set_option maxHeartbeats 1600000 in
theorem replace_any (Z : Nat → Prop) (b : Nat) (t : List Tp) (ht3 : t.length = 3) (hnd : (t.map (·.o)).Nodup) (l : List UInt8) (w : World) (h : Rd Z b t w) (hl : l.length ≤ 100000) :
    Calls Tryz.prog 62 #[.pointer (some ⟨b, 0, none⟩), S l] w fun e w' => e = .returned (S (rep t l)) ∧ After Z b t w w' := by
  have hmf : ∀ (fn : Fn) (first cap : Array Value) (w : World), (Instr.makeFunc fn first cap).run Tryz.prog w = .ok (.func fn first cap) w := fun _ _ _ _ => rfl
  have HO := Lib.hid (once_rd Z b t ht3 hnd w h)
  have hlt := h.lt b h.own
  clear h
  go_enter Tryz.func62, Tryz.ntmps62
  go_wp2_with (go_at_call 82; refine HO.out.mono ?_)
  rintro e w1 ⟨rfl, ⟨B, HU⟩, HA⟩
  obtain ⟨q, hb, HS⟩ := HU.ex
  have g3 : w1.cell? ⟨b, 3, none⟩ = some (.iface 217 (.pointer (some ⟨q, 0, none⟩))) := by rw [Lib.cell_of_heap hb]; rfl
  have HR := Lib.hid (bsr_any B q t ht3 hnd l w1 HS hl)
  have HA' := Lib.hid HA
  have HLT := Lib.hid hlt
  clear HU HA hb HS hlt
  have hme : ∀ (n : Nat) (w : World), (method (n + 1) 217 (.pointer (some ⟨q, 0, none⟩)) "Replace").run Tryz.prog w = .ok (226, .pointer (some ⟨q, 0, none⟩)) w := fun n w => by kernel_rfl
  go_wp2_with (go_at_call 226; refine HR.out.mono ?_; rintro e w2 ⟨rfl, h2⟩)
  go_ret
  exact ⟨rfl, HA'.out.more HLT.out h2⟩
end Go.Proofs.YtinallojhkaogaaGreatDoor.Rq
