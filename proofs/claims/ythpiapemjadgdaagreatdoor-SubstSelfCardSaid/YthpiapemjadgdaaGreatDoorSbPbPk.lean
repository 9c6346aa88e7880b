/- Subst: a replacement is read: the walk. -/
import Derived.Test.YthpiapemjadgdaaGreatDoorSbPaPk
import Derived.Test.YthpiapemjadgdaaGreatDoorCk08
namespace Go.Proofs.YthpiapemjadgdaaGreatDoor.Mt
open Go.RowKit Go.Shelf
open Go.Proofs.YthpiapemjadgdaaGreatDoor.Rx
set_option linter.unusedVariables false
set_option linter.unusedSimpArgs false
def ParAns (w : World) (r : Option (List Pt) × Nat) (e : Ending) (w' : World) : Prop := match r with
  | (some l, _) => ∃ v, e = .returned (.tuple #[v, E 0, E 0]) ∧ w'.ownsRow w.heap.size 56 2 v l.length (flP l) ∧ Below w.heap.size w w'
  | (none, i) => e = .returned (.tuple #[.slice none 0 0, E (i : Nat), E 90]) ∧ Below w.heap.size w w'
theorem ps_start (w : World) : PS w [] [] (.slice none 0 0) ((w.alloc (.cells #[.slice none 0 0] 57)).alloc (.cells #[S []] 9)) :=
  ⟨heap_alloc2_old _ _ _, heap_alloc2_new _ _ _, World.ownsRow_nil _ _ _ _, (by intro g h; cases h), ((Below.refl _ _).alloc (Nat.le_refl _) _).alloc (by simp) _⟩
theorem PS.nil {w wr : World} {t : List UInt8} {a : List Pt} {v : Value} (h : PS w t a v wr) : (wr.setCell ⟨w.heap.size, 0, none⟩ (.slice none 0 0)).heap[w.heap.size]? = some (.cells #[.slice none 0 0] 57 (0, 0)) ∧ Below w.heap.size w (wr.setCell ⟨w.heap.size, 0, none⟩ (.slice none 0 0)) :=
  ⟨Go.Joins.block_setCell h.pv (i := 0) (.slice none 0 0), h.bel.setCell (Nat.le_refl _) _⟩
theorem conv1b (d : UInt8) (w : World) : (convert 94 9 (.slice (some ⟨w.heap.size, 0, none⟩) 1 1)).run Tryz.prog (w.alloc (.cells #[.int .u8 d.toNat] 5)) = .ok (S [d]) (w.alloc (.cells #[.int .u8 d.toNat] 5)) :=
  run_convert_bytes_back (P := Tryz.prog) (w.alloc (.cells #[.int .u8 d.toNat] 5)) 94 9 5 ⟨w.heap.size, 0, none⟩ 1 [d] Tryz.underlying94 Tryz.underlying5 Tryz.underlying9 (by
    intro j hj
    match j, hj with
    | 0, _ => simp [Addr.add])
theorem results_3 {fn : Func} {p u u2 : Tmp} (h : fn.results = #[.cell p 57, .tmp u, .tmp u2]) {tmps : Array Value} {w : World} {g : Nat} {v : Value} (hp : tmps.getD p undef = .pointer (some ⟨g, 0, none⟩)) (hc : (loadVar 57 ⟨g, 0, none⟩).run Tryz.prog w = .ok v w) :
    (results fn tmps).run Tryz.prog w = .ok (.tuple #[v, tmps.getD u undef, tmps.getD u2 undef]) w := by
  have e : (results fn tmps).run Tryz.prog w = ((asAddr (tmps.getD p undef)).run Tryz.prog w).andThen fun a w₁ => ((loadVar 57 a).run Tryz.prog w₁).andThen fun v w₂ => .ok (.tuple #[v, tmps.getD u undef, tmps.getD u2 undef]) w₂ := by
    simp only [results, h]
    simp [Sem.run_bind, Result.andThen]
  rw [e, hp, show (asAddr (.pointer (some ⟨g, 0, none⟩))).run Tryz.prog w = .ok ⟨g, 0, none⟩ w from rfl]
  simp only [Result.andThen]
  rw [hc]
theorem load_sl (w : World) (g : Nat) (ao : Option Addr) (n c : Nat) (h : w.heap[g]? = some (.cells #[.slice ao n c] 57 (0, 0))) : (loadVar 57 ⟨g, 0, none⟩).run Tryz.prog w = .ok (.slice ao n c) w := by
  have := (Lib.cell_of_heap h 0).trans rfl
  go_simp
theorem idx_esc (c : UInt8) (w : World) : Calls Tryz.prog 55 #[.string ⟨#[10, 92, 38, 47]⟩, .int .u8 (c.toNat : Int)] w fun e w' => e = .returned (E (Lib.indexByte [10, 92, 38, 47] c)) ∧ w' = w := by
  have h := Tryz.strings_IndexByte ⟨#[10, 92, 38, 47]⟩ (c.toNat : Int) w
  rwa [Int.toNat_natCast, show c.toNat.toUInt8 = c from by simp] at h
theorem idx_at4 {c : UInt8} (h : c = 10 ∨ c = 92 ∨ c = 38 ∨ c = 47) : ¬ Lib.indexByte [10, 92, 38, 47] c < 0 := by
  rcases h with rfl | rfl | rfl | rfl <;> decide
theorem idx_no4 {c : UInt8} (h : ¬ (c = 10 ∨ c = 92 ∨ c = 38 ∨ c = 47)) : Lib.indexByte [10, 92, 38, 47] c < 0 := by
  have e1 : ((10 : UInt8) == c) = false := by rw [beq_eq_false_iff_ne]; exact fun q => h (Or.inl q.symm)
  have e2 : ((92 : UInt8) == c) = false := by rw [beq_eq_false_iff_ne]; exact fun q => h (Or.inr (Or.inl q.symm))
  have e3 : ((38 : UInt8) == c) = false := by rw [beq_eq_false_iff_ne]; exact fun q => h (Or.inr (Or.inr (Or.inl q.symm)))
  have e4 : ((47 : UInt8) == c) = false := by rw [beq_eq_false_iff_ne]; exact fun q => h (Or.inr (Or.inr (Or.inr q.symm)))
  simp [Lib.indexByte, e1, e2, e3, e4]
set_option maxRecDepth 100000 in
set_option maxHeartbeats 6400000 in
theorem parse_any (s : List UInt8) (hs : s.length ≤ 10000) (w : World) (R : Option (List Pt) × Nat) (hR : parS s 0 [] [] = R) :
    Calls Tryz.prog 34 #[S s] w (ParAns w R) := by
  obtain ⟨i0, hi, hz0, hz1, hz2⟩ := info_parts infoP
  have hmf : ∀ (fn : Fn) (first cap : Array Value) (w : World), (Instr.makeFunc fn first cap).run Tryz.prog w = .ok (.func fn first cap) w := fun _ _ _ _ => rfl
  have hsz : (ByteArray.mk s.toArray).size = s.length := by simp [ByteArray.size]
  have HS0 := Lib.hid (ps_start w)
  have HR0 := Lib.hid hR
  have HSL := Lib.hid hs
  clear hR hs
  go_enter Tryz.func34, Tryz.ntmps34
  rw [show Code.region 3 = Fz 3 from rfl]
  go_wp2
  refine at_world (p := fun V => PS w [] [] (.slice none 0 0) V) HS0.out (fun V hV => ?_)
  have HV := Lib.hid hV
  clear hV HS0
  rw [show Fz 3 = Code.region 3 from rfl]
  go_wp2
  go_loopw [7] (fun iv wr => ∃ (k : Nat) (t : List UInt8) (a : List Pt) (v : Value), k ≤ s.length ∧ iv = .int .i64 (k : Nat) ∧ t.length ≤ k ∧ a.length ≤ 2 * k ∧ Hid (parS (s.drop k) k t a = R) ∧ Hid (PS w t a v wr)) (fun iv _ => s.length - (intOf iv).toNat)
  case atStart => exact ⟨0, [], [], _, Nat.zero_le _, rfl, by simp, by simp, by rw [List.drop_zero]; exact HR0, HV⟩
  case round =>
    clear HV HR0
    obtain ⟨k, t, a, v, hk, rfl, htl, hal, HR, HP⟩ := hrel
    obtain ⟨c1, c2, c3, c4⟩ := HP.out.cells
    by_cases hlt : k < s.length
    · have hlt' : (k : Int) < (s.length : Int) := by omega
      have hk0 : (0 : Int) ≤ (k : Int) := by omega
      have hwk : IntKind.i64.wrap ((k : Int) + 1) = (k : Int) + 1 := by rw [IntKind.wrap_i64]; have := HSL.out; omega
      have hdr : s.drop k = s[k] :: s.drop (k + 1) := List.drop_eq_getElem_cons hlt
      have hr := HR.out
      rw [hdr] at hr
      have hg := (show (ByteArray.mk s.toArray)[k]'(by rw [hsz]; exact hlt) = s[k] from rfl)
      generalize s[k] = c at *
      have HK := Lib.hid (show k < s.length ∧ t.length ≤ k ∧ a.length ≤ 2 * k from ⟨hlt, htl, hal⟩)
      clear hdr HR htl hal hk
      go_wp2
      by_cases hc : c = 38
      · subst hc
        rw [par_38] at hr
        obtain ⟨af, haf⟩ : ∃ af, af = a ++ flushP t := ⟨_, rfl⟩
        have HAF := Lib.hid haf
        clear haf
        have HLA := Lib.hid (show af.length ≤ 2 * k + 1 from by rw [HAF.out]; have := HK.out; unfold flushP; split <;> simp <;> omega)
        rw [← HAF.out] at hr
        have HRR := Lib.hid hr
        clear hr
        refine wp_scope_jumps 0 (fun _ _ => False) (fun _ _ => 0) rfl ?_ (fun _ _ h => h.elim)
        go_wp2_with (first
          | (go_at_call 54; refine (flush_any w t a v _ HP.out (by have := HK.out; have := HSL.out; omega)).mono ?_; rintro e w2 ⟨rfl, ao2, n2, cp2, hp⟩; rw [← HAF.out] at hp; have HP2 := Lib.hid hp; clear hp HP c1 c2 c3 c4; obtain ⟨c1, c2, c3, c4⟩ := HP2.out.cells; have HOA := Lib.hid (HP2.out.own.alloc (.cells #[S [], E 0] 56)))
          | (at_builtin; go_loud (refine wpList_append_own_at _ rfl _ _ 57 rfl w.heap.size 56 i0 _ 2 24 Tryz.underlying57 hi hz0 hz1 hz2 rfl (by decide) _ _ _ rfl HOA.out ⟨_, 0, none⟩ 1 1 [S [], E 0] rfl rfl (news_pt w2 [] 0) (by simp [Value.oneCell']) (by unfold maxLen; have := HLA.out; have := HSL.out; have := HK.out; omega) (by have := HLA.out; have := HSL.out; have := HK.out; omega) (by have := HP2.out.bel.size; simp; omega) ?_); intro v3 w4 hown hgrow _ hat; obtain ⟨g', cap', rfl⟩ := ownsRow_succ hown; rw [show flP af ++ [S [], E 0] = flP (af ++ [⟨[], 0⟩]) from by rw [flP_append _ [_]]; rfl] at hown; obtain ⟨d1, d2, d3⟩ := HP2.out.grow hown (by simp only [List.length_append, List.length_cons, List.length_nil]) hgrow hat; have HP4 := Lib.hid d1; clear d1 hown hgrow hat HOA c1 c2 c3 c4))
        (try simp only [Exit.jump])
        go_wp2
        go_roundw
        case rel => exact ⟨k + 1, [], af ++ [⟨[], 0⟩], _, by have := HK.out; omega, by go_num, by have := HK.out; (try simp only [List.length_append, List.length_cons, List.length_nil]); omega, by have := HK.out; have := HLA.out; (try simp only [List.length_append, List.length_cons, List.length_nil]); omega, HRR, HP4⟩
        case measure => have := HK.out; simp [intOf]; omega
      by_cases hc2 : c = 10
      · have hc := hc2
        subst hc
        rw [par_10] at hr
        have HRR := Lib.hid hr
        clear hr
        have HN := Lib.hid HP.out.nil
        refine wp_scope_jumps 0 (fun _ _ => False) (fun _ _ => 0) rfl ?_ (fun _ _ h => h.elim)
        go_wp2
        (try simp only [Exit.jump])
        generalize World.setCell _ _ _ = W9 at HN ⊢
        refine bodyPost_ret (results_3 rfl rfl (load_sl W9 w.heap.size none 0 0 HN.out.1)) rfl ?_
        rw [← HRR.out]
        exact ⟨rfl, HN.out.2⟩
      by_cases hc3 : c ≠ 92
      · have hc1 := hc
        have n38 : ((c.toNat : Int) == 38) = false := u8_ne hc1
        have n10 : ((c.toNat : Int) == 10) = false := u8_ne hc2
        have n92 : ((c.toNat : Int) == 92) = false := u8_ne hc3
        rw [par_c hc1 hc2 hc3] at hr
        have HRR := Lib.hid hr
        clear hr
        have HLA := Lib.hid (show a.length ≤ 2 * k from HK.out.2.2)
        refine wp_scope_jumps 0 (fun a' w' => w' = wr ∧ ∃ (x10 x11 x12 x13 x14 x15 x16 x17 x18 x19 x20 x21 x22 x23 x24 x25 x26 x27 x28 x29 x30 x31 x32 x33 x34 x35 x36 x37 x38 x39 x40 x41 x42 x43 x44 x45 x46 x47 x48 x49 x50 x51 x52 x53 x54 x55 x56 x57 x58 x59 x60 x61 x62 x63 x64 x65 x66 x67 x68 x69 x70 x71 x72 : Value), a' = { tmps := #[S s, undef, Value.pointer (some { block := w.heap.size, off := 0 }), u3, u4, Value.pointer (some { block := w.heap.size + 1, off := 0 }), Value.func (Fn.func 54) #[] #[Value.pointer (some { block := w.heap.size + 1, off := 0 }), Value.pointer (some { block := w.heap.size, off := 0 })], E (k : Nat), Value.int IntKind.u8 (c.toNat : Int), Value.func (Fn.func 54) #[] #[Value.pointer (some { block := w.heap.size + 1, off := 0 }), Value.pointer (some { block := w.heap.size, off := 0 })], x10, x11, x12, x13, x14, x15, x16, x17, x18, x19, x20, x21, x22, x23, x24, x25, x26, x27, x28, x29, x30, x31, x32, x33, x34, x35, x36, x37, x38, x39, x40, x41, x42, x43, x44, x45, x46, x47, x48, x49, x50, x51, x52, x53, x54, x55, x56, x57, x58, x59, x60, x61, x62, x63, x64, x65, x66, x67, x68, x69, x70, x71, x72, undef, undef, undef], defers := [] }) (fun _ _ => 0) rfl ?_ ?_
        · go_wp2
          go_step3
          exact ⟨rfl, rfl, _, _, _, _, _, _, _, _, _, _, _, _, _, _, _, _, _, _, _, _, _, _, _, _, _, _, _, _, _, _, _, _, _, _, _, _, _, _, _, _, _, _, _, _, _, _, _, _, _, _, _, _, _, _, _, _, _, _, _, _, _, _, _, rfl⟩
        · rintro a' w' ⟨rfl, x10, x11, x12, x13, x14, x15, x16, x17, x18, x19, x20, x21, x22, x23, x24, x25, x26, x27, x28, x29, x30, x31, x32, x33, x34, x35, x36, x37, x38, x39, x40, x41, x42, x43, x44, x45, x46, x47, x48, x49, x50, x51, x52, x53, x54, x55, x56, x57, x58, x59, x60, x61, x62, x63, x64, x65, x66, x67, x68, x69, x70, x71, x72, rfl⟩
          have HP5 := Lib.hid ((HP.out.below ((Below.refl _ _).alloc (Nat.le_refl _) (.cells #[.int .u8 ((c).toNat : Nat)] 5))).text (t ++ [c]))
          have hcv := conv1b (c) w'
          have hadd := fun W => run_string_add_sum (P := Tryz.prog) W ⟨t.toArray⟩ ⟨[c].toArray⟩ (by have := HK.out; have := HSL.out; simp only [ByteArray.size, List.size_toArray, List.length_cons, List.length_nil]; omega)
          rw [app_arr'] at hadd
          have hce := HP.out.cells2 (c)
          obtain ⟨e1, e2, e3, e4⟩ := hce
          go_wp2
          (try simp only [Exit.jump])
          go_wp2
          go_roundw
          case rel => exact ⟨_, _, _, _, _, _, _, _, _, _, _, _, _, _, _, _, _, _, _, _, _, _, _, _, _, _, _, _, _, _, _, _, _, _, _, _, _, _, _, _, _, _, _, _, _, _, _, _, _, _, _, _, _, _, _, _, _, _, _, _, _, _, _, _, _, _, _, ⟨k + 1, t ++ [c], a, v, by have := HK.out; omega, by go_num, by have := HK.out; (try simp only [List.length_append, List.length_cons, List.length_nil]); omega, by have := HK.out; have := HLA.out; (try simp only [List.length_append, List.length_cons, List.length_nil]); omega, HRR, HP5⟩, rfl⟩
          case measure => have := HK.out; simp [intOf]; omega
      have hc : c = 92 := Decidable.not_not.1 hc3
      subst hc
      by_cases hlt2 : k + 1 < s.length
      · have hlt3 : (k : Int) + 1 < (s.length : Int) := by omega
        have hk10 : (0 : Int) ≤ (k : Int) + 1 := by omega
        have hne2 : ((k : Int) + 1 == (s.length : Int)) = false := by rw [beq_eq_false_iff_ne]; omega
        have hwk2 : IntKind.i64.wrap ((k : Int) + 1 + 1) = (k : Int) + 1 + 1 := by rw [IntKind.wrap_i64]; have := HSL.out; omega
        have hwk3 : IntKind.i64.wrap ((k : Int) + 1 - 1) = (k : Int) := by rw [IntKind.wrap_i64]; have := HSL.out; omega
        have hwk4 : IntKind.i64.wrap (k : Int) = (k : Int) := by rw [IntKind.wrap_i64]; have := HSL.out; omega
        have hkt : ((k : Int) + 1).toNat = k + 1 := by omega
        have hdr2 : s.drop (k + 1) = s[k + 1] :: s.drop (k + 2) := List.drop_eq_getElem_cons hlt2
        rw [hdr2, par_92] at hr
        have hg2 := (show (ByteArray.mk s.toArray)[k + 1]'(by rw [hsz]; exact hlt2) = s[k + 1] from rfl)
        generalize s[k + 1] = d at *
        have HK2 := Lib.hid hlt2
        clear hdr2
        by_cases hd : 49 ≤ d ∧ d ≤ 57
        · have d1 : (49 : Int) ≤ (d.toNat : Int) := by have := UInt8.le_iff_toNat_le.1 hd.1; (have h : (49 : UInt8).toNat ≤ d.toNat := this; have e : (49 : UInt8).toNat = 49 := rfl; omega)
          have d2 : (d.toNat : Int) ≤ 57 := by have := UInt8.le_iff_toNat_le.1 hd.2; (have h : d.toNat ≤ (57 : UInt8).toNat := this; have e : (57 : UInt8).toNat = 57 := rfl; omega)
          have hw8 : IntKind.u8.wrap ((d.toNat : Int) - 48) = (d.toNat : Int) - 48 := by rw [IntKind.wrap_u8]; omega
          rw [if_pos hd] at hr
          obtain ⟨af, haf⟩ : ∃ af, af = a ++ flushP t := ⟨_, rfl⟩
          have HAF := Lib.hid haf
          clear haf
          have HLA := Lib.hid (show af.length ≤ 2 * k + 1 from by rw [HAF.out]; have := HK.out; unfold flushP; split <;> simp <;> omega)
          rw [← HAF.out] at hr
          have HRR := Lib.hid hr
          clear hr
          refine wp_scope_jumps 0 (fun _ _ => False) (fun _ _ => 0) rfl ?_ (fun _ _ h => h.elim)
          go_wp2_with (first
            | (go_at_call 54; refine (flush_any w t a v _ HP.out (by have := HK.out; have := HSL.out; omega)).mono ?_; rintro e w2 ⟨rfl, ao2, n2, cp2, hp⟩; rw [← HAF.out] at hp; have HP2 := Lib.hid hp; clear hp HP c1 c2 c3 c4; obtain ⟨c1, c2, c3, c4⟩ := HP2.out.cells; have HOA := Lib.hid (HP2.out.own.alloc (.cells #[S [], E ((d.toNat : Int) - 48)] 56)))
            | (at_builtin; go_loud (refine wpList_append_own_at _ rfl _ _ 57 rfl w.heap.size 56 i0 _ 2 24 Tryz.underlying57 hi hz0 hz1 hz2 rfl (by decide) _ _ _ rfl HOA.out ⟨_, 0, none⟩ 1 1 [S [], E ((d.toNat : Int) - 48)] rfl rfl (news_pt w2 [] ((d.toNat : Int) - 48)) (by simp [Value.oneCell']) (by unfold maxLen; have := HLA.out; have := HSL.out; have := HK.out; omega) (by have := HLA.out; have := HSL.out; have := HK.out; omega) (by have := HP2.out.bel.size; simp; omega) ?_); intro v3 w4 hown hgrow _ hat; obtain ⟨g', cap', rfl⟩ := ownsRow_succ hown; rw [show flP af ++ [S [], E ((d.toNat : Int) - 48)] = flP (af ++ [⟨[], ((d.toNat : Int) - 48)⟩]) from by rw [flP_append _ [_]]; rfl] at hown; obtain ⟨d1, d2, d3⟩ := HP2.out.grow hown (by simp only [List.length_append, List.length_cons, List.length_nil]) hgrow hat; have HP4 := Lib.hid d1; clear d1 hown hgrow hat HOA c1 c2 c3 c4))
          (try simp only [Exit.jump])
          go_wp2
          go_roundw
          case rel => exact ⟨k + 2, [], af ++ [⟨[], (d.toNat : Int) - 48⟩], _, by have := HK.out; have := HK2.out; omega, by go_num, by have := HK.out; (try simp only [List.length_append, List.length_cons, List.length_nil]); omega, by have := HK.out; have := HLA.out; (try simp only [List.length_append, List.length_cons, List.length_nil]); omega, HRR, HP4⟩
          case measure => have := HK.out; simp [intOf]; omega
        · have hnd : ¬ ((49 : Int) ≤ (d.toNat : Int) ∧ (d.toNat : Int) ≤ 57) := fun q => hd ⟨UInt8.le_iff_toNat_le.2 (by show (49 : UInt8).toNat ≤ d.toNat; have e : (49 : UInt8).toNat = 49 := rfl; omega), UInt8.le_iff_toNat_le.2 (by show d.toNat ≤ (57 : UInt8).toNat; have e : (57 : UInt8).toNat = 57 := rfl; omega)⟩
          rw [if_neg hd] at hr
          have HLA := Lib.hid (show a.length ≤ 2 * k from HK.out.2.2)
          by_cases hn : d = 110
          · rw [if_pos hn] at hr
            subst hn
            clear hnd hd
            have d1 : (49 : Int) ≤ ((110 : UInt8).toNat : Int) := by decide
            have d2 : ¬ ((110 : UInt8).toNat : Int) ≤ 57 := by decide
            obtain ⟨dd, hdd, hdn⟩ : ∃ dd : UInt8, (10 : UInt8) = dd ∧ (dd.toNat : Int) = 10 := ⟨10, rfl, rfl⟩
            rw [hdd] at hr
            clear hdd
            have HRR := Lib.hid hr
            clear hr
            refine wp_scope_jumps 0 (fun _ _ => False) (fun _ _ => 0) rfl ?_ (fun _ _ h => h.elim)
            have HP5 := Lib.hid ((HP.out.below ((Below.refl _ _).alloc (Nat.le_refl _) (.cells #[.int .u8 ((dd).toNat : Nat)] 5))).text (t ++ [dd]))
            have hcv := conv1b (dd) wr
            have hadd := fun W => run_string_add_sum (P := Tryz.prog) W ⟨t.toArray⟩ ⟨[dd].toArray⟩ (by have := HK.out; have := HSL.out; simp only [ByteArray.size, List.size_toArray, List.length_cons, List.length_nil]; omega)
            rw [app_arr'] at hadd
            have hce := HP.out.cells2 (dd)
            obtain ⟨e1, e2, e3, e4⟩ := hce
            rw [hdn] at hcv HP5 e1 e2 e3 e4
            go_wp2_with (go_at_call 55; refine (idx_esc _ _).mono ?_; rintro e w5 ⟨rfl, rfl⟩)
            (try simp only [Exit.jump])
            refine wp_label ?_
            (try simp only [Exit.then])
            go_wp2
            (try simp only [Exit.jump])
            go_wp2
            go_roundw
            case rel => exact ⟨k + 2, t ++ [dd], a, v, by have := HK.out; have := HK2.out; omega, by go_num, by have := HK.out; (try simp only [List.length_append, List.length_cons, List.length_nil]); omega, by have := HK.out; have := HLA.out; (try simp only [List.length_append, List.length_cons, List.length_nil]); omega, HRR, HP5⟩
            case measure => have := HK.out; simp [intOf]; omega
          · rw [if_neg hn] at hr
            have n110 : ((d.toNat : Int) == 110) = false := u8_ne hn
            by_cases he : d = 10 ∨ d = 92 ∨ d = 38 ∨ d = 47
            · rw [if_pos he] at hr
              have hix := idx_at4 he
              have HHE := Lib.hid he
              clear he
              by_cases d1 : (49 : Int) ≤ (d.toNat : Int)
              · have d2 : ¬ (d.toNat : Int) ≤ 57 := fun q => hnd ⟨d1, q⟩
                clear hnd hd
                have HRR := Lib.hid hr
                clear hr
                refine wp_scope_jumps 0 (fun _ _ => False) (fun _ _ => 0) rfl ?_ (fun _ _ h => h.elim)
                have HP5 := Lib.hid ((HP.out.below ((Below.refl _ _).alloc (Nat.le_refl _) (.cells #[.int .u8 ((d).toNat : Nat)] 5))).text (t ++ [d]))
                have hcv := conv1b (d) wr
                have hadd := fun W => run_string_add_sum (P := Tryz.prog) W ⟨t.toArray⟩ ⟨[d].toArray⟩ (by have := HK.out; have := HSL.out; simp only [ByteArray.size, List.size_toArray, List.length_cons, List.length_nil]; omega)
                rw [app_arr'] at hadd
                have hce := HP.out.cells2 (d)
                obtain ⟨e1, e2, e3, e4⟩ := hce
                go_wp2_with (go_at_call 55; refine (idx_esc _ _).mono ?_; rintro e w5 ⟨rfl, rfl⟩)
                (try simp only [Exit.jump])
                refine wp_label ?_
                (try simp only [Exit.then])
                go_wp2
                (try simp only [Exit.jump])
                go_wp2
                go_roundw
                case rel => exact ⟨k + 2, t ++ [d], a, v, by have := HK.out; have := HK2.out; omega, by go_num, by have := HK.out; (try simp only [List.length_append, List.length_cons, List.length_nil]); omega, by have := HK.out; have := HLA.out; (try simp only [List.length_append, List.length_cons, List.length_nil]); omega, HRR, HP5⟩
                case measure => have := HK.out; simp [intOf]; omega
              · clear hnd hd
                have HRR := Lib.hid hr
                clear hr
                refine wp_scope_jumps 0 (fun _ _ => False) (fun _ _ => 0) rfl ?_ (fun _ _ h => h.elim)
                have HP5 := Lib.hid ((HP.out.below ((Below.refl _ _).alloc (Nat.le_refl _) (.cells #[.int .u8 ((d).toNat : Nat)] 5))).text (t ++ [d]))
                have hcv := conv1b (d) wr
                have hadd := fun W => run_string_add_sum (P := Tryz.prog) W ⟨t.toArray⟩ ⟨[d].toArray⟩ (by have := HK.out; have := HSL.out; simp only [ByteArray.size, List.size_toArray, List.length_cons, List.length_nil]; omega)
                rw [app_arr'] at hadd
                have hce := HP.out.cells2 (d)
                obtain ⟨e1, e2, e3, e4⟩ := hce
                go_wp2_with (go_at_call 55; refine (idx_esc _ _).mono ?_; rintro e w5 ⟨rfl, rfl⟩)
                (try simp only [Exit.jump])
                refine wp_label ?_
                (try simp only [Exit.then])
                go_wp2
                (try simp only [Exit.jump])
                go_wp2
                go_roundw
                case rel => exact ⟨k + 2, t ++ [d], a, v, by have := HK.out; have := HK2.out; omega, by go_num, by have := HK.out; (try simp only [List.length_append, List.length_cons, List.length_nil]); omega, by have := HK.out; have := HLA.out; (try simp only [List.length_append, List.length_cons, List.length_nil]); omega, HRR, HP5⟩
                case measure => have := HK.out; simp [intOf]; omega
            · rw [if_neg he] at hr
              have hix := idx_no4 he
              clear he
              by_cases d1 : (49 : Int) ≤ (d.toNat : Int)
              · have d2 : ¬ (d.toNat : Int) ≤ 57 := fun q => hnd ⟨d1, q⟩
                clear hnd hd
                have HRR := Lib.hid hr
                clear hr
                have HN := Lib.hid HP.out.nil
                refine wp_scope_jumps 0 (fun _ _ => False) (fun _ _ => 0) rfl ?_ (fun _ _ h => h.elim)
                go_wp2_with (go_at_call 55; refine (idx_esc _ _).mono ?_; rintro e w5 ⟨rfl, rfl⟩)
                (try simp only [Exit.jump])
                generalize World.setCell _ _ _ = W9 at HN ⊢
                refine bodyPost_ret (results_3 rfl rfl (load_sl W9 w.heap.size none 0 0 HN.out.1)) rfl ?_
                rw [← HRR.out]
                exact ⟨rfl, HN.out.2⟩
              · clear hnd hd
                have HRR := Lib.hid hr
                clear hr
                have HN := Lib.hid HP.out.nil
                refine wp_scope_jumps 0 (fun _ _ => False) (fun _ _ => 0) rfl ?_ (fun _ _ h => h.elim)
                go_wp2_with (go_at_call 55; refine (idx_esc _ _).mono ?_; rintro e w5 ⟨rfl, rfl⟩)
                (try simp only [Exit.jump])
                generalize World.setCell _ _ _ = W9 at HN ⊢
                refine bodyPost_ret (results_3 rfl rfl (load_sl W9 w.heap.size none 0 0 HN.out.1)) rfl ?_
                rw [← HRR.out]
                exact ⟨rfl, HN.out.2⟩
      · have heq2 : ((k : Int) + 1 == (s.length : Int)) = true := by rw [beq_iff_eq]; have := HK.out; omega
        have hwk3 : IntKind.i64.wrap ((k : Int) + 1 - 1) = (k : Int) := by rw [IntKind.wrap_i64]; have := HSL.out; omega
        have hwk4 : IntKind.i64.wrap (k : Int) = (k : Int) := by rw [IntKind.wrap_i64]; have := HSL.out; omega
        have hnil : s.drop (k + 1) = [] := List.drop_eq_nil_of_le (by omega)
        rw [hnil, par_end] at hr
        clear hnil hlt2
        have HRR := Lib.hid hr
        clear hr
        have HN := Lib.hid HP.out.nil
        refine wp_scope_jumps 0 (fun _ _ => False) (fun _ _ => 0) rfl ?_ (fun _ _ h => h.elim)
        go_wp2
        (try simp only [Exit.jump])
        generalize World.setCell _ _ _ = W9 at HN ⊢
        refine bodyPost_ret (results_3 rfl rfl (load_sl W9 w.heap.size none 0 0 HN.out.1)) rfl ?_
        rw [← HRR.out]
        exact ⟨rfl, HN.out.2⟩
    · obtain rfl : k = s.length := by omega
      have hnl : ¬ (s.length : Int) < (s.length : Int) := by omega
      have hr := HR.out
      rw [List.drop_length] at hr
      have HRR := Lib.hid (show (some (a ++ flushP t), 0) = R from hr)
      have HAL := Lib.hid (show a.length ≤ 100000 from by have := HSL.out; omega)
      clear hr HR
      go_wp2_with (go_at_call 54; refine (flush_any w t a v _ HP.out HAL.out).mono ?_; rintro e w2 ⟨rfl, ao2, n2, cp2, hp⟩; have HP2 := Lib.hid hp; clear hp HP c1 c2 c3 c4; obtain ⟨c1, c2, c3, c4⟩ := HP2.out.cells)
      have HP3 := Lib.hid HP2.out.same
      generalize World.setCell _ _ _ = W9 at HP3 ⊢
      refine bodyPost_ret (results_3 rfl rfl (load_sl W9 w.heap.size ao2 n2 cp2 HP3.out.pv)) rfl ?_
      rw [← HRR.out]
      exact ⟨_, rfl, HP3.out.own, HP3.out.bel⟩
end Go.Proofs.YthpiapemjadgdaaGreatDoor.Mt
