/- Addresses: Parse: the walk. -/
import Derived.Test.YtcijhfdccbgcpaaDoorAdR
import Derived.Test.YtcijhfdccbgcpaaDoorAdP
namespace Go.Proofs.YtcijhfdccbgcpaaDoor.Ad
open Go.RowKit Go.Shelf
set_option linter.unusedVariables false
set_option linter.unusedSimpArgs false
def RQ (w0 : World) (a b : A3) (n : Bool) (w : World) : Prop := RCt 25 w w0.heap.size a b n ∧ Below w0.heap.size w0 w
theorem RQ.below {w0 : World} {a b : A3} {n : Bool} {w w' : World} (h : RQ w0 a b n w) (hb : Below w.heap.size w w') : RQ w0 a b n w' := ⟨h.1.below hb, h.2.trans (hb.mono h.2.size)⟩
theorem rq0 (w : World) : RQ w ⟨0, 0, 0⟩ ⟨0, 0, 0⟩ false (w.alloc (.cells #[E 0, E 0, E 0, E 0, E 0, E 0, .bool false] 25)) := ⟨heap_alloc_new _ _, (Below.refl w.heap.size w).alloc (Nat.le_refl _) _⟩
theorem RQ.unfrozen {w0 : World} {a b : A3} {n : Bool} {w : World} (h : RQ w0 a b n w) : w.frozen? ⟨w0.heap.size, 0, none⟩ = false ∧ w.frozen? ⟨w0.heap.size, 1, none⟩ = false ∧ w.frozen? ⟨w0.heap.size, 2, none⟩ = false ∧ w.frozen? ⟨w0.heap.size, 3, none⟩ = false ∧ w.frozen? ⟨w0.heap.size, 4, none⟩ = false ∧ w.frozen? ⟨w0.heap.size, 5, none⟩ = false ∧ w.frozen? ⟨w0.heap.size, 6, none⟩ = false := by
  have h1 : w.heap[w0.heap.size]? = _ := h.1
  exact ⟨by simp [World.frozen?, h1], by simp [World.frozen?, h1], by simp [World.frozen?, h1], by simp [World.frozen?, h1], by simp [World.frozen?, h1], by simp [World.frozen?, h1], by simp [World.frozen?, h1]⟩
theorem RQ.s0 {w0 : World} {a b : A3} {n : Bool} {w : World} (h : RQ w0 a b n w) (x : Int) : RQ w0 ⟨x, a.n, a.m⟩ b n (w.setCell ⟨w0.heap.size, 0, none⟩ (E x)) := ⟨Go.Joins.block_setCell h.1 (i := 0) (E x), h.2.setCell (by simp) _⟩
theorem RQ.s1 {w0 : World} {a b : A3} {n : Bool} {w : World} (h : RQ w0 a b n w) (x : Int) : RQ w0 ⟨a.k, x, a.m⟩ b n (w.setCell ⟨w0.heap.size, 1, none⟩ (E x)) := ⟨Go.Joins.block_setCell h.1 (i := 1) (E x), h.2.setCell (by simp) _⟩
theorem RQ.s2 {w0 : World} {a b : A3} {n : Bool} {w : World} (h : RQ w0 a b n w) (x : Int) : RQ w0 ⟨a.k, a.n, x⟩ b n (w.setCell ⟨w0.heap.size, 2, none⟩ (E x)) := ⟨Go.Joins.block_setCell h.1 (i := 2) (E x), h.2.setCell (by simp) _⟩
theorem RQ.s3 {w0 : World} {a b : A3} {n : Bool} {w : World} (h : RQ w0 a b n w) (x : Int) : RQ w0 a ⟨x, b.n, b.m⟩ n (w.setCell ⟨w0.heap.size, 3, none⟩ (E x)) := ⟨Go.Joins.block_setCell h.1 (i := 3) (E x), h.2.setCell (by simp) _⟩
theorem RQ.s4 {w0 : World} {a b : A3} {n : Bool} {w : World} (h : RQ w0 a b n w) (x : Int) : RQ w0 a ⟨b.k, x, b.m⟩ n (w.setCell ⟨w0.heap.size, 4, none⟩ (E x)) := ⟨Go.Joins.block_setCell h.1 (i := 4) (E x), h.2.setCell (by simp) _⟩
theorem RQ.s5 {w0 : World} {a b : A3} {n : Bool} {w : World} (h : RQ w0 a b n w) (x : Int) : RQ w0 a ⟨b.k, b.n, x⟩ n (w.setCell ⟨w0.heap.size, 5, none⟩ (E x)) := ⟨Go.Joins.block_setCell h.1 (i := 5) (E x), h.2.setCell (by simp) _⟩
theorem RQ.s6 {w0 : World} {a b : A3} {n : Bool} {w : World} (h : RQ w0 a b n w) (x : Bool) : RQ w0 a b x (w.setCell ⟨w0.heap.size, 6, none⟩ (.bool x)) := ⟨Go.Joins.block_setCell h.1 (i := 6) (.bool x), h.2.setCell (by simp) _⟩
theorem RQ.set {w0 : World} {a' b' : A3} {n' : Bool} {w : World} (h : RQ w0 a' b' n' w) (a b : A3) (n : Bool) :
    RQ w0 a b n ((((((((w).setCell ⟨w0.heap.size, 0, none⟩ (E a.k)).setCell ⟨w0.heap.size, 1, none⟩ (E a.n)).setCell ⟨w0.heap.size, 2, none⟩ (E a.m)).setCell ⟨w0.heap.size, 3, none⟩ (E b.k)).setCell ⟨w0.heap.size, 4, none⟩ (E b.n)).setCell ⟨w0.heap.size, 5, none⟩ (E b.m)).setCell ⟨w0.heap.size, 6, none⟩ (.bool n)) :=
  ((((((h.s0 a.k).s1 a.n).s2 a.m).s3 b.k).s4 b.n).s5 b.m).s6 n
theorem ansP {t : TypeId} {fs : Array Field} (hu : Tryd.prog.underlying t = some (.struct fs)) (n : Nat) (hs : (Tryd.prog.info? t).map (·.size) = some n) {fn : Func} {u p : Tmp} (h : fn.results = #[.cell p t, .tmp u]) {tmps : Array Value} {w : World} {x : Value} {g : Nat} {c : Array Value} {tt : TypeId} {fr : Nat × Nat}
    (hx : tmps.getD u undef = x) (hp : tmps.getD p undef = .pointer (some ⟨g, 0, none⟩)) (hg : w.heap[g]? = some (.cells c tt fr)) (hc : c.size = n) : (results fn tmps).run Tryd.prog w = .ok (.tuple #[.agg c, x]) w := by
  have hp' : tmps[p]?.getD undef = .pointer (some ⟨g, 0, none⟩) := by simpa using hp
  have hx' : tmps[u]?.getD undef = x := by simpa using hx
  simp [results, h, hp', hx', asAddr, run_loadVar_row w g tt t c fr (.struct fs) hg hu rfl (by rw [hc]; exact hs)]
theorem infoRg : (Tryd.prog.info? 25).map (·.size) = some 7 := by kernel_rfl
theorem RQ.ans {w0 : World} {a b : A3} {n : Bool} {w : World} (h : RQ w0 a b n w) {x : Int} {tmps : Array Value} (hx : tmps.getD 3 undef = E x) (hp : tmps.getD 2 undef = .pointer (some ⟨w0.heap.size, 0, none⟩)) : (results Tryd.f16 tmps).run Tryd.prog w = .ok (.tuple #[RV a b n, E x]) w :=
  ansP Tryd.underlying25 7 infoRg rfl hx hp h.1 rfl
theorem cutsuf_any (s : List UInt8) (w : World) (hl : s.length ≤ 1000) :
    Calls Tryd.prog 28 #[S s, S [33]] w fun e w' => e = .returned (.tuple #[S (stripN s), .bool (Lib.hasSuffix s [33])]) ∧ w' = w := by
  have h := Tryd.strings_CutSuffix ⟨s.toArray⟩ ⟨#[33]⟩ w (by simp [ByteArray.size]; omega)
  refine h.mono ?_
  rintro e w' ⟨rfl, rfl⟩
  exact ⟨by simp [stripN], rfl⟩
theorem strip_len (s : List UInt8) : (stripN s).length ≤ s.length := by
  unfold stripN Lib.trimSuffix
  split
  · simp
  · exact Nat.le_refl _
abbrev PV (p : (A3 × A3 × Bool) × Int) : Value := .tuple #[RV p.1.1 p.1.2.1 p.1.2.2, E p.2]
set_option maxRecDepth 100000 in
set_option maxHeartbeats 1600000 in
theorem parse_yes (s t x y u : List UInt8) (two nt : Bool) (a b : A3) (w : World) (hL : Lay w) (hl : s.length ≤ 1000) (ht : stripN s = t) (hn : Lib.hasSuffix s [33] = nt) (hx : cutB 44 t = (x, y, two)) (ha : readP x = a) (hb : readP y = b)
    (hp : printR a b nt = (u, 0)) (hu : u = s) :
    Calls Tryd.prog 16 #[S s] w fun e w' => e = .returned (PV (parseP s)) ∧ Below w.heap.size w w' := by
  have hlt : t.length ≤ s.length := by rw [← ht]; exact strip_len s
  have hlx := cut_len hx
  have HO := Lib.hid (show parseP s = ((a, b, nt), 0) from by
    unfold parseP
    simp only [ht, hn, hx, ha, hb, hp]
    rw [if_pos ⟨trivial, hu⟩])
  have HL := Lib.hid hL
  have HR0 := Lib.hid (rq0 w)
  have HX := Lib.hid hx
  have HS := Lib.hid (fun w' => cutsuf_any s w' hl)
  rw [ht, hn] at HS
  have HC := Lib.hid (fun w' => cut_any t 44 w' (by omega))
  have HA := Lib.hid (fun w' (h : Lay w') => read_any x w' h (by omega))
  rw [ha] at HA
  have HB := Lib.hid (fun w' (h : Lay w') => read_any y w' h (by omega))
  rw [hb] at HB
  have HP := Lib.hid (fun w' (h : Lay w') => print_any a b nt w' h)
  rw [hp] at HP
  subst hu
  clear ht hn hx ha hb hp hlx hlt hl
  unfold PV
  rw [HO.out]
  go_enter Tryd.func16, Tryd.ntmps16
  go_wp2_with (first
    | (go_at_call 28; refine (HS.out _).mono ?_; rintro e w' ⟨rfl, hw⟩; have hw2 := hw.symm; clear hw; subst hw2; clear HS)
    | (go_at_call 29; refine (HC.out _).mono ?_; rintro e w1 ⟨he, hb⟩; unfold CutR at he; rw [HX.out] at he; subst he; have HR1 := Lib.hid (HR0.out.below hb); clear hb; clear HC)
    | (go_at_call 30; refine (HA.out _ (HL.out.below HR1.out.2)).mono ?_; rintro e w2 ⟨rfl, hb⟩; have HR2 := Lib.hid (HR1.out.below hb); clear hb; clear HA)
    | (go_at_call 30; have hz := HR2.out; clear HR2; refine (HB.out _ (HL.out.below hz.2)).mono ?_; rintro e w3 ⟨rfl, hb⟩; have HR3 := Lib.hid (hz.below hb); have HN3 := Lib.hid (heap_alloc_new w3 (.cells #[E a.k, E a.n, E a.m, E b.k, E b.n, E b.m, .bool nt] 25)); have HB3 := Lib.hid ((Below.refl w3.heap.size w3).alloc (Nat.le_refl _) (.cells #[E a.k, E a.n, E a.m, E b.k, E b.n, E b.m, .bool nt] 25)); clear hb hz)
    | (go_at_call 13; refine (HP.out _ (HL.out.below (HR3.out.below HB3.out).2)).mono ?_; rintro e w4 ⟨rfl, hb⟩; have HR4 := Lib.hid ((HR3.out.below HB3.out).below hb); have HN4 := Lib.hid (RCt.below HN3.out hb); clear hb; obtain ⟨q0, q1, q2, q3, q4, q5, q6⟩ := RCt.cells HN4.out; obtain ⟨u0, u1, u2, u3, u4, u5, u6⟩ := HR4.out.unfrozen; obtain ⟨v0, v1, v2, v3, v4, v5, v6⟩ := RCt.cells HR4.out.1))
  all_goals go_wp2
  refine bodyPost_ret (v := .tuple #[RV a b nt, E 0]) ?_ ?_ ?_
  · exact (HR4.out.set a b nt).ans rfl rfl
  · rfl
  · exact ⟨rfl, (HR4.out.set a b nt).2⟩
set_option maxRecDepth 100000 in
set_option maxHeartbeats 1600000 in
theorem parse_no (s t x y u : List UInt8) (two nt : Bool) (a b : A3) (w : World) (hL : Lay w) (hl : s.length ≤ 1000) (ht : stripN s = t) (hn : Lib.hasSuffix s [33] = nt) (hx : cutB 44 t = (x, y, two)) (ha : readP x = a) (hb : readP y = b)
    (hp : printR a b nt = (u, 0)) (hu : u ≠ s) :
    Calls Tryd.prog 16 #[S s] w fun e w' => e = .returned (PV (parseP s)) ∧ Below w.heap.size w w' := by
  have hlt : t.length ≤ s.length := by rw [← ht]; exact strip_len s
  have hlx := cut_len hx
  have HO := Lib.hid (show parseP s = ((⟨0, 0, 0⟩, ⟨0, 0, 0⟩, false), 121) from by
    unfold parseP
    simp only [ht, hn, hx, ha, hb, hp]
    rw [if_neg (fun q => hu q.2)])
  have HL := Lib.hid hL
  have HR0 := Lib.hid (rq0 w)
  have HX := Lib.hid hx
  have HS := Lib.hid (fun w' => cutsuf_any s w' hl)
  rw [ht, hn] at HS
  have HC := Lib.hid (fun w' => cut_any t 44 w' (by omega))
  have HA := Lib.hid (fun w' (h : Lay w') => read_any x w' h (by omega))
  rw [ha] at HA
  have HB := Lib.hid (fun w' (h : Lay w') => read_any y w' h (by omega))
  rw [hb] at HB
  have HP := Lib.hid (fun w' (h : Lay w') => print_any a b nt w' h)
  rw [hp] at HP
  have huB : (u != s) = true := by rw [bne_iff_ne]; exact hu
  have huE : (u == s) = false := by rw [beq_eq_false_iff_ne]; exact hu
  clear hu
  clear ht hn hx ha hb hp hlx hlt hl
  unfold PV
  rw [HO.out]
  go_enter Tryd.func16, Tryd.ntmps16
  go_wp2_with (first
    | (go_at_call 28; refine (HS.out _).mono ?_; rintro e w' ⟨rfl, hw⟩; have hw2 := hw.symm; clear hw; subst hw2; clear HS)
    | (go_at_call 29; refine (HC.out _).mono ?_; rintro e w1 ⟨he, hb⟩; unfold CutR at he; rw [HX.out] at he; subst he; have HR1 := Lib.hid (HR0.out.below hb); clear hb; clear HC)
    | (go_at_call 30; refine (HA.out _ (HL.out.below HR1.out.2)).mono ?_; rintro e w2 ⟨rfl, hb⟩; have HR2 := Lib.hid (HR1.out.below hb); clear hb; clear HA)
    | (go_at_call 30; have hz := HR2.out; clear HR2; refine (HB.out _ (HL.out.below hz.2)).mono ?_; rintro e w3 ⟨rfl, hb⟩; have HR3 := Lib.hid (hz.below hb); have HN3 := Lib.hid (heap_alloc_new w3 (.cells #[E a.k, E a.n, E a.m, E b.k, E b.n, E b.m, .bool nt] 25)); have HB3 := Lib.hid ((Below.refl w3.heap.size w3).alloc (Nat.le_refl _) (.cells #[E a.k, E a.n, E a.m, E b.k, E b.n, E b.m, .bool nt] 25)); clear hb hz)
    | (go_at_call 13; refine (HP.out _ (HL.out.below (HR3.out.below HB3.out).2)).mono ?_; rintro e w4 ⟨rfl, hb⟩; have HR4 := Lib.hid ((HR3.out.below HB3.out).below hb); have HN4 := Lib.hid (RCt.below HN3.out hb); clear hb; obtain ⟨q0, q1, q2, q3, q4, q5, q6⟩ := RCt.cells HN4.out; obtain ⟨u0, u1, u2, u3, u4, u5, u6⟩ := HR4.out.unfrozen; obtain ⟨v0, v1, v2, v3, v4, v5, v6⟩ := RCt.cells HR4.out.1))
  refine bodyPost_ret (v := .tuple #[RV ⟨0, 0, 0⟩ ⟨0, 0, 0⟩ false, E 121]) ?_ ?_ ?_
  · exact (HR4.out.set ⟨0, 0, 0⟩ ⟨0, 0, 0⟩ false).ans rfl rfl
  · rfl
  · exact ⟨rfl, (HR4.out.set ⟨0, 0, 0⟩ ⟨0, 0, 0⟩ false).2⟩
set_option maxRecDepth 100000 in
set_option maxHeartbeats 1600000 in
theorem parse_err (s t x y u : List UInt8) (two nt : Bool) (a b : A3) (w : World) (hL : Lay w) (hl : s.length ≤ 1000) (ht : stripN s = t) (hn : Lib.hasSuffix s [33] = nt) (hx : cutB 44 t = (x, y, two)) (ha : readP x = a) (hb : readP y = b)
    (hp : printR a b nt = (u, 1))  :
    Calls Tryd.prog 16 #[S s] w fun e w' => e = .returned (PV (parseP s)) ∧ Below w.heap.size w w' := by
  have hlt : t.length ≤ s.length := by rw [← ht]; exact strip_len s
  have hlx := cut_len hx
  have HO := Lib.hid (show parseP s = ((⟨0, 0, 0⟩, ⟨0, 0, 0⟩, false), 121) from by
    unfold parseP
    simp only [ht, hn, hx, ha, hb, hp]
    rw [if_neg (fun q => by simp at q)])
  have HL := Lib.hid hL
  have HR0 := Lib.hid (rq0 w)
  have HX := Lib.hid hx
  have HS := Lib.hid (fun w' => cutsuf_any s w' hl)
  rw [ht, hn] at HS
  have HC := Lib.hid (fun w' => cut_any t 44 w' (by omega))
  have HA := Lib.hid (fun w' (h : Lay w') => read_any x w' h (by omega))
  rw [ha] at HA
  have HB := Lib.hid (fun w' (h : Lay w') => read_any y w' h (by omega))
  rw [hb] at HB
  have HP := Lib.hid (fun w' (h : Lay w') => print_any a b nt w' h)
  rw [hp] at HP
  clear ht hn hx ha hb hp hlx hlt hl
  unfold PV
  rw [HO.out]
  go_enter Tryd.func16, Tryd.ntmps16
  go_wp2_with (first
    | (go_at_call 28; refine (HS.out _).mono ?_; rintro e w' ⟨rfl, hw⟩; have hw2 := hw.symm; clear hw; subst hw2; clear HS)
    | (go_at_call 29; refine (HC.out _).mono ?_; rintro e w1 ⟨he, hb⟩; unfold CutR at he; rw [HX.out] at he; subst he; have HR1 := Lib.hid (HR0.out.below hb); clear hb; clear HC)
    | (go_at_call 30; refine (HA.out _ (HL.out.below HR1.out.2)).mono ?_; rintro e w2 ⟨rfl, hb⟩; have HR2 := Lib.hid (HR1.out.below hb); clear hb; clear HA)
    | (go_at_call 30; have hz := HR2.out; clear HR2; refine (HB.out _ (HL.out.below hz.2)).mono ?_; rintro e w3 ⟨rfl, hb⟩; have HR3 := Lib.hid (hz.below hb); have HN3 := Lib.hid (heap_alloc_new w3 (.cells #[E a.k, E a.n, E a.m, E b.k, E b.n, E b.m, .bool nt] 25)); have HB3 := Lib.hid ((Below.refl w3.heap.size w3).alloc (Nat.le_refl _) (.cells #[E a.k, E a.n, E a.m, E b.k, E b.n, E b.m, .bool nt] 25)); clear hb hz)
    | (go_at_call 13; refine (HP.out _ (HL.out.below (HR3.out.below HB3.out).2)).mono ?_; rintro e w4 ⟨rfl, hb⟩; have HR4 := Lib.hid ((HR3.out.below HB3.out).below hb); have HN4 := Lib.hid (RCt.below HN3.out hb); clear hb; obtain ⟨q0, q1, q2, q3, q4, q5, q6⟩ := RCt.cells HN4.out; obtain ⟨u0, u1, u2, u3, u4, u5, u6⟩ := HR4.out.unfrozen; obtain ⟨v0, v1, v2, v3, v4, v5, v6⟩ := RCt.cells HR4.out.1))
  refine bodyPost_ret (v := .tuple #[RV ⟨0, 0, 0⟩ ⟨0, 0, 0⟩ false, E 121]) ?_ ?_ ?_
  · exact (HR4.out.set ⟨0, 0, 0⟩ ⟨0, 0, 0⟩ false).ans rfl rfl
  · rfl
  · exact ⟨rfl, (HR4.out.set ⟨0, 0, 0⟩ ⟨0, 0, 0⟩ false).2⟩
theorem parse_any (s : List UInt8) (w : World) (hL : Lay w) (hl : s.length ≤ 1000) :
    Calls Tryd.prog 16 #[S s] w fun e w' => e = .returned (PV (parseP s)) ∧ Below w.heap.size w w' := by
  by_cases hm : May (readP (cutB 44 (stripN s)).1) (readP (cutB 44 (stripN s)).2.1)
  · by_cases hu : textA (readP (cutB 44 (stripN s)).1) ++ tailB (readP (cutB 44 (stripN s)).2.1) ++ tailN (Lib.hasSuffix s [33]) = s
    · exact parse_yes s _ _ _ _ _ _ _ _ w hL hl rfl rfl rfl rfl rfl (by unfold printR; rw [if_pos hm]) hu
    · exact parse_no s _ _ _ _ _ _ _ _ w hL hl rfl rfl rfl rfl rfl (by unfold printR; rw [if_pos hm]) hu
  · exact parse_err s _ _ _ _ _ _ _ _ w hL hl rfl rfl rfl rfl rfl (by unfold printR; rw [if_neg hm])
end Go.Proofs.YtcijhfdccbgcpaaDoor.Ad
