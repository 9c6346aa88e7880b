/- The texts RxNum2 RxLook RxTxt RxFo RxFw RxP MtM MtA. -/
import Derived.Laws.EntriesVeiled
import Derived.Laws.Concat
import Derived.Deep.RegionHeld3
import Derived.Test.YthpiapemjadgdaaGreatDoorCk02
import Derived.Test.YthpiapemjadgdaaGreatDoorCk07
import Derived.Test.YthpiapemjadgdaaGreatDoorCk08
import Derived.Test.YthpiapemjadgdaaGreatDoorCk09
import Derived.Test.YthpiapemjadgdaaGreatDoorCk10
set_option linter.unusedVariables false
set_option linter.unusedSimpArgs false
set_option maxHeartbeats 1600000
set_option maxRecDepth 100000
namespace Go.Proofs.YthpiapemjadgdaaGreatDoor.Rx
open Go.RowKit Go.Shelf
open St (Wf word zeroW)
open Tr
theorem num_tree (em : Prop) (w0 : World) (b0 o0 c : Nat) (l : List Nd) (hNS : Ns w0 (.slice (some ⟨b0, o0, none⟩) l.length c) l) :
  ∀ (t : Tr) (o : Nat) (s : NSt) (w : World), t.Fine em → At l t o → 0 ≤ s.g → s.g + cnt t ≤ 1000 → NW w0 (.slice (some ⟨b0, o0, none⟩) l.length c) s w → Wlk w0 (.slice (some ⟨b0, o0, none⟩) l.length c) (o + t.size - 1) (numT t) s w := by
 have key : ∀ (t : Tr) (o : Nat) (s : NSt) (w : World), At l t o → NW w0 (.slice (some ⟨b0, o0, none⟩) l.length c) s w → ((o + t.size - 1 : Nat) : Int) < ((l.length : Nat) : Int) ∧ NCell w b0 (o0 + (o + t.size - 1) * 10) (t.root o) := by
  intro t o s w ha hN;have h := at_root ha;obtain ⟨hi, e⟩ := List.getElem?_eq_some_iff.1 h;obtain ⟨b, o', e1, hc⟩ := (hNS.below hN.bel).at hi;simp only [Option.some.injEq, Addr.mk.injEq, and_true] at e1;obtain ⟨rfl, rfl⟩ := e1;rw [e] at hc;exact ⟨by omega, hc⟩
 intro t
 induction t with
 | e | set z | beg | fin =>
  intro o s w hf ha hg hg2 hN;obtain ⟨k1, k2⟩ := key _ o s w ha hN;exact num_leaf w0 w b0 o0 l.length c _ s k1 _ rfl rfl rfl rfl rfl hN k2
 | cat x y ihx ihy =>
  intro o s w hf ha hg hg2 hN;obtain ⟨k1, k2⟩ := key _ o s w ha hN;have px := cnt_pos x;have py := cnt_pos y;simp only [cnt] at hg2;have hx : At l x o := at_left (r := y.nodes (o + x.size) ++ [(Tr.cat x y).root o]) ha (by simp only [nodes, List.append_assoc]);have hy : At l y (o + x.size) := at_right (x := x) (r := [(Tr.cat x y).root o]) ha (by simp only [nodes, List.append_assoc]);exact num_4 w0 w b0 o0 l.length c _ s k1 z4 (o + x.size - 1) (o + x.size + y.size - 1) 0 0 0 (numT x) (numT y)
   (Hd fun w hN => ihx o s w hf.1 hx hg (by omega) hN) (Hd fun w hN => ihy (o + x.size) _ w hf.2.1 hy (by rw [num_g]; omega) (by rw [num_g]; omega) hN) hN k2
 | alt x y ihx ihy =>
  intro o s w hf ha hg hg2 hN;obtain ⟨k1, k2⟩ := key _ o s w ha hN;have px := cnt_pos x;have py := cnt_pos y;simp only [cnt] at hg2;have hx : At l x o := at_left (r := y.nodes (o + x.size) ++ [(Tr.alt x y).root o]) ha (by simp only [nodes, List.append_assoc]);have hy : At l y (o + x.size) := at_right (x := x) (r := [(Tr.alt x y).root o]) ha (by simp only [nodes, List.append_assoc]);exact num_5 w0 w b0 o0 l.length c _ s k1 z4 (o + x.size - 1) (o + x.size + y.size - 1) 0 0 0 (numT x) (numT y)
   (Hd fun w hN => ihx o s w hf.1 hx hg (by omega) hN) (Hd fun w hN => ihy (o + x.size) _ w hf.2.1 hy (by rw [num_g]; omega) (by rw [num_g]; omega) hN) hN k2
 | times mn mx x ihx =>
  intro o s w hf ha hg hg2 hN;obtain ⟨k1, k2⟩ := key _ o s w ha hN;simp only [cnt] at hg2;have hx : At l x o := at_left (r := [(Tr.times mn mx x).root o]) ha rfl;exact num_6 w0 w b0 o0 l.length c _ s k1 z4 (o + x.size - 1) 0 mn mx 0 (numT x) (Hd fun w hN => ihx o s w hf.1 hx hg (by omega) hN) hN k2
 | grp n x ihx =>
  intro o s w hf ha hg hg2 hN;obtain ⟨k1, k2⟩ := key _ o s w ha hN;have px := cnt_pos x;simp only [cnt] at hg2;have hx : At l x o := at_left (r := [(Tr.grp n x).root o]) ha rfl;obtain ⟨h1, h2, h3⟩ := hf;obtain ⟨u, rfl⟩ : ∃ u : Nat, n = u := ⟨n.toNat, by omega⟩;cases hok : s.ok with
  | false =>
   (have e : numT (.grp (u : Int) x) s = (fun s : NSt => (⟨(numT x ⟨s.g + 1, s.e, s.r, false⟩).g, (numT x ⟨s.g + 1, s.e, s.r, false⟩).e.set u true, (numT x ⟨s.g + 1, s.e, s.r, false⟩).r, (numT x ⟨s.g + 1, s.e, s.r, false⟩).ok⟩ : NSt)) s := by simp only [numT, hok, Bool.false_and, Int.toNat_natCast]);have h := num_7f w0 w b0 o0 l.length c _ s k1 z4 (o + x.size - 1) u 0 0 0 (numT x) (by omega) hg (by omega) hok (Hd fun w hN => ihx o _ w h1 hx (by show 0 ≤ s.g + 1; omega) (by show s.g + 1 + cnt x ≤ 1000; omega) hN) hN k2;unfold Wlk;rw [e];exact h
  | true =>
   by_cases hm : (u : Int) = s.g + 1
   · (have e : numT (.grp (u : Int) x) s = (fun s : NSt => (⟨(numT x ⟨s.g + 1, s.e, s.r, true⟩).g, (numT x ⟨s.g + 1, s.e, s.r, true⟩).e.set u true, (numT x ⟨s.g + 1, s.e, s.r, true⟩).r, (numT x ⟨s.g + 1, s.e, s.r, true⟩).ok⟩ : NSt)) s := by simp only [numT, hok, decide_eq_true hm, Bool.and_self, Int.toNat_natCast]);have h := num_7t w0 w b0 o0 l.length c _ s k1 z4 (o + x.size - 1) u 0 0 0 (numT x) (by omega) hg (by omega) hok (by rw [beq_iff_eq]; exact hm) (Hd fun w hN => ihx o _ w h1 hx (by show 0 ≤ s.g + 1; omega) (by show s.g + 1 + cnt x ≤ 1000; omega) hN) hN k2;unfold Wlk;rw [e];exact h
   · (have e : numT (.grp (u : Int) x) s = (fun s : NSt => (⟨(numT x ⟨s.g + 1, s.e, s.r, false⟩).g, (numT x ⟨s.g + 1, s.e, s.r, false⟩).e.set u true, (numT x ⟨s.g + 1, s.e, s.r, false⟩).r, (numT x ⟨s.g + 1, s.e, s.r, false⟩).ok⟩ : NSt)) s := by simp only [numT, hok, decide_eq_false hm, Bool.and_false, Int.toNat_natCast]);have h := num_7n w0 w b0 o0 l.length c _ s k1 z4 (o + x.size - 1) u 0 0 0 (numT x) (by omega) hg (by omega) hok (by rw [beq_eq_false_iff_ne]; exact hm) (Hd fun w hN => ihx o _ w h1 hx (by show 0 ≤ s.g + 1; omega) (by show s.g + 1 + cnt x ≤ 1000; omega) hN) hN k2;unfold Wlk;rw [e];exact h
 | ref n =>
  intro o s w hf ha hg hg2 hN;obtain ⟨k1, k2⟩ := key _ o s w ha hN;obtain ⟨h1, h2⟩ := hf;obtain ⟨u, rfl⟩ : ∃ u : Nat, n = u := ⟨n.toNat, by omega⟩;cases hok : s.ok with
  | false =>
   (have e : numT (.ref (u : Int)) s = (fun s : NSt => (⟨s.g, s.e, true, false⟩ : NSt)) s := by simp only [numT, hok, Bool.false_and]);have h := num_8f w0 w b0 o0 l.length c _ s k1 z4 u 0 0 0 0 (by omega) hok hN k2;unfold Wlk;rw [e];exact h
  | true =>
   (have e : numT (.ref (u : Int)) s = (fun s : NSt => (⟨s.g, s.e, true, (s.e[u]?).getD false⟩ : NSt)) s := by simp only [numT, hok, Bool.true_and, Int.toNat_natCast]);have h := num_8t w0 w b0 o0 l.length c _ s k1 z4 u 0 0 0 0 (by omega) hok hN k2;unfold Wlk;rw [e];exact h
/-- The cells with what they hold. -/
def NA (w0 : World) (v : Value) (s : NSt) (w : World) : Prop := NW w0 v s w ∧
  (w.cell? ⟨w0.heap.size + 1, 0, none⟩ = some (E s.g) ∧ w.cell? ⟨w0.heap.size + 1 + 1, 0, none⟩ = some (.bool s.r) ∧ w.cell? ⟨w0.heap.size + 1 + 1 + 1, 0, none⟩ = some (.bool s.ok)) ∧
  (w.frozen? ⟨w0.heap.size + 1, 0, none⟩ = false ∧ w.frozen? ⟨w0.heap.size + 1 + 1, 0, none⟩ = false ∧ w.frozen? ⟨w0.heap.size + 1 + 1 + 1, 0, none⟩ = false)
theorem NW.all {w0 w : World} {v : Value} {s : NSt} (h : NW w0 v s w) : NA w0 v s w := ⟨h, ⟨h.cells.1.2.1, h.cells.1.2.2.1, h.cells.1.2.2.2.1⟩, h.cells.2⟩
theorem NW.drew {w0 w : World} {v : Value} {s : NSt} (h : NW w0 v s w) : NW w0 v s w.drew := ⟨h.l, h.g, h.r, h.ok, h.e, h.f, h.len, h.bel.drew⟩
abbrev F10 : Array Value := #[.bool false, .bool false, .bool false, .bool false, .bool false, .bool false, .bool false, .bool false, .bool false, .bool false]
theorem nw_start (w : World) (v : Value) : NW w v num0 ((((((w.alloc (.cells #[v] 22)).alloc (.cells #[E 0] 3)).alloc (.cells #[.bool false] 4)).alloc (.cells #[.bool true] 4)).alloc (.cells F10 157)).alloc (.cells #[FV w.heap.size] 174)) := by
 (have key : ∀ (W : World) (o : Obj) (k : Nat), k = W.heap.size → (W.alloc o).heap[k]? = some o := fun W o k h => by subst h; exact heap_alloc_new W o);(have far : ∀ (W : World) (o o' : Obj) (k : Nat), k < W.heap.size → W.heap[k]? = some o' → (W.alloc o).heap[k]? = some o' := fun W o o' k h h2 => (Below.heap_alloc _ _ _ h).trans h2);refine ⟨?_, ?_, ?_, ?_, ?_, ?_, rfl, ?_⟩
 · exact far _ _ _ _ (by simp; try omega) (far _ _ _ _ (by simp; try omega) (far _ _ _ _ (by simp; try omega) (far _ _ _ _ (by simp; try omega) (far _ _ _ _ (by simp) (key _ _ _ rfl)))))
 · exact far _ _ _ _ (by simp; try omega) (far _ _ _ _ (by simp; try omega) (far _ _ _ _ (by simp; try omega) (far _ _ _ _ (by simp) (key _ _ _ (by simp)))))
 · exact far _ _ _ _ (by simp; try omega) (far _ _ _ _ (by simp; try omega) (far _ _ _ _ (by simp) (key _ _ _ (by simp))))
 · exact far _ _ _ _ (by simp; try omega) (far _ _ _ _ (by simp) (key _ _ _ (by simp)))
 · exact far _ _ _ _ (by simp) (key _ _ _ (by simp))
 · exact key _ _ _ (by simp)
 · exact (((((Below.refl w.heap.size w).alloc (Nat.le_refl _) _).alloc (by simp) _).alloc (by simp; omega) _).alloc (by simp; omega) _).alloc (by simp; omega) _ |>.alloc (by simp; omega) _
theorem results_cell3 {fn : Func} {p q r : Tmp} {a b c : TypeId} (h : fn.results = #[.cell p a, .cell q b, .cell r c]) (tmps : Array Value) (P : Program) (w : World) :
  (results fn tmps).run P w =
   ((asAddr (tmps.getD p undef)).run P w).andThen fun x w₁ => ((loadVar a x).run P w₁).andThen fun v w₂ =>
   ((asAddr (tmps.getD q undef)).run P w₂).andThen fun x w₁ => ((loadVar b x).run P w₁).andThen fun v' w₂ =>
   ((asAddr (tmps.getD r undef)).run P w₂).andThen fun x w₁ => ((loadVar c x).run P w₁).andThen fun v'' w₂ => .ok (.tuple #[v, v', v'']) w₂ := by
 simp only [results, h];simp [Sem.run_bind, Result.andThen]
theorem numbered_tree (t : Tr) (ao : Option Addr) (c : Nat) (w : World) (h : Ns w (.slice ao (t.nodes 0).length c) (t.nodes 0)) (hw : Whole t) (hs : t.size ≤ 120) :
  Calls Tryz.prog 74 #[.slice ao (t.nodes 0).length c] w fun e w' => e = .returned (.tuple #[E (numT t num0).g, .bool (numT t num0).r, .bool (numT t num0).ok]) ∧ Below w.heap.size w w' := by
 have hp := size_pos t;have hlen := nodes_len t 0;(have hmf : ∀ (fn : Fn) (first cap : Array Value) (w : World), (Instr.makeFunc fn first cap).run Tryz.prog w = .ok (.func fn first cap) w := fun _ _ _ _ => rfl);obtain ⟨b0, o0, rfl, _⟩ := h.at (i := 0) (by omega);obtain ⟨s1, hs1⟩ : ∃ s1, s1 = numT t num0 := ⟨_, rfl⟩;rw [← hs1];have HC : Hid (∀ W, NW w (.slice (some ⟨b0, o0, none⟩) t.size c) num0 W → Wlk w (.slice (some ⟨b0, o0, none⟩) t.size c) (t.size - 1) (fun _ => s1) num0 W) := Hd (fun W hN => by
  subst hs1;rw [← hlen] at hN ⊢;have := num_tree (t.size ≤ 1) w b0 o0 c _ h t 0 num0 W hw (at_self t) (by decide) (by
   have := cnt_size t;show 0 + cnt t ≤ 1000;omega) hN
  rw [Nat.zero_add, ← hlen] at this;exact this)
 clear hs1;rw [hlen];clear h;(have hlt : (1 : Int) ≤ ((t.size : Nat) : Int) := by omega);(have hsub : IntKind.i64.wrap (((t.size : Nat) : Int) - 1) = ((t.size - 1 : Nat) : Int) := by rw [IntKind.wrap_i64]; omega);go_enter Tryz.func74, Tryz.ntmps74;go_wp2_with (go_at_call 101; refine (HC.out _ (nw_start w _)).mono ?_; rintro e w1 ⟨rfl, hn, hk⟩; have HN1 := Hd hn; obtain ⟨⟨c0, c1, c2, c3, c5⟩, cf1, cf2, cf3⟩ := HN1.out.cells; have HN2 := Hd HN1.out.drew; clear hn hk);refine Tk.g (fun w' => NW w (.slice (some ⟨b0, o0, none⟩) t.size c) s1 w' ∧ (w'.cell? ⟨w.heap.size + 1, 0, none⟩ = some (E s1.g) ∧ w'.cell? ⟨w.heap.size + 1 + 1, 0, none⟩ = some (.bool s1.r) ∧ w'.cell? ⟨w.heap.size + 1 + 1 + 1, 0, none⟩ = some (.bool s1.ok)) ∧
  (w'.frozen? ⟨w.heap.size + 1, 0, none⟩ = false ∧ w'.frozen? ⟨w.heap.size + 1 + 1, 0, none⟩ = false ∧ w'.frozen? ⟨w.heap.size + 1 + 1 + 1, 0, none⟩ = false)) (by exact HN2.out.all) fun hH => ?_
 clear HN1 HN2;generalize w1.drew = w2 at *;refine Tk.t 0 ?_;refine Tk.t 1 ?_;refine Tk.t 2 ?_;refine Tk.o 3 (fun K hK => ?_);obtain ⟨hN0, ⟨y0, y1, y2⟩, y3, y4, y5⟩ := hH;go_simp;refine hK.out _ _ ?_ (fun hH => Tk.w ?_)
 · (try dsimp only); (first | exact (NW.setG hN0 s1.g).all | exact (NW.setR hN0 s1.r).all | exact (NW.setO hN0 s1.ok).all)
 clear hK K;refine Tk.o 4 (fun K hK => ?_);obtain ⟨hN0, ⟨y0, y1, y2⟩, y3, y4, y5⟩ := hH;go_simp;refine hK.out _ _ ?_ (fun hH => Tk.w ?_)
 · (try dsimp only); (first | exact (NW.setG hN0 s1.g).all | exact (NW.setR hN0 s1.r).all | exact (NW.setO hN0 s1.ok).all)
 clear hK K;refine Tk.o 5 (fun K hK => ?_);obtain ⟨hN0, ⟨y0, y1, y2⟩, y3, y4, y5⟩ := hH;go_simp;refine hK.out _ _ ?_ (fun hH => Tk.w ?_)
 · (try dsimp only); (first | exact (NW.setG hN0 s1.g).all | exact (NW.setR hN0 s1.r).all | exact (NW.setO hN0 s1.ok).all)
 clear hK K;refine Tk.d ?_;have HZ := Hd hH;obtain ⟨_, ⟨y0, y1, y2⟩, _⟩ := hH;go_wp2;refine bodyPost_ret (v := .tuple #[E s1.g, .bool s1.r, .bool s1.ok]) ?_ rfl ⟨rfl, HZ.out.1.bel⟩;rw [results_cell3 rfl];go_simp
abbrev LR (l : List Nd) : Value := .tuple #[E (groupsL l), .bool (refsL l), .bool (mayL l)]
theorem lr_none {l : List Nd} (h : patOf l = none) : LR l = .tuple #[E 0, .bool false, .bool false] := by
 unfold LR groupsL refsL mayL; rw [h]; rfl
theorem lr_some {l : List Nd} {t : Tr} (h : patOf l = some t) : LR l = .tuple #[E (cnt t), .bool (decide (0 < refsT t)), .bool true] := by
 unfold LR groupsL refsL mayL; rw [h]; rfl
theorem pat_long {l : List Nd} (h : 120 < l.length) : patOf l = none := by
 cases e : patOf l with
 | none => rfl
 | some t =>
  obtain ⟨h1, h2⟩ := patOf_some e;have := h2.2.1;rw [h1, nodes_len] at h;omega
theorem pat_out {l : List Nd} (h : ¬ Ordered l) : patOf l = none := by
 cases e : patOf l with
 | none => rfl
 | some t =>
  obtain ⟨h1, h2⟩ := patOf_some e;exact absurd ((ordered_iff l).2 ⟨t, h2.1, h1⟩) h
theorem look_nil (ao : Option Addr) (c : Nat) (w : World) : Calls Tryz.prog 50 #[.slice ao 0 c] w fun e w' => e = .returned (.tuple #[E 0, .bool false, .bool false]) ∧ Below w.heap.size w w' := by
 go_enter Tryz.func50, Tryz.ntmps50;go_wp2;refine bodyPost_ret (v := .tuple #[E 0, .bool false, .bool false]) ?_ rfl ⟨rfl, Below.refl _ _⟩;rw [results_tmp3 rfl];rfl
theorem look_long (ao : Option Addr) (n c : Nat) (h : 120 < n) (w : World) : Calls Tryz.prog 50 #[.slice ao n c] w fun e w' => e = .returned (.tuple #[E 0, .bool false, .bool false]) ∧ Below w.heap.size w w' := by
 (have h0 : (((n : Nat) : Int) == 0) = false := by simp; omega);(have h1 : (120 : Int) < ((n : Nat) : Int) := by omega);go_enter Tryz.func50, Tryz.ntmps50;go_wp2;refine bodyPost_ret (v := .tuple #[E 0, .bool false, .bool false]) ?_ rfl ⟨rfl, Below.refl _ _⟩;rw [results_tmp3 rfl];rfl
theorem look_out (ao : Option Addr) (c : Nat) (l : List Nd) (w : World) (h : Ns w (.slice ao l.length c) l) (hw : ∀ n ∈ l, Wf n.s) (hl0 : 0 < l.length) (hl : l.length ≤ 120) (ho : ¬ Ordered l) :
  Calls Tryz.prog 50 #[.slice ao l.length c] w fun e w' => e = .returned (.tuple #[E 0, .bool false, .bool false]) ∧ Below w.heap.size w w' := by
 have C1 := ordered_any ao c l w h hw hl;rw [decide_eq_false ho] at C1;have HC := Hd C1;clear C1 h hw ho;(have h0 : (((l.length : Nat) : Int) == 0) = false := by rw [beq_eq_false_iff_ne]; omega);(have h1 : ¬ (120 : Int) < ((l.length : Nat) : Int) := by omega);generalize l.length = n at *;go_enter Tryz.func50, Tryz.ntmps50;go_wp2_with (go_at_call 73; refine HC.out.mono ?_; rintro e w1 ⟨rfl, hb⟩; have HB := Hd hb; clear hb);refine bodyPost_ret (v := .tuple #[E 0, .bool false, .bool false]) ?_ rfl ⟨rfl, HB.out⟩;rw [results_tmp3 rfl];rfl
theorem look_tree (t : Tr) (ao : Option Addr) (c : Nat) (w : World) (h : Ns w (.slice ao (t.nodes 0).length c) (t.nodes 0)) (hw : ∀ n ∈ t.nodes 0, Wf n.s) (ht : Whole t) (hs : t.size ≤ 120) :
  Calls Tryz.prog 50 #[.slice ao (t.nodes 0).length c] w fun e w' => e = .returned (LR (t.nodes 0)) ∧ Below w.heap.size w w' := by
 have hp := size_pos t;have hlen := nodes_len t 0;have C1 := ordered_any ao c _ w h hw (by omega);rw [decide_eq_true ((ordered_iff _).2 ⟨t, ht, rfl⟩)] at C1;have HC := Hd C1;have HC2 := Hd (fun w' (hb : Below w.heap.size w w') => numbered_tree t ao c w' (h.below hb) ht hs);have HL : Hid (LR (t.nodes 0) = if (numT t num0).ok = true then .tuple #[E (numT t num0).g, .bool (numT t num0).r, .bool true] else .tuple #[E 0, .bool false, .bool false]) := Hd (by
  split
  · rename_i hok;rw [lr_some (patOf_good ⟨ht, hs, hok⟩), num_g, num_r];show _ = Value.tuple #[E (0 + cnt t), .bool (false || _), .bool true];rw [Int.zero_add, Bool.false_or]
  ·
   rename_i hok;refine lr_none ?_;cases e : patOf (t.nodes 0) with
   | none => rfl
   | some u =>
    obtain ⟨h1, h2⟩ := patOf_some e;obtain rfl := nodes_inj t u 0 h1;exact absurd h2.2.2 hok)
 clear C1 h hw;(have h0 : (((t.nodes 0).length : Int) == 0) = false := by rw [hlen]; simp; omega);(have h1 : ¬ (120 : Int) < (((t.nodes 0).length : Nat) : Int) := by omega);clear hlen;generalize (t.nodes 0).length = n at *;generalize numT t num0 = s1 at *;cases hok : s1.ok with
 | false =>
  rw [hok] at HC2 HL;go_enter Tryz.func50, Tryz.ntmps50;go_wp2_with (first
   | (go_at_call 73; refine HC.out.mono ?_; rintro e w1 ⟨rfl, hb⟩; have HB := Hd hb; clear hb)
   | (go_at_call 74; refine (HC2.out _ HB.out).mono ?_; rintro e w2 ⟨rfl, hb⟩; have HB2 := Hd hb; clear hb))
  refine bodyPost_ret (v := .tuple #[E 0, .bool false, .bool false]) ?_ rfl ⟨by rw [HL.out]; rfl, HB.out.trans (HB2.out.mono HB.out.size)⟩;rw [results_tmp3 rfl];rfl
 | true =>
  rw [hok] at HC2 HL;go_enter Tryz.func50, Tryz.ntmps50;go_wp2_with (first
   | (go_at_call 73; refine HC.out.mono ?_; rintro e w1 ⟨rfl, hb⟩; have HB := Hd hb; clear hb)
   | (go_at_call 74; refine (HC2.out _ HB.out).mono ?_; rintro e w2 ⟨rfl, hb⟩; have HB2 := Hd hb; clear hb))
  refine bodyPost_ret (v := .tuple #[E s1.g, .bool s1.r, .bool true]) ?_ rfl ⟨by rw [HL.out]; rfl, HB.out.trans (HB2.out.mono HB.out.size)⟩;rw [results_tmp3 rfl];rfl
theorem look_any (ao : Option Addr) (c : Nat) (l : List Nd) (w : World) (h : Ns w (.slice ao l.length c) l) (hw : ∀ n ∈ l, Wf n.s) :
  Calls Tryz.prog 50 #[.slice ao l.length c] w fun e w' => e = .returned (LR l) ∧ Below w.heap.size w w' := by
 by_cases h0 : l.length = 0
 · obtain rfl := List.length_eq_zero_iff.1 h0;rw [lr_none rfl];exact look_nil ao c w
 by_cases h1 : 120 < l.length
 · rw [lr_none (pat_long h1)];exact look_long ao l.length c h1 w
 by_cases ho : Ordered l
 · obtain ⟨t, ht, rfl⟩ := (ordered_iff l).1 ho;exact look_tree t ao c w h hw ht (by rw [nodes_len] at h1; omega)
 · rw [lr_none (pat_out ho)];exact look_out ao c l w h hw (by omega) (by omega) ho
theorem may_any (ao : Option Addr) (c : Nat) (l : List Nd) (w : World) (h : Ns w (.slice ao l.length c) l) (hw : ∀ n ∈ l, Wf n.s) :
  Calls Tryz.prog 27 #[.slice ao l.length c] w fun e w' => e = .returned (.bool (mayL l)) ∧ Below w.heap.size w w' := by
 have HC := Hd (look_any ao c l w h hw);clear h hw;generalize l.length = n at *;go_enter Tryz.func27, Tryz.ntmps27;go_wp2_with (go_at_call 50; refine HC.out.mono ?_; rintro e w1 ⟨rfl, hb⟩; have HB := Hd hb; clear hb);go_ret;exact ⟨rfl, HB.out⟩
theorem refs_any (ao : Option Addr) (c : Nat) (l : List Nd) (w : World) (h : Ns w (.slice ao l.length c) l) (hw : ∀ n ∈ l, Wf n.s) :
  Calls Tryz.prog 70 #[.slice ao l.length c] w fun e w' => e = .returned (.bool (refsL l)) ∧ Below w.heap.size w w' := by
 have HC := Hd (look_any ao c l w h hw);clear h hw;generalize l.length = n at *;go_enter Tryz.func70, Tryz.ntmps70;go_wp2_with (go_at_call 50; refine HC.out.mono ?_; rintro e w1 ⟨rfl, hb⟩; have HB := Hd hb; clear hb);go_ret;exact ⟨rfl, HB.out⟩
open St (Wf word zeroW Tab SV SV_eq bytesL bytes_any)
open Ad (dec_len)
theorem infoStr : (Tryz.prog.info? 9).map (fun i => (i.zero, i.size, i.bytes)) = some (some (.string ⟨#[]⟩), 1, 16) := by kernel_rfl
theorem one_str (l : List UInt8) : ∀ u ∈ [S l], u.oneCell' = true := by simp [Value.oneCell']
theorem own_cell' {w : World} {B e n g cap m : Nat} {xs : List Value} (h : w.ownsRow B e 1 (.slice (some ⟨g, 0, none⟩) n cap) n xs) (hm : m < xs.length) : w.cell? ⟨g, m, none⟩ = some xs[m] := by
 obtain ⟨hl, h⟩ := h;rcases h with ⟨hv, _⟩ | ⟨g', cap', cur, hv, h1, h2, h3, h4, h5, h6⟩
 · cases hv
 simp only [Value.slice.injEq, true_and, Option.some.injEq, Addr.mk.injEq, and_true] at hv;obtain ⟨rfl, rfl⟩ := hv;rw [Lib.cell_of_heap h2];obtain ⟨u, hu⟩ : ∃ u, u = xs[m] := ⟨_, rfl⟩;rw [← hu];(have e1 : xs[m]? = some u := by rw [hu]; exact List.getElem?_eq_getElem hm);rw [← h6] at e1;(have hmn : m < n * 1 := by rw [← hl]; exact hm);rw [List.getElem?_take_of_lt hmn] at e1;simpa using e1
theorem own_lt {w : World} {B e n g cap z : Nat} {xs : List Value} (h : w.ownsRow B e z (.slice (some ⟨g, 0, none⟩) n cap) n xs) : g < w.heap.size := by
 rcases h.2 with ⟨hv, _⟩ | ⟨g', cap', cur, hv, h1, h2, _⟩
 · cases hv
 · simp only [Value.slice.injEq, true_and, Option.some.injEq, Addr.mk.injEq, and_true] at hv;obtain ⟨rfl, rfl⟩ := hv;exact lt_heap h2
/-- The tail of an own row of texts, joined. -/
theorem join_own (X : List (List UInt8)) (B g cap m p c' : Nat) (w : World) (h : w.ownsRow B 9 1 (.slice (some ⟨g, 0, none⟩) X.length cap) X.length (X.map S)) (hm : X.length = m + p) (hc : p ≤ c') (hp : p ≤ 2) (hl : X.flatten.length ≤ 100000) :
  Calls Tryz.prog 87 #[.slice (some ⟨g, m, none⟩) p c', S []] w fun e w' => e = .returned (S (X.drop m).flatten) ∧ Below w.heap.size w w' := by
 (have hlen : ((X.drop m).map fun x : List UInt8 => (⟨x.toArray⟩ : ByteArray)).length = p := by simp; omega);have hdat : (((X.drop m).map fun x : List UInt8 => (⟨x.toArray⟩ : ByteArray)).map (·.data.toList)) = X.drop m := by
  rw [List.map_map];(have e : ((fun x : ByteArray => x.data.toList) ∘ fun x : List UInt8 => (⟨x.toArray⟩ : ByteArray)) = id := by funext x; simp);rw [e, List.map_id]
 have hj : Lib.join (X.drop m) [] = (X.drop m).flatten := by
  cases e : X.drop m with
  | nil => rfl
  | cons x r =>
   rw [Lib.join_cons];simp [Lib.joinTail]
 have hfl := flat_drop X m;have h2 := Tryz.strings_Join g m c' ((X.drop m).map fun x : List UInt8 => (⟨x.toArray⟩ : ByteArray)) ⟨#[]⟩ w (by
   intro j x hx;rw [List.getElem?_map, List.getElem?_drop, Option.map_eq_some_iff] at hx;obtain ⟨y, hy, rfl⟩ := hx;obtain ⟨hlt, rfl⟩ := List.getElem?_eq_some_iff.1 hy;have := own_cell' h (m := m + j) (by simpa using hlt);rw [this];simp) (own_lt h) (by rw [hlen]; omega) (by rw [hlen]; exact hc) (by rw [hdat]; show (Lib.join _ []).length ≤ _; rw [hj]; omega)
 rw [hlen, hdat] at h2;refine h2.mono ?_;rintro e w' ⟨rfl, hb⟩;refine ⟨?_, hb⟩;show Ending.returned (.string ⟨(Lib.join _ []).toArray⟩) = _;rw [hj]
theorem itoa_len {n : Int} (h0 : -1 ≤ n) (h : n ≤ 255) : (Lib.itoa n).length ≤ 10 := by
 unfold Lib.itoa;split
 · have := dec_len n.natAbs (by omega);simp; omega
 · have := dec_len n.toNat (by omega);omega
open St (Wf bytesL bytesN zeroW mem_zero wf_zero ext_mem mem)
open St (Wf word zeroW Tab SV SV_eq)
open St (Wf word zeroW Tab wf_two wf_orL wf_ofL wf_zero orL ofL)
theorem l_close (r : Rd) : (closeP r).l = r.l := by
 obtain ⟨rest, l, g, bad⟩ := r;unfold closeP;cases rest with
 | nil => rfl
 | cons c t => dsimp only; split <;> rfl
theorem l_ref (r : Rd) : (refP r).1.l = r.l := by
 obtain ⟨rest, l, g, bad⟩ := r;unfold refP;cases rest <;> rfl
theorem wf_push {r : Rd} (h : ∀ n ∈ r.l, Wf n.s) {m : Nd} (hm : Wf m.s) : ∀ n ∈ (pushP r m).1.l, Wf n.s := by
 intro n hn;unfold pushP at hn;rcases List.mem_append.1 hn with q | q
 · exact h n q
 · obtain rfl := List.mem_singleton.1 q;exact hm
/-- The sets of nodes that are read are sets. -/
theorem wf_node : ∀ (left : Nat) (r : Rd), (∀ n ∈ r.l, Wf n.s) → ∀ n ∈ (nodeP left r).1.l, Wf n.s
 | 0, r, h => h
 | left + 1, ⟨rest, l, g, bad⟩, h => by
  have hz : Wf z4 := wf_zero;unfold nodeP;split
  · exact h
  cases rest with
  | nil => exact h
  | cons c t =>
   dsimp only;split
   · exact wf_push h hz
   split
   · exact wf_push h (wf_set _)
   split
   · exact wf_push h hz
   split
   · exact wf_push h hz
   split
   · exact wf_push (by exact wf_node left _ (wf_node left _ h)) hz
   split
   · exact wf_push (by exact wf_node left _ h) hz
   split
   · exact wf_push (by rw [l_close]; exact wf_node left _ h) hz
   split
   · exact wf_push (by rw [l_ref]; exact h) hz
   · exact wf_push h hz
/-- What Parse answers. -/
def ParseR (w : World) (s : List UInt8) (e : Ending) (w' : World) : Prop :=
 Below w.heap.size w w' ∧ ((parseL s = none ∧ e = .returned (.tuple #[.slice none 0 0, E 40])) ∨ ∃ l v, parseL s = some l ∧ e = .returned (.tuple #[v, E 0]) ∧ w'.ownsRow w.heap.size 48 10 v l.length (flat l))
end Go.Proofs.YthpiapemjadgdaaGreatDoor.Rx
namespace Go.Proofs.YthpiapemjadgdaaGreatDoor.Mt
open Go.RowKit Go.Shelf
open Rx
open Rx.Tr
open St (Wf word zeroW)
theorem at_inj {l : List Nd} : ∀ (x y : Tr) (o p : Nat), At l x o → At l y p → o + x.size = p + y.size → x = y ∧ o = p := by
  intro x
  induction x with
  | e | set s | beg | fin | ref n =>
    intro y o p hx hy h;have py := size_pos y;have r1 := at_root hx;have r2 := at_root hy;rw [show p + y.size - 1 = o + Tr.size _ - 1 from by rw [← h]] at r2;rw [r1] at r2;have r3 := Option.some.inj r2;cases y <;> simp_all [root, size]
  | cat x1 x2 ih1 ih2 | alt x1 x2 ih1 ih2 =>
    intro y o p hx hy h;have px1 := size_pos x1;have px2 := size_pos x2;have r1 := at_root hx;have r2 := at_root hy;rw [show p + y.size - 1 = o + Tr.size _ - 1 from by rw [← h]] at r2;rw [r1] at r2;have r3 := Option.some.inj r2;cases y with
    | cat y1 y2 | alt y1 y2 =>
      first
        | (simp only [root, Nd.mk.injEq] at r3; exfalso; have := r3.1; revert this; decide)
        | (have py1 := size_pos y1
           have py2 := size_pos y2;simp only [root, Nd.mk.injEq] at r3;simp only [size] at h;have e1 := ih2 y2 (o + x1.size) (p + y1.size) (at_right hx (by simp only [nodes, List.append_assoc]; rfl)) (at_right hy (by simp only [nodes, List.append_assoc]; rfl)) (by omega);have e2 := ih1 y1 o p (at_left hx (by simp only [nodes, List.append_assoc]; rfl)) (at_left hy (by simp only [nodes, List.append_assoc]; rfl)) (by omega);obtain ⟨rfl, _⟩ := e1;obtain ⟨rfl, rfl⟩ := e2;exact ⟨rfl, rfl⟩)
    | e | set s | beg | fin | ref n | times mn mx y1 | grp n y1 => simp [root] at r3
  | times mn mx x1 ih | grp n x1 ih =>
    intro y o p hx hy h;have px1 := size_pos x1;have r1 := at_root hx;have r2 := at_root hy;rw [show p + y.size - 1 = o + Tr.size _ - 1 from by rw [← h]] at r2;rw [r1] at r2;have r3 := Option.some.inj r2;cases y with
    | times mn' mx' y1 | grp n' y1 =>
      first
        | (simp only [root, Nd.mk.injEq] at r3; exfalso; have := r3.1; revert this; decide)
        | (have py1 := size_pos y1
           simp only [root, Nd.mk.injEq] at r3;simp only [size] at h;have e2 := ih y1 o p (at_left hx (by simp only [nodes]; rfl)) (at_left hy (by simp only [nodes]; rfl)) (by omega);obtain ⟨rfl, rfl⟩ := e2;simp [r3])
    | e | set s | beg | fin | ref n | cat y1 y2 | alt y1 y2 => simp [root] at r3
structure Par where
  w0 : World
  T : List UInt8
  t : Tr
  v : Value
  bm : Nat
  b1 : Nat
  b2 : Nat
abbrev Par.l (X : Par) : List Nd := X.t.nodes 0
abbrev Par.N (X : Par) : Nat := X.T.length
def Par.refs (X : Par) : Bool := decide (0 < refsT X.t)
structure Par.Ok (X : Par) : Prop where
  good : Rx.Good X.t
  sets : SetsOk X.t
  nodes : Ns X.w0 X.v X.l
  len : X.N ≤ 100000
  m : X.w0.heap.size ≤ X.bm
  m1 : X.w0.heap.size ≤ X.b1
  m2 : X.w0.heap.size ≤ X.b2
  n12 : X.b1 ≠ X.b2
/-- What a try left. -/
def LeftOk (N : Nat) (r : Option Caps) (c : Caps) (b : Bool) : Prop := CapsOk N c ∧ match r with
  | some a => b = true ∧ c = a
  | none => b = false
abbrev LV (c : Caps) (b : Bool) : Value := .agg #[capV (gr c 0), capV (gr c 1), capV (gr c 2), capV (gr c 3), capV (gr c 4), capV (gr c 5), capV (gr c 6), capV (gr c 7), capV (gr c 8), capV (gr c 9), .bool b]
structure MM (X : Par) (pr : Nat → Prop) (w : World) : Prop where
  bel : Below X.w0.heap.size X.w0 w
  hb : w.heap[X.bm]? = some (.cells #[X.v, S X.T, .bool X.refs, .map (some X.b1), .map (some X.b2)] 126 (0, 0))
  e1 : ∃ es clk, w.heap[X.b1]? = some (.map es clk) ∧ ∀ e ∈ es.toList, ∃ x o i g, At X.l x o ∧ e.key = PK (o + x.size - 1) i ∧ e.val = SL g (X.N + 1) ∧ RB w g (X.N + 1) (endsP X.T x i) ∧ ¬ pr g
  e2 : ∃ es clk, w.heap[X.b2]? = some (.map es clk) ∧ ∀ e ∈ es.toList, ∃ x o i j c c' b, At X.l x o ∧ CapsOk X.N c ∧ e.key = TK (o + x.size - 1) i j c ∧ e.val = LV c' b ∧ LeftOk X.N (fitP X.T x i j c) c' b
  lt : ∀ k, pr k → k < w.heap.size
/-- What a call on the matcher keeps. -/
structure Km (X : Par) (w w' : World) : Prop where
  size : w.heap.size ≤ w'.heap.size
  keep : ∀ k, k < w.heap.size → k ≠ X.b1 → k ≠ X.b2 → w'.heap[k]? = w.heap[k]?
theorem Km.refl (X : Par) (w : World) : Km X w w := ⟨Nat.le_refl _, fun _ _ _ _ => rfl⟩
theorem Km.trans {X : Par} {w1 w2 w3 : World} (h : Km X w1 w2) (k : Km X w2 w3) : Km X w1 w3 :=
  ⟨Nat.le_trans h.size k.size, fun i h1 h2 h3 => (k.keep i (Nat.lt_of_lt_of_le h1 h.size) h2 h3).trans (h.keep i h1 h2 h3)⟩
theorem Km.of_below {X : Par} {w w' : World} (hb : Below w.heap.size w w') : Km X w w' := ⟨hb.size, fun k h1 _ _ => hb.block k h1⟩
theorem Km.below {X : Par} {w1 w2 w3 : World} (h : Km X w1 w2) (hb : Below w2.heap.size w2 w3) : Km X w1 w3 := h.trans (Km.of_below hb)
section
variable {X : Par} {pr pr' : Nat → Prop} {w w' : World}
theorem MM.below (h : MM X pr w) (hb : Below w.heap.size w w') : MM X pr w' := by
  obtain ⟨es1, c1, h1, k1⟩ := h.e1;obtain ⟨es2, c2, h2, k2⟩ := h.e2;refine ⟨h.bel.trans (hb.mono h.bel.size), (hb.block _ (lt_heap' h.hb)).trans h.hb, ⟨es1, c1, (hb.block _ (lt_heap' h1)).trans h1, fun e he => ?_⟩, ⟨es2, c2, (hb.block _ (lt_heap' h2)).trans h2, k2⟩, fun k hk => Nat.lt_of_lt_of_le (h.lt k hk) hb.size⟩;obtain ⟨x, o, i, g, a1, a2, a3, a4, a5⟩ := k1 e he;exact ⟨x, o, i, g, a1, a2, a3, (hb.block _ a4.lt).trans a4, a5⟩
/-- More is kept to oneself: blocks that are new. -/
theorem MM.hide (h : MM X pr w) (hn : ∀ k, pr' k → pr k ∨ w.heap.size ≤ k) (hb : Below w.heap.size w w') (hl : ∀ k, pr' k → k < w'.heap.size) : MM X pr' w' := by
  have h' := h.below hb;obtain ⟨es1, c1, h1, k1⟩ := h.e1;refine ⟨h'.bel, h'.hb, ⟨es1, c1, (hb.block _ (lt_heap' h1)).trans h1, fun e he => ?_⟩, h'.e2, hl⟩;obtain ⟨x, o, i, g, a1, a2, a3, a4, a5⟩ := k1 e he;refine ⟨x, o, i, g, a1, a2, a3, (hb.block _ a4.lt).trans a4, fun q => ?_⟩;rcases hn g q with q | q
  · exact a5 q
  · have := a4.lt;omega
/-- Less is kept to oneself. -/
theorem MM.mono (h : MM X pr w) (hn : ∀ k, pr' k → pr k) : MM X pr' w := by
  obtain ⟨es1, c1, h1, k1⟩ := h.e1;refine ⟨h.bel, h.hb, ⟨es1, c1, h1, fun e he => ?_⟩, h.e2, fun k hk => h.lt k (hn k hk)⟩;obtain ⟨x, o, i, g, a1, a2, a3, a4, a5⟩ := k1 e he;exact ⟨x, o, i, g, a1, a2, a3, a4, fun q => a5 (hn g q)⟩
/-- A block of one's own is written. -/
theorem MM.own (h : MM X pr w) {B : Nat} (hB : pr B) (h0 : X.w0.heap.size ≤ B) (hm : B ≠ X.bm) (h1 : B ≠ X.b1) (h2 : B ≠ X.b2) (hs : w.heap.size ≤ w'.heap.size) (hk : ∀ k, k < w.heap.size → k ≠ B → w'.heap[k]? = w.heap[k]?) (hbl : Below X.w0.heap.size X.w0 w') : MM X pr w' := by
  obtain ⟨es1, c1, a1, k1⟩ := h.e1;obtain ⟨es2, c2, a2, k2⟩ := h.e2;refine ⟨hbl, (hk _ (lt_heap' h.hb) hm.symm).trans h.hb, ⟨es1, c1, (hk _ (lt_heap' a1) h1.symm).trans a1, fun e he => ?_⟩, ⟨es2, c2, (hk _ (lt_heap' a2) h2.symm).trans a2, k2⟩, fun k q => Nat.lt_of_lt_of_le (h.lt k q) hs⟩;obtain ⟨x, o, i, g, b1, b2, b3, b4, b5⟩ := k1 e he;exact ⟨x, o, i, g, b1, b2, b3, (hk _ b4.lt (fun q => b5 (by rw [q]; exact hB))).trans b4, b5⟩
theorem MM.cell (h : MM X pr w) {B : Nat} (hB : pr B) (h0 : X.w0.heap.size ≤ B) (hm : B ≠ X.bm) (h1 : B ≠ X.b1) (h2 : B ≠ X.b2) (i : Nat) (u : Value) : MM X pr (w.setCell ⟨B, i, none⟩ u) :=
  h.own hB h0 hm h1 h2 (by simp) (fun k _ hk => Below.heap_setCell w ⟨B, i, none⟩ u k hk) (h.bel.setCell h0 _)
theorem MM.facts (h : MM X pr w) :
    (w.cell? ⟨X.bm, 0, none⟩ = some X.v ∧ w.cell? ⟨X.bm, 1, none⟩ = some (S X.T) ∧ w.cell? ⟨X.bm, 2, none⟩ = some (.bool X.refs) ∧ w.cell? ⟨X.bm, 3, none⟩ = some (.map (some X.b1)) ∧ w.cell? ⟨X.bm, 4, none⟩ = some (.map (some X.b2))) :=
  ⟨(Lib.cell_of_heap h.hb 0).trans rfl, (Lib.cell_of_heap h.hb 1).trans rfl, (Lib.cell_of_heap h.hb 2).trans rfl, (Lib.cell_of_heap h.hb 3).trans rfl, (Lib.cell_of_heap h.hb 4).trans rfl⟩
/-- A row of one's own is none of the matcher's. -/
theorem MM.apart (h : MM X pr w) {B n : Nat} {f : Nat → Bool} (hr : RB w B n f) : B ≠ X.bm ∧ B ≠ X.b1 ∧ B ≠ X.b2 := by
  obtain ⟨es1, c1, a1, k1⟩ := h.e1;obtain ⟨es2, c2, a2, k2⟩ := h.e2;refine ⟨?_, ?_, ?_⟩
  · rintro rfl;have := h.hb.symm.trans hr;simp only [Option.some.injEq, Obj.cells.injEq] at this;exact absurd this.2.1 (by decide)
  · rintro rfl;have := a1.symm.trans hr;simp at this
  · rintro rfl;have := a2.symm.trans hr;simp at this
/-- A row is handed over to the map. -/
theorem MM.put1 (h : MM X pr w) (hX : X.Ok) {x : Tr} {o i g : Nat} (ha : At X.l x o) (hr : RB w g (X.N + 1) (endsP X.T x i)) (hg : ¬ pr g) :
    ∃ w', (Instr.mapUpdate 123 (.map (some X.b1)) (PK (o + x.size - 1) i) (SL g (X.N + 1))).run Tryz.prog w = .ok () w' ∧ MM X pr w' ∧ Km X w w' ∧ RB w' g (X.N + 1) (endsP X.T x i) := by
  obtain ⟨es1, c1, a1, k1⟩ := h.e1;obtain ⟨es2, c2, a2, k2⟩ := h.e2;have hK : KeysIn placeKeys es1 := fun e he => by
    obtain ⟨x, o, i, g, _, b2, _⟩ := k1 e he;exact ⟨(o + x.size - 1, i), trivial, b2⟩
  obtain ⟨es', clk', hrun, hes⟩ := put_run placeKeys Tryz.underlying123 (k := (o + x.size - 1, i)) trivial hK (SL g (X.N + 1)) w X.b1 c1 a1;have hset : ∀ k, k ≠ X.b1 → (ChangeMaps.setBlock w X.b1 (.map es' clk')).heap[k]? = w.heap[k]? := fun k hk => by
    simp only [ChangeMaps.setBlock, Array.getElem?_setIfInBounds_ne (Ne.symm hk)]
  have hsame : (ChangeMaps.setBlock w X.b1 (.map es' clk')).heap[X.b1]? = some (.map es' clk') := by
    simp only [ChangeMaps.setBlock, Array.getElem?_setIfInBounds_self_of_lt (lt_heap' a1)]
  (have hsz : (ChangeMaps.setBlock w X.b1 (.map es' clk')).heap.size = w.heap.size := by simp [ChangeMaps.setBlock]);have hap := h.apart hr;have hbl : Below X.w0.heap.size X.w0 (ChangeMaps.setBlock w X.b1 (.map es' clk')) := h.bel.trans ⟨rfl, rfl, rfl, by rw [hsz]; exact Nat.le_refl _, fun k hk => hset k (by have := hX.m1; omega)⟩;refine ⟨_, hrun, ⟨hbl, (hset _ ?_).trans h.hb, ⟨es', clk', hsame, fun e he => ?_⟩, ⟨es2, c2, (hset _ hX.n12.symm).trans a2, k2⟩, fun k hk => by rw [hsz]; exact h.lt k hk⟩, ⟨by rw [hsz]; exact Nat.le_refl _, fun k _ hk _ => hset k hk⟩, (hset g hap.2.1).trans hr⟩
  · intro q;have := h.hb.symm.trans (q ▸ a1);simp at this
  · rcases hes e he with he | ⟨e1, e2⟩
    · obtain ⟨x', o', i', g', b1, b2, b3, b4, b5⟩ := k1 e he;exact ⟨x', o', i', g', b1, b2, b3, (hset g' (h.apart b4).2.1).trans b4, b5⟩
    · exact ⟨x, o, i, g, ha, e1, e2, (hset g hap.2.1).trans hr, hg⟩
/-- The first map is asked. -/
theorem MM.look1 (h : MM X pr w) {x : Tr} {o : Nat} (ha : At X.l x o) (hx : 0 < x.size) (i : Nat) :
    ∃ v b, (∀ w' : World, w'.heap[X.b1]? = w.heap[X.b1]? → (Instr.lookup 123 (.map (some X.b1)) (PK (o + x.size - 1) i) true).run Tryz.prog w' = .ok (.tuple #[v, .bool b]) w') ∧
      ((b = false ∧ v = .slice none 0 0) ∨ (b = true ∧ ∃ g, v = SL g (X.N + 1) ∧ RB w g (X.N + 1) (endsP X.T x i) ∧ ¬ pr g)) := by
  obtain ⟨es1, c1, a1, k1⟩ := h.e1;have hK : KeysIn placeKeys es1 := fun e he => by
    obtain ⟨x, o, i, g, _, b2, _⟩ := k1 e he;exact ⟨(o + x.size - 1, i), trivial, b2⟩
  obtain ⟨v, b, h1, h2⟩ := look_run placeKeys Tryz.underlying123 (z := .slice none 0 0) (fun w => by kernel_rfl) (k := (o + x.size - 1, i)) trivial hK;refine ⟨v, b, fun w' hw => h1 w' X.b1 c1 (hw.trans a1), ?_⟩;rcases h2 with h2 | ⟨rfl, e, he, hk, rfl⟩
  · exact Or.inl h2
  · right;obtain ⟨x', o', i', g', b1, b2, b3, b4, b5⟩ := k1 e he;have hp := size_pos x';obtain ⟨q1, rfl⟩ := pk_inj.1 (b2.symm.trans hk);obtain ⟨rfl, rfl⟩ := at_inj x' x o' o b1 ha (by omega);exact ⟨rfl, g', b3, b4, b5⟩
/-- The second one. -/
theorem MM.look2 (h : MM X pr w) (hX : X.Ok) {x : Tr} {o : Nat} (ha : At X.l x o) (hx : 0 < x.size) (i j : Nat) {c : Caps} (hc : CapsOk X.N c) :
    ∃ v b, (∀ w' : World, w'.heap[X.b2]? = w.heap[X.b2]? → (Instr.lookup 124 (.map (some X.b2)) (TK (o + x.size - 1) i j c) true).run Tryz.prog w' = .ok (.tuple #[v, .bool b]) w') ∧
      ((b = false ∧ ∃ z, v = .agg #[z, z, z, z, z, z, z, z, z, z, .bool false] ∧ z = .complex .f64 0 0) ∨ (b = true ∧ ∃ c' b', v = LV c' b' ∧ LeftOk X.N (fitP X.T x i j c) c' b')) := by
  obtain ⟨es2, c2, a2, k2⟩ := h.e2;(have hN : X.N ≤ 999999999 := by have := hX.len; omega);have hK : KeysIn (tryKeys X.N hN) es2 := fun e he => by
    obtain ⟨x, o, i, j, c, c', b, _, b1, b2, _⟩ := k2 e he;exact ⟨(o + x.size - 1, i, j, c), b1, b2⟩
  obtain ⟨v, b, h1, h2⟩ := look_run (tryKeys X.N hN) Tryz.underlying124 (z := .agg #[.complex .f64 0 0, .complex .f64 0 0, .complex .f64 0 0, .complex .f64 0 0, .complex .f64 0 0, .complex .f64 0 0, .complex .f64 0 0, .complex .f64 0 0, .complex .f64 0 0, .complex .f64 0 0, .bool false]) (fun w => by kernel_rfl) (k := (o + x.size - 1, i, j, c)) hc hK;refine ⟨v, b, fun w' hw => h1 w' X.b2 c2 (hw.trans a2), ?_⟩;rcases h2 with h2 | ⟨rfl, e, he, hk, rfl⟩
  · exact Or.inl ⟨h2.1, _, h2.2, rfl⟩
  · right;obtain ⟨x', o', i', j', c', d', b', b1, b2, b3, b4, b5⟩ := k2 e he;have hp := size_pos x';obtain ⟨q1, rfl, rfl, rfl⟩ := (tk_inj hN b2 hc).1 (b3.symm.trans hk);obtain ⟨rfl, rfl⟩ := at_inj x' x o' o b1 ha (by omega);exact ⟨rfl, d', b', b4, b5⟩
/-- What a try left is kept. -/
theorem MM.put2 (h : MM X pr w) (hX : X.Ok) {x : Tr} {o i j : Nat} {c c' : Caps} {b : Bool} (ha : At X.l x o) (hc : CapsOk X.N c) (hl : LeftOk X.N (fitP X.T x i j c) c' b) :
    ∃ w', (Instr.mapUpdate 124 (.map (some X.b2)) (TK (o + x.size - 1) i j c) (LV c' b)).run Tryz.prog w = .ok () w' ∧ MM X pr w' ∧ Km X w w' := by
  obtain ⟨es1, c1, a1, k1⟩ := h.e1;obtain ⟨es2, c2, a2, k2⟩ := h.e2;(have hN : X.N ≤ 999999999 := by have := hX.len; omega);have hK : KeysIn (tryKeys X.N hN) es2 := fun e he => by
    obtain ⟨x, o, i, j, c, c', b, _, b1, b2, _⟩ := k2 e he;exact ⟨(o + x.size - 1, i, j, c), b1, b2⟩
  obtain ⟨es', clk', hrun, hes⟩ := put_run (tryKeys X.N hN) Tryz.underlying124 (k := (o + x.size - 1, i, j, c)) hc hK (LV c' b) w X.b2 c2 a2;have hset : ∀ k, k ≠ X.b2 → (ChangeMaps.setBlock w X.b2 (.map es' clk')).heap[k]? = w.heap[k]? := fun k hk => by
    simp only [ChangeMaps.setBlock, Array.getElem?_setIfInBounds_ne (Ne.symm hk)]
  have hsame : (ChangeMaps.setBlock w X.b2 (.map es' clk')).heap[X.b2]? = some (.map es' clk') := by
    simp only [ChangeMaps.setBlock, Array.getElem?_setIfInBounds_self_of_lt (lt_heap' a2)]
  (have hsz : (ChangeMaps.setBlock w X.b2 (.map es' clk')).heap.size = w.heap.size := by simp [ChangeMaps.setBlock]);have hbl : Below X.w0.heap.size X.w0 (ChangeMaps.setBlock w X.b2 (.map es' clk')) := h.bel.trans ⟨rfl, rfl, rfl, by rw [hsz]; exact Nat.le_refl _, fun k hk => hset k (by have := hX.m2; omega)⟩;refine ⟨_, hrun, ⟨hbl, (hset _ ?_).trans h.hb, ⟨es1, c1, (hset _ hX.n12).trans a1, fun e he => ?_⟩, ⟨es', clk', hsame, fun e he => ?_⟩, fun k hk => by rw [hsz]; exact h.lt k hk⟩, ⟨by rw [hsz]; exact Nat.le_refl _, fun k _ _ hk => hset k hk⟩⟩
  · intro q;have := h.hb.symm.trans (q ▸ a2);simp at this
  · obtain ⟨x', o', i', g', b1, b2, b3, b4, b5⟩ := k1 e he;exact ⟨x', o', i', g', b1, b2, b3, (hset g' (h.apart b4).2.2).trans b4, b5⟩
  · rcases hes e he with he | ⟨e1, e2⟩
    · exact k2 e he
    · exact ⟨x, o, i, j, c, c', b, ha, hc, e1, e2, hl⟩
/-- A node of the matcher's, and its cells. -/
theorem MM.node (h : MM X pr w) (hX : X.Ok) {x : Tr} {o : Nat} (ha : At X.l x o) : ∃ nb no cap, X.v = .slice (some ⟨nb, no, none⟩) X.l.length cap ∧ o + x.size - 1 < X.l.length ∧ NCell w nb (no + (o + x.size - 1) * 10) (x.root o) := by
  have hr := at_root ha;have hlt : o + x.size - 1 < X.l.length := (List.getElem?_eq_some_iff.1 hr).1;obtain ⟨ao, cap, hv, _⟩ := hX.nodes;have hN := (hX.nodes.below h.bel);rw [hv] at hN;obtain ⟨b, o', e, hc⟩ := hN.at hlt;subst e;rw [List.getElem?_eq_getElem hlt] at hr;rw [Option.some.inj hr] at hc;exact ⟨b, o', cap, hv, hlt, hc⟩
end
/-- Only one block has turned. -/
structure Ob (B : Nat) (w w' : World) : Prop where
 bel : Below B w w'
 far : ∀ k, k < w.heap.size → k ≠ B → w'.heap[k]? = w.heap[k]?
theorem Ob.refl (B : Nat) (w : World) : Ob B w w := ⟨Below.refl _ _, fun _ _ _ => rfl⟩
theorem Ob.trans {B : Nat} {a b c : World} (h : Ob B a b) (k : Ob B b c) : Ob B a c :=
 ⟨h.bel.trans k.bel, fun i h1 h2 => (k.far i (Nat.lt_of_lt_of_le h1 h.bel.size) h2).trans (h.far i h1 h2)⟩
theorem Ob.set {B : Nat} {a b : World} (h : Ob B a b) (i : Nat) (u : Value) : Ob B a (b.setCell ⟨B, i, none⟩ u) :=
 h.trans ⟨(Below.refl B b).setCell (Nat.le_refl _) _, fun k _ hk => Below.heap_setCell b ⟨B, i, none⟩ u k hk⟩
theorem Ob.drew {B : Nat} {a b : World} (h : Ob B a b) : Ob B a b.drew := ⟨h.bel.drew, h.far⟩
theorem index_any (g n : Nat) (f : Nat → Bool) (hn : n ≤ 1000000) (w : World) (h : RB w g n f) :
  Calls Tryz.prog 173 #[SL g n, .bool true] w fun e w' => ∃ r : Int, e = .returned (E r) ∧ decide (0 ≤ r) = (List.range n).any f ∧ w = w' := by
 have HR := Hd h;clear h;go_enter Tryz.func173, Tryz.ntmps173;go_wp2;go_loopw [8] (fun i wr => ∃ (k : Nat), k ≤ n ∧ i = .int .i64 (k : Nat) ∧ Hid (∀ j, j < k → f j = false) ∧ Hid (w = wr)) (fun i _ => n - (intOf i).toNat);(case atStart => exact ⟨0, Nat.zero_le _, rfl, Hd (by intro j hj; omega), Hd rfl⟩);case round =>
  obtain ⟨k, hk, rfl, HF, HW⟩ := hrel;obtain rfl := HW.out;by_cases hlt : k < n
  ·
   (have hlt' : ((k : Nat) : Int) < ((n : Nat) : Int) := by omega);(have hk0 : (0 : Int) ≤ ((k : Nat) : Int) := by omega);have hc := HR.out.cell hlt;(have hw1 : IntKind.i64.wrap ((k : Int) + 1) = (k : Int) + 1 := by rw [IntKind.wrap_i64]; omega);cases hf : f k
   ·
    rw [hf] at hc;have HF2 := Hd (show ∀ j, j < k + 1 → f j = false from fun j hj => by
     rcases Nat.lt_or_ge j k with q | q
     · exact HF.out j q
     · (obtain rfl : j = k := by omega);exact hf)
    clear hf;go_wp2;go_roundw;(case rel => exact ⟨k + 1, by omega, by go_num, HF2, Hd (by first | trivial | rfl)⟩);case measure => simp [intOf]; omega
   ·
    rw [hf] at hc;have HO := Hd (show decide ((0 : Int) ≤ (k : Int)) = (List.range n).any f from by
     rw [decide_eq_true hk0]; symm;rw [List.any_eq_true];exact ⟨k, List.mem_range.2 hlt, hf⟩)
    clear hf;go_wp2;go_ret;exact ⟨_, rfl, HO.out, rfl⟩
  ·
   (obtain rfl : k = n := by omega);have HO := Hd (show decide ((0 : Int) ≤ (-1 : Int)) = (List.range k).any f from by
    rw [decide_eq_false (by decide)]; symm;rw [List.any_eq_false];intro j hj;rw [HF.out j (List.mem_range.1 hj)]; simp)
   (have hlt' : ¬ ((k : Nat) : Int) < ((k : Nat) : Int) := by omega);go_wp2;go_ret;exact ⟨_, rfl, HO.out, rfl⟩
theorem contains_any (g n : Nat) (f : Nat → Bool) (hn : n ≤ 1000000) (w : World) (h : RB w g n f) :
  Calls Tryz.prog 150 #[SL g n, .bool true] w fun e w' => e = .returned (.bool ((List.range n).any f)) ∧ w = w' := by
 have HI := Hd (index_any g n f hn w h);generalize (List.range n).any f = z at *;clear h;go_enter Tryz.func150, Tryz.ntmps150;go_wp2_with (go_at_call 173; refine HI.out.mono ?_; rintro e w' ⟨r, rfl, hr, rfl⟩);go_ret;exact ⟨by rw [← hr]; rfl, rfl⟩
/-- The row behind j bytes of the other one. -/
def orK (f s : Nat → Bool) (k : Nat) : Nat → Bool := fun j => f j || (decide (j < k) && s j)
theorem orK_next {f s : Nat → Bool} {k : Nat} (v : Bool) (hv : v = (orK f s k k || s k)) : ∀ i, orK f s (k + 1) i = if i = k then v else orK f s k i := by
 intro i;unfold orK at *;by_cases e : i = k
 · subst e;rw [if_pos rfl, hv];simp
 ·
  rw [if_neg e]
  congr 2
  rw [Bool.eq_iff_iff, decide_eq_true_eq, decide_eq_true_eq]; omega
theorem orK_zero (f s : Nat → Bool) : ∀ i, orK f s 0 i = f i := fun i => by simp [orK]
theorem orK_all (f s : Nat → Bool) (n : Nat) : ∀ i, i < n → (f i || s i) = orK f s n i := fun i hi => by simp [orK, hi]
theorem add_any (gs gb bb n : Nat) (f s : Nat → Bool) (hn : n ≤ 1000000) (w : World) (hs : RB w gs n s) (hb : RB w gb n f) (hbb : w.heap[bb]? = some (.cells #[SL gb n] 162 (0, 0))) (hne : gs ≠ gb) :
  Calls Tryz.prog 124 #[SL gs n, PT bb] w fun e w' => e = .returned (.tuple #[]) ∧ RB w' gb n (fun j => f j || s j) ∧ Ob gb w w' := by
 have HS := Hd hs;have HB := Hd (hb.congr (g := orK f s 0) (fun i _ => orK_zero f s i));have HBB := Hd hbb;have HNE := Hd (show bb ≠ gb from by
  rintro rfl;have := hbb.symm.trans hb;simp only [Option.some.injEq, Obj.cells.injEq] at this;exact absurd this.2.1 (by decide))
 have HLT := Hd (show bb < w.heap.size ∧ gs < w.heap.size from ⟨lt_heap' hbb, hs.lt⟩);have HN2 := Hd hne;clear hs hb hbb hne;go_enter Tryz.func124, Tryz.ntmps124;go_wp2;go_loopw [7] (fun i wr => ∃ (k : Nat), k ≤ n ∧ i = .int .i64 (k : Nat) ∧ Hid (RB wr gb n (orK f s k)) ∧ Hid (Ob gb w wr)) (fun i _ => n - (intOf i).toNat);(case atStart => exact ⟨0, Nat.zero_le _, rfl, HB, Hd (Ob.refl _ _)⟩);case round =>
  clear HB;obtain ⟨k, hk, rfl, HR, HO⟩ := hrel;by_cases hlt : k < n
  ·
   (have hlt' : ((k : Nat) : Int) < ((n : Nat) : Int) := by omega);(have hk0 : (0 : Int) ≤ ((k : Nat) : Int) := by omega);(have hw1 : IntKind.i64.wrap ((k : Int) + 1) = (k : Int) + 1 := by rw [IntKind.wrap_i64]; omega);have hcb := HR.out.cell hlt;have hfb := HR.out.fz k;have hS := (HO.out.far gs HLT.out.2 HN2.out).trans HS.out;have hcs := RB.cell (n := n) (f := s) hS hlt;have hBB := (HO.out.far bb HLT.out.1 HNE.out).trans HBB.out;have hcc := (Lib.cell_of_heap hBB 0).trans rfl;clear hS hBB;cases hf : orK f s k k
   ·
    rw [hf] at hcb;cases hs2 : s k
    · rw [hs2] at hcs;have HQ := Hd (HR.out.put (g := orK f s (k + 1)) (v := false) (fun i _ => orK_next false (by rw [hf, hs2]; rfl) i));clear hf hs2;go_wp2;go_region;go_wp2;go_roundw;(case rel => exact ⟨k + 1, by omega, by go_num, HQ, Hd ((HO.out.set _ _).drew)⟩);case measure => simp [intOf]; omega
    · rw [hs2] at hcs;have HQ := Hd (HR.out.put (g := orK f s (k + 1)) (v := true) (fun i _ => orK_next true (by rw [hf, hs2]; rfl) i));clear hf hs2;go_wp2;go_region;go_wp2;go_roundw;(case rel => exact ⟨k + 1, by omega, by go_num, HQ, Hd ((HO.out.set _ _).drew)⟩);case measure => simp [intOf]; omega
   ·
    rw [hf] at hcb;cases hs2 : s k
    · rw [hs2] at hcs;have HQ := Hd (HR.out.put (g := orK f s (k + 1)) (v := true) (fun i _ => orK_next true (by rw [hf, hs2]; rfl) i));clear hf hs2;go_wp2;go_region;go_wp2;go_roundw;(case rel => exact ⟨k + 1, by omega, by go_num, HQ, Hd ((HO.out.set _ _).drew)⟩);case measure => simp [intOf]; omega
    · rw [hs2] at hcs;have HQ := Hd (HR.out.put (g := orK f s (k + 1)) (v := true) (fun i _ => orK_next true (by rw [hf, hs2]; rfl) i));clear hf hs2;go_wp2;go_region;go_wp2;go_roundw;(case rel => exact ⟨k + 1, by omega, by go_num, HQ, Hd ((HO.out.set _ _).drew)⟩);case measure => simp [intOf]; omega
  · (obtain rfl : k = n := by omega);have HQ := Hd (HR.out.congr (g := fun j => f j || s j) (fun i hi => orK_all f s k i hi));(have hlt' : ¬ ((k : Nat) : Int) < ((k : Nat) : Int) := by omega);go_wp2;go_end0;exact ⟨rfl, HQ.out, HO.out⟩
end Go.Proofs.YthpiapemjadgdaaGreatDoor.Mt
