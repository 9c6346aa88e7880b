/- Patterns: whether groups are numbered: over a tree; numbered. -/
import Derived.Test.YtdjedjfanfbbcaaGreatDoorTk
import Derived.Test.YtdjedjfanfbbcaaGreatDoorRxNum
import Derived.Laws.EntriesVeiled
namespace Go.Proofs.YtdjedjfanfbbcaaGreatDoor.Rx
open Go.RowKit Go.Shelf
open Go.Proofs.YtdjedjfanfbbcaaGreatDoor.St (Wf word zeroW)
open Tr
set_option linter.unusedVariables false
set_option linter.unusedSimpArgs false
theorem num_tree (em : Prop) (w0 : World) (b0 o0 c : Nat) (l : List Nd) (hNS : Ns w0 (.slice (some ⟨b0, o0, none⟩) l.length c) l) :
    ∀ (t : Tr) (o : Nat) (s : NSt) (w : World), t.Fine em → At l t o → 0 ≤ s.g → s.g + cnt t ≤ 1000 → NW w0 (.slice (some ⟨b0, o0, none⟩) l.length c) s w → Wlk w0 (.slice (some ⟨b0, o0, none⟩) l.length c) (o + t.size - 1) (numT t) s w := by
  have key : ∀ (t : Tr) (o : Nat) (s : NSt) (w : World), At l t o → NW w0 (.slice (some ⟨b0, o0, none⟩) l.length c) s w → ((o + t.size - 1 : Nat) : Int) < ((l.length : Nat) : Int) ∧ NCell w b0 (o0 + (o + t.size - 1) * 10) (t.root o) := by
    intro t o s w ha hN
    have h := at_root ha
    obtain ⟨hi, e⟩ := List.getElem?_eq_some_iff.1 h
    obtain ⟨b, o', e1, hc⟩ := (hNS.below hN.bel).at hi
    simp only [Option.some.injEq, Addr.mk.injEq, and_true] at e1
    obtain ⟨rfl, rfl⟩ := e1
    rw [e] at hc
    exact ⟨by omega, hc⟩
  intro t
  induction t with
  | e | set z | beg | fin =>
    intro o s w hf ha hg hg2 hN
    obtain ⟨k1, k2⟩ := key _ o s w ha hN
    exact num_leaf w0 w b0 o0 l.length c _ s k1 _ rfl rfl rfl rfl rfl hN k2
  | cat x y ihx ihy =>
    intro o s w hf ha hg hg2 hN
    obtain ⟨k1, k2⟩ := key _ o s w ha hN
    have px := cnt_pos x
    have py := cnt_pos y
    simp only [cnt] at hg2
    have hx : At l x o := at_left (r := y.nodes (o + x.size) ++ [(Tr.cat x y).root o]) ha (by simp only [nodes, List.append_assoc])
    have hy : At l y (o + x.size) := at_right (x := x) (r := [(Tr.cat x y).root o]) ha (by simp only [nodes, List.append_assoc])
    exact num_4 w0 w b0 o0 l.length c _ s k1 z4 (o + x.size - 1) (o + x.size + y.size - 1) 0 0 0 (numT x) (numT y)
      (Lib.hid fun w hN => ihx o s w hf.1 hx hg (by omega) hN) (Lib.hid fun w hN => ihy (o + x.size) _ w hf.2.1 hy (by rw [num_g]; omega) (by rw [num_g]; omega) hN) hN k2
  | alt x y ihx ihy =>
    intro o s w hf ha hg hg2 hN
    obtain ⟨k1, k2⟩ := key _ o s w ha hN
    have px := cnt_pos x
    have py := cnt_pos y
    simp only [cnt] at hg2
    have hx : At l x o := at_left (r := y.nodes (o + x.size) ++ [(Tr.alt x y).root o]) ha (by simp only [nodes, List.append_assoc])
    have hy : At l y (o + x.size) := at_right (x := x) (r := [(Tr.alt x y).root o]) ha (by simp only [nodes, List.append_assoc])
    exact num_5 w0 w b0 o0 l.length c _ s k1 z4 (o + x.size - 1) (o + x.size + y.size - 1) 0 0 0 (numT x) (numT y)
      (Lib.hid fun w hN => ihx o s w hf.1 hx hg (by omega) hN) (Lib.hid fun w hN => ihy (o + x.size) _ w hf.2.1 hy (by rw [num_g]; omega) (by rw [num_g]; omega) hN) hN k2
  | times mn mx x ihx =>
    intro o s w hf ha hg hg2 hN
    obtain ⟨k1, k2⟩ := key _ o s w ha hN
    simp only [cnt] at hg2
    have hx : At l x o := at_left (r := [(Tr.times mn mx x).root o]) ha rfl
    exact num_6 w0 w b0 o0 l.length c _ s k1 z4 (o + x.size - 1) 0 mn mx 0 (numT x) (Lib.hid fun w hN => ihx o s w hf.1 hx hg (by omega) hN) hN k2
  | grp n x ihx =>
    intro o s w hf ha hg hg2 hN
    obtain ⟨k1, k2⟩ := key _ o s w ha hN
    have px := cnt_pos x
    simp only [cnt] at hg2
    have hx : At l x o := at_left (r := [(Tr.grp n x).root o]) ha rfl
    obtain ⟨h1, h2, h3⟩ := hf
    obtain ⟨u, rfl⟩ : ∃ u : Nat, n = u := ⟨n.toNat, by omega⟩
    cases hok : s.ok with
    | false =>
      have e : numT (.grp (u : Int) x) s = (fun s : NSt => (⟨(numT x ⟨s.g + 1, s.e, s.r, false⟩).g, (numT x ⟨s.g + 1, s.e, s.r, false⟩).e.set u true, (numT x ⟨s.g + 1, s.e, s.r, false⟩).r, (numT x ⟨s.g + 1, s.e, s.r, false⟩).ok⟩ : NSt)) s := by simp only [numT, hok, Bool.false_and, Int.toNat_natCast]
      have h := num_7f w0 w b0 o0 l.length c _ s k1 z4 (o + x.size - 1) u 0 0 0 (numT x) (by omega) hg (by omega) hok (Lib.hid fun w hN => ihx o _ w h1 hx (by show 0 ≤ s.g + 1; omega) (by show s.g + 1 + cnt x ≤ 1000; omega) hN) hN k2
      unfold Wlk
      rw [e]
      exact h
    | true =>
      by_cases hm : (u : Int) = s.g + 1
      · have e : numT (.grp (u : Int) x) s = (fun s : NSt => (⟨(numT x ⟨s.g + 1, s.e, s.r, true⟩).g, (numT x ⟨s.g + 1, s.e, s.r, true⟩).e.set u true, (numT x ⟨s.g + 1, s.e, s.r, true⟩).r, (numT x ⟨s.g + 1, s.e, s.r, true⟩).ok⟩ : NSt)) s := by simp only [numT, hok, decide_eq_true hm, Bool.and_self, Int.toNat_natCast]
        have h := num_7t w0 w b0 o0 l.length c _ s k1 z4 (o + x.size - 1) u 0 0 0 (numT x) (by omega) hg (by omega) hok (by rw [beq_iff_eq]; exact hm) (Lib.hid fun w hN => ihx o _ w h1 hx (by show 0 ≤ s.g + 1; omega) (by show s.g + 1 + cnt x ≤ 1000; omega) hN) hN k2
        unfold Wlk
        rw [e]
        exact h
      · have e : numT (.grp (u : Int) x) s = (fun s : NSt => (⟨(numT x ⟨s.g + 1, s.e, s.r, false⟩).g, (numT x ⟨s.g + 1, s.e, s.r, false⟩).e.set u true, (numT x ⟨s.g + 1, s.e, s.r, false⟩).r, (numT x ⟨s.g + 1, s.e, s.r, false⟩).ok⟩ : NSt)) s := by simp only [numT, hok, decide_eq_false hm, Bool.and_false, Int.toNat_natCast]
        have h := num_7n w0 w b0 o0 l.length c _ s k1 z4 (o + x.size - 1) u 0 0 0 (numT x) (by omega) hg (by omega) hok (by rw [beq_eq_false_iff_ne]; exact hm) (Lib.hid fun w hN => ihx o _ w h1 hx (by show 0 ≤ s.g + 1; omega) (by show s.g + 1 + cnt x ≤ 1000; omega) hN) hN k2
        unfold Wlk
        rw [e]
        exact h
  | ref n =>
    intro o s w hf ha hg hg2 hN
    obtain ⟨k1, k2⟩ := key _ o s w ha hN
    obtain ⟨h1, h2⟩ := hf
    obtain ⟨u, rfl⟩ : ∃ u : Nat, n = u := ⟨n.toNat, by omega⟩
    cases hok : s.ok with
    | false =>
      have e : numT (.ref (u : Int)) s = (fun s : NSt => (⟨s.g, s.e, true, false⟩ : NSt)) s := by simp only [numT, hok, Bool.false_and]
      have h := num_8f w0 w b0 o0 l.length c _ s k1 z4 u 0 0 0 0 (by omega) hok hN k2
      unfold Wlk
      rw [e]
      exact h
    | true =>
      have e : numT (.ref (u : Int)) s = (fun s : NSt => (⟨s.g, s.e, true, (s.e[u]?).getD false⟩ : NSt)) s := by simp only [numT, hok, Bool.true_and, Int.toNat_natCast]
      have h := num_8t w0 w b0 o0 l.length c _ s k1 z4 u 0 0 0 0 (by omega) hok hN k2
      unfold Wlk
      rw [e]
      exact h
/-- The cells with what they hold. -/
def NA (w0 : World) (v : Value) (s : NSt) (w : World) : Prop := NW w0 v s w ∧
    (w.cell? ⟨w0.heap.size + 1, 0, none⟩ = some (E s.g) ∧ w.cell? ⟨w0.heap.size + 1 + 1, 0, none⟩ = some (.bool s.r) ∧ w.cell? ⟨w0.heap.size + 1 + 1 + 1, 0, none⟩ = some (.bool s.ok)) ∧
    (w.frozen? ⟨w0.heap.size + 1, 0, none⟩ = false ∧ w.frozen? ⟨w0.heap.size + 1 + 1, 0, none⟩ = false ∧ w.frozen? ⟨w0.heap.size + 1 + 1 + 1, 0, none⟩ = false)
theorem NW.all {w0 w : World} {v : Value} {s : NSt} (h : NW w0 v s w) : NA w0 v s w := ⟨h, ⟨h.cells.1.2.1, h.cells.1.2.2.1, h.cells.1.2.2.2.1⟩, h.cells.2⟩
theorem NW.drew {w0 w : World} {v : Value} {s : NSt} (h : NW w0 v s w) : NW w0 v s w.drew := ⟨h.l, h.g, h.r, h.ok, h.e, h.f, h.len, h.bel.drew⟩
abbrev F10 : Array Value := #[.bool false, .bool false, .bool false, .bool false, .bool false, .bool false, .bool false, .bool false, .bool false, .bool false]
theorem nw_start (w : World) (v : Value) : NW w v num0 ((((((w.alloc (.cells #[v] 23)).alloc (.cells #[E 0] 3)).alloc (.cells #[.bool false] 4)).alloc (.cells #[.bool true] 4)).alloc (.cells F10 57)).alloc (.cells #[FV w.heap.size] 89)) := by
  have key : ∀ (W : World) (o : Obj) (k : Nat), k = W.heap.size → (W.alloc o).heap[k]? = some o := fun W o k h => by subst h; exact heap_alloc_new W o
  have far : ∀ (W : World) (o o' : Obj) (k : Nat), k < W.heap.size → W.heap[k]? = some o' → (W.alloc o).heap[k]? = some o' := fun W o o' k h h2 => (Below.heap_alloc _ _ _ h).trans h2
  refine ⟨?_, ?_, ?_, ?_, ?_, ?_, rfl, ?_⟩
  · exact far _ _ _ _ (by simp; try omega) (far _ _ _ _ (by simp; try omega) (far _ _ _ _ (by simp; try omega) (far _ _ _ _ (by simp; try omega) (far _ _ _ _ (by simp) (key _ _ _ rfl)))))
  · exact far _ _ _ _ (by simp; try omega) (far _ _ _ _ (by simp; try omega) (far _ _ _ _ (by simp; try omega) (far _ _ _ _ (by simp) (key _ _ _ (by simp)))))
  · exact far _ _ _ _ (by simp; try omega) (far _ _ _ _ (by simp; try omega) (far _ _ _ _ (by simp) (key _ _ _ (by simp))))
  · exact far _ _ _ _ (by simp; try omega) (far _ _ _ _ (by simp) (key _ _ _ (by simp)))
  · exact far _ _ _ _ (by simp) (key _ _ _ (by simp))
  · exact key _ _ _ (by simp)
  · exact (((((Below.refl w.heap.size w).alloc (Nat.le_refl _) _).alloc (by simp) _).alloc (by simp; omega) _).alloc (by simp; omega) _).alloc (by simp; omega) _ |>.alloc (by simp; omega) _
theorem results_cell3 {fn : Func} {p q r : Tmp} {a b c : TypeId} (h : fn.results = #[.cell p a, .cell q b, .cell r c]) (tmps : Array Value) (P : Program) (w : World) :
    (results fn tmps).run P w =
      ((asAddr (tmps.getD p undef)).run P w).andThen fun x w₁ => ((loadVar a x).run P w₁).andThen fun v w₂ =>
      ((asAddr (tmps.getD q undef)).run P w₂).andThen fun x w₁ => ((loadVar b x).run P w₁).andThen fun v' w₂ =>
      ((asAddr (tmps.getD r undef)).run P w₂).andThen fun x w₁ => ((loadVar c x).run P w₁).andThen fun v'' w₂ => .ok (.tuple #[v, v', v'']) w₂ := by
  simp only [results, h]
  simp [Sem.run_bind, Result.andThen]
set_option maxRecDepth 100000 in
set_option maxHeartbeats 1600000 in
theorem numbered_tree (t : Tr) (ao : Option Addr) (c : Nat) (w : World) (h : Ns w (.slice ao (t.nodes 0).length c) (t.nodes 0)) (hw : Whole t) (hs : t.size ≤ 120) :
    Calls Tryz.prog 44 #[.slice ao (t.nodes 0).length c] w fun e w' => e = .returned (.tuple #[E (numT t num0).g, .bool (numT t num0).r, .bool (numT t num0).ok]) ∧ Below w.heap.size w w' := by
  have hp := size_pos t
  have hlen := nodes_len t 0
  have hmf : ∀ (fn : Fn) (first cap : Array Value) (w : World), (Instr.makeFunc fn first cap).run Tryz.prog w = .ok (.func fn first cap) w := fun _ _ _ _ => rfl
  obtain ⟨b0, o0, rfl, _⟩ := h.at (i := 0) (by omega)
  obtain ⟨s1, hs1⟩ : ∃ s1, s1 = numT t num0 := ⟨_, rfl⟩
  rw [← hs1]
  have HC : Hid (∀ W, NW w (.slice (some ⟨b0, o0, none⟩) t.size c) num0 W → Wlk w (.slice (some ⟨b0, o0, none⟩) t.size c) (t.size - 1) (fun _ => s1) num0 W) := Lib.hid (fun W hN => by
    subst hs1
    rw [← hlen] at hN ⊢
    have := num_tree (t.size ≤ 1) w b0 o0 c _ h t 0 num0 W hw (at_self t) (by decide) (by
      have := cnt_size t
      show 0 + cnt t ≤ 1000
      omega) hN
    rw [Nat.zero_add, ← hlen] at this
    exact this)
  clear hs1
  rw [hlen]
  clear h
  have hlt : (1 : Int) ≤ ((t.size : Nat) : Int) := by omega
  have hsub : IntKind.i64.wrap (((t.size : Nat) : Int) - 1) = ((t.size - 1 : Nat) : Int) := by rw [IntKind.wrap_i64]; omega
  go_enter Tryz.func44, Tryz.ntmps44
  go_wp2_with (go_at_call 65; refine (HC.out _ (nw_start w _)).mono ?_; rintro e w1 ⟨rfl, hn, hk⟩; have HN1 := Lib.hid hn; obtain ⟨⟨c0, c1, c2, c3, c5⟩, cf1, cf2, cf3⟩ := HN1.out.cells; have HN2 := Lib.hid HN1.out.drew; clear hn hk)
  refine wp_region_noPanic ?_
  refine wp_region_held_drew (S := fun w' => NW w (.slice (some ⟨b0, o0, none⟩) t.size c) s1 w' ∧ (w'.cell? ⟨w.heap.size + 1, 0, none⟩ = some (E s1.g) ∧ w'.cell? ⟨w.heap.size + 1 + 1, 0, none⟩ = some (.bool s1.r) ∧ w'.cell? ⟨w.heap.size + 1 + 1 + 1, 0, none⟩ = some (.bool s1.ok)) ∧
    (w'.frozen? ⟨w.heap.size + 1, 0, none⟩ = false ∧ w'.frozen? ⟨w.heap.size + 1 + 1, 0, none⟩ = false ∧ w'.frozen? ⟨w.heap.size + 1 + 1 + 1, 0, none⟩ = false)) (by kernel_rfl) ?_ (fun hHeld => ?_)
  · (try dsimp only); exact HN2.out.all
  clear HN1 HN2
  generalize w1.drew = w2 at *
  refine Tk.take 0 (h := ?_)
  refine Tk.take 1 (h := ?_)
  refine Tk.take 2 (h := ?_)
  refine wpAnyH_ready (rs := [3]) (by kernel_rfl) (by simp) ?_
  refine AllReadyH.cons (o := ?o3r) ?hi3r (fun K hK => ?st3r) AllReadyH.nil
  case hi3r => simp only [List.getElem?_toArray, List.getElem?_cons_succ, List.getElem?_cons_zero]; rfl
  obtain ⟨hN0, ⟨y0, y1, y2⟩, y3, y4, y5⟩ := hHeld
  go_simp
  refine hK.out _ _ ?_ (fun hHeld => ?_)
  · (try dsimp only); (first | exact (NW.setG hN0 s1.g).all | exact (NW.setR hN0 s1.r).all | exact (NW.setO hN0 s1.ok).all)
  clear hK K
  try simp only [Act.put, List.setIfInBounds_toArray, List.set_cons_zero, List.set_cons_succ]
  refine wpAnyH_ready (rs := [4]) (by kernel_rfl) (by simp) ?_
  refine AllReadyH.cons (o := ?o4r) ?hi4r (fun K hK => ?st4r) AllReadyH.nil
  case hi4r => simp only [List.getElem?_toArray, List.getElem?_cons_succ, List.getElem?_cons_zero]; rfl
  obtain ⟨hN0, ⟨y0, y1, y2⟩, y3, y4, y5⟩ := hHeld
  go_simp
  refine hK.out _ _ ?_ (fun hHeld => ?_)
  · (try dsimp only); (first | exact (NW.setG hN0 s1.g).all | exact (NW.setR hN0 s1.r).all | exact (NW.setO hN0 s1.ok).all)
  clear hK K
  try simp only [Act.put, List.setIfInBounds_toArray, List.set_cons_zero, List.set_cons_succ]
  refine wpAnyH_ready (rs := [5]) (by kernel_rfl) (by simp) ?_
  refine AllReadyH.cons (o := ?o5r) ?hi5r (fun K hK => ?st5r) AllReadyH.nil
  case hi5r => simp only [List.getElem?_toArray, List.getElem?_cons_succ, List.getElem?_cons_zero]; rfl
  obtain ⟨hN0, ⟨y0, y1, y2⟩, y3, y4, y5⟩ := hHeld
  go_simp
  refine hK.out _ _ ?_ (fun hHeld => ?_)
  · (try dsimp only); (first | exact (NW.setG hN0 s1.g).all | exact (NW.setR hN0 s1.r).all | exact (NW.setO hN0 s1.ok).all)
  clear hK K
  try simp only [Act.put, List.setIfInBounds_toArray, List.set_cons_zero, List.set_cons_succ]
  refine wpAnyH_done (by kernel_rfl) ?_ _
  refine NoPanic.normal ?_
  have HZ := Lib.hid hHeld
  obtain ⟨_, ⟨y0, y1, y2⟩, _⟩ := hHeld
  go_wp2
  refine bodyPost_ret (v := .tuple #[E s1.g, .bool s1.r, .bool s1.ok]) ?_ rfl ⟨rfl, HZ.out.1.bel⟩
  rw [results_cell3 rfl]
  go_simp
end Go.Proofs.YtdjedjfanfbbcaaGreatDoor.Rx
