/- The texts RxR1. -/
import Derived.Test.YtlicoffnjphphaaGreatDoorPk06
import Derived.Test.YtlicoffnjphphaaGreatDoorPk11
set_option linter.unusedVariables false
set_option linter.unusedSimpArgs false
namespace Go.Proofs.YtlicoffnjphphaaGreatDoor.Rx
open Go.RowKit Go.Shelf
open Go.Proofs.YtlicoffnjphphaaGreatDoor.St (Wf word zeroW Tab SV SV_eq SB put4 ls2 wf_two or_any of_any orL ofL wf_ofL orL_spec wf_orL Ls wf_zero wc_eq put4_below)
open Go.Proofs.YtlicoffnjphphaaGreatDoor.Ad (cutB atoiV)
theorem pairV_lt (c d : UInt8) : (pairV c d).1 < 256 := by
 have h : ∀ u : UInt8, ∀ x, hexV u = some x → x < 16 := by
  intro u x hx
  unfold hexV at hx
  split at hx
  · have := Option.some.inj hx; omega
  ·
   split at hx
   · have := Option.some.inj hx; omega
   ·
    split at hx
    · have := Option.some.inj hx; omega
    · cases hx
 unfold pairV
 cases h1 : hexV c with
 | none => exact (by decide : (0 : Nat) < 256)
 | some x =>
  cases h2 : hexV d with
  | none => exact (by decide : (0 : Nat) < 256)
  | some y =>
   have a := h c x h1
   have b := h d y h2
   show x * 16 + y < 256
   omega
theorem pub_pair (c d : UInt8) (w : World) (hE : Errs w) :
  Calls Tryz.prog 81 #[S [c, d], E 16, E 8] w fun e w' => ∃ ev, ErrIs (pairV c d).2 ev ∧ e = .returned (.tuple #[.int .u64 ((pairV c d).1 : Int), ev]) ∧ Below w.heap.size w w' := by
 refine (pub16_any [c, d] (by simp) (by simp) w hE).mono ?_
 rintro e w' ⟨hp, hb⟩
 rcases hexL_pair c d with ⟨x, y, h1, h2, h3, h4⟩ | ⟨h3, h4⟩
 ·
  rcases hp with ⟨z, hz, rfl⟩ | ⟨hn, _⟩
  ·
   rw [h3] at hz
   obtain rfl := Option.some.inj hz
   rw [h4]
   exact ⟨_, rfl, rfl, hb⟩
  · rw [h3] at hn; cases hn
 ·
  rcases hp with ⟨z, hz, rfl⟩ | ⟨_, te, pe, rfl⟩
  · rw [h3] at hz; cases hz
  ·
   rw [h4]
   exact ⟨_, ⟨te, pe, rfl⟩, rfl, hb⟩
/-- The reader, and a set in a block. -/
structure RS (w0 : World) (b : Nat) (r : Rd) (v : Value) (K : Nat) (s : List Nat) (w1 w : World) : Prop where
 rw : RW w0 b r v w
 kr : Kr b w1 v w v
 sb : SB w K s
 kb : K ≠ b
 kv : v.ownBlock ≠ some K
 k1 : w1.heap.size ≤ K
theorem RS.below {w0 w w' w1 : World} {b K : Nat} {r : Rd} {v : Value} {s : List Nat} (h : RS w0 b r v K s w1 w) (hb : Below w.heap.size w w') : RS w0 b r v K s w1 w' :=
 ⟨h.rw.below hb, h.kr.below hb, (hb.block K (lt_heap' h.sb)).trans h.sb, h.kb, h.kv, h.k1⟩
theorem RS.setBad {w0 w w1 : World} {b K : Nat} {r : Rd} {v : Value} {s : List Nat} (h : RS w0 b r v K s w1 w) (x : Bool) : RS w0 b ⟨r.rest, r.l, r.g, x⟩ v K s w1 (w.setCell ⟨b, 3, none⟩ (.bool x)) :=
 ⟨h.rw.setBad x, h.kr.set _ _, setne h.sb h.kb, h.kb, h.kv, h.k1⟩
theorem other_set {w0 w w1 : World} {b K : Nat} {r : Rd} {v v1 : Value} (h : RW w0 b r v w) (hk : Kr b w1 v1 w v) (kb : K ≠ b) (kv : v.ownBlock ≠ some K) (k0 : w0.heap.size ≤ K) (k1 : w1.heap.size ≤ K) (i : Nat) (u : Value) : RW w0 b r v (w.setCell ⟨K, i, none⟩ u) ∧ Kr b w1 v1 (w.setCell ⟨K, i, none⟩ u) v :=
 ⟨⟨setne h.rd (Ne.symm kb), ownsRow_setCell_other h.own kv _, h.ne, h.base, h.bel.setCell k0 _⟩,
  ⟨by have := hk.size; simpa using this, fun j h1 h2 h3 => ⟨(Below.heap_setCell w ⟨K, i, none⟩ u j (by show j ≠ K; omega)).trans (hk.far j h1 h2 h3).1, (hk.far j h1 h2 h3).2⟩⟩⟩
theorem RS.put {w0 w w1 : World} {b K : Nat} {r : Rd} {v : Value} {s : List Nat} (h : RS w0 b r v K s w1 w) (h01 : w0.heap.size ≤ w1.heap.size) (hs : Wf s) {t : List Nat} (ht : Wf t) : RS w0 b r v K t w1 (put4 w K t) := by
 have k0 : w0.heap.size ≤ K := Nat.le_trans h01 h.k1
 have a1 := other_set h.rw h.kr h.kb h.kv k0 h.k1 0 (U (word t 0))
 have a2 := other_set a1.1 a1.2 h.kb h.kv k0 h.k1 1 (U (word t 1))
 have a3 := other_set a2.1 a2.2 h.kb h.kv k0 h.k1 2 (U (word t 2))
 have a4 := other_set a3.1 a3.2 h.kb h.kv k0 h.k1 3 (U (word t 3))
 exact ⟨a4.1, a4.2, h.sb.put hs ht, h.kb, h.kv, h.k1⟩
theorem RS.facts {w0 w w1 : World} {b K : Nat} {r : Rd} {v : Value} {s : List Nat} (h : RS w0 b r v K s w1 w) (hs : Wf s) :
  (w.cell? ⟨K, 0, none⟩ = some (U (word s 0)) ∧ w.cell? ⟨K, 1, none⟩ = some (U (word s 1)) ∧ w.cell? ⟨K, 2, none⟩ = some (U (word s 2)) ∧ w.cell? ⟨K, 3, none⟩ = some (U (word s 3))) ∧
  (w.frozen? ⟨K, 0, none⟩ = false ∧ w.frozen? ⟨K, 1, none⟩ = false ∧ w.frozen? ⟨K, 2, none⟩ = false ∧ w.frozen? ⟨K, 3, none⟩ = false) := by
 have h1 := h.sb
 exact ⟨⟨h.sb.cell hs (by decide), h.sb.cell hs (by decide), h.sb.cell hs (by decide), h.sb.cell hs (by decide)⟩, by simp [World.frozen?, h1], by simp [World.frozen?, h1], by simp [World.frozen?, h1], by simp [World.frozen?, h1]⟩
theorem conv1 (d : UInt8) (W : World) : (convert 107 9 (.slice (some ⟨W.heap.size, 0, none⟩) 1 1)).run Tryz.prog (W.alloc (.cells #[.int .u8 (d.toNat : Int)] 5)) = .ok (S [d]) (W.alloc (.cells #[.int .u8 (d.toNat : Int)] 5)) :=
 run_convert_bytes_back (P := Tryz.prog) _ 107 9 5 ⟨W.heap.size, 0, none⟩ 1 [d] Tryz.underlying107 Tryz.underlying5 Tryz.underlying9 (by
  intro j hj
  obtain rfl : j = 0 := by simpa using hj
  rw [Addr.add_lit, Lib.cell_of_heap (heap_alloc_new W _)]
  rfl)
theorem infoSet : (Tryz.prog.info? 53).map (·.size) = some 4 := by kernel_rfl
theorem ansS {fn : Func} {p : Tmp} (h : fn.results = #[.cell p 53]) {tmps : Array Value} {w : World} {g : Nat} {s : List Nat} (hp : tmps.getD p undef = .pointer (some ⟨g, 0, none⟩)) (hg : SB w g s) (hs : Wf s) :
  (results fn tmps).run Tryz.prog w = .ok (SV s) w :=
 results_cell_row h tmps w g 53 (Go.Proofs.YtlicoffnjphphaaGreatDoor.St.wc s) (0, 0) (.array 4 51) hp hg Tryz.underlying53 rfl (by rw [wc_eq hs]; exact infoSet)
/-- The reader, beside a block. -/
structure RX (w0 : World) (b : Nat) (r : Rd) (v : Value) (K : Nat) (w1 w : World) : Prop where
 rw : RW w0 b r v w
 kr : Kr b w1 v w v
 kb : K ≠ b
 kv : v.ownBlock ≠ some K
 k1 : w1.heap.size ≤ K
theorem RS.rx {w0 w w1 : World} {b K : Nat} {r : Rd} {v : Value} {s : List Nat} (h : RS w0 b r v K s w1 w) : RX w0 b r v K w1 w := ⟨h.rw, h.kr, h.kb, h.kv, h.k1⟩
theorem RX.rs {w0 w w1 : World} {b K : Nat} {r : Rd} {v : Value} {s : List Nat} (h : RX w0 b r v K w1 w) (hs : SB w K s) : RS w0 b r v K s w1 w := ⟨h.rw, h.kr, hs, h.kb, h.kv, h.k1⟩
theorem RX.below {w0 w w' w1 : World} {b K : Nat} {r : Rd} {v : Value} (h : RX w0 b r v K w1 w) (hb : Below w.heap.size w w') : RX w0 b r v K w1 w' := ⟨h.rw.below hb, h.kr.below hb, h.kb, h.kv, h.k1⟩
theorem sb_below {w w' : World} {K : Nat} {s : List Nat} (h : SB w K s) (hb : Below w.heap.size w w') : SB w' K s := (hb.block K (lt_heap' h)).trans h
theorem sb_facts {w : World} {K : Nat} {s : List Nat} (h : SB w K s) (hs : Wf s) :
  (w.cell? ⟨K, 0, none⟩ = some (U (word s 0)) ∧ w.cell? ⟨K, 1, none⟩ = some (U (word s 1)) ∧ w.cell? ⟨K, 2, none⟩ = some (U (word s 2)) ∧ w.cell? ⟨K, 3, none⟩ = some (U (word s 3))) ∧
  (w.frozen? ⟨K, 0, none⟩ = false ∧ w.frozen? ⟨K, 1, none⟩ = false ∧ w.frozen? ⟨K, 2, none⟩ = false ∧ w.frozen? ⟨K, 3, none⟩ = false) := by
 have h1 := h
 exact ⟨⟨h.cell hs (by decide), h.cell hs (by decide), h.cell hs (by decide), h.cell hs (by decide)⟩, by simp [World.frozen?, h1], by simp [World.frozen?, h1], by simp [World.frozen?, h1], by simp [World.frozen?, h1]⟩
set_option maxRecDepth 100000 in
set_option maxHeartbeats 3200000 in
theorem rbytes_any (w0 : World) (b : Nat) (r : Rd) (v : Value) (w : World) (h : RW w0 b r v w) (hL : Lay w0) (hl : r.rest.length ≤ 100000) :
  Calls Tryz.prog 59 #[PT b] w fun e w' => e = .returned (SV (setP r).2) ∧ Rel w0 b w v (setP r).1 w' := by
 have HLL := Lib.hid hL
 have hsz0 := h.bel.size
 have HSZ0 := Lib.hid hsz0
 have HA := (Below.refl w.heap.size w).alloc (Nat.le_refl _) (.cells #[.int .u64 0, .int .u64 0, .int .u64 0, .int .u64 0] 53)
 have HRa := h.below HA
 have HKa := (Kr.refl b w v).below HA
 have HU := Lib.hid (until_any w0 b r v 93 _ HRa hl)
 have HSB := Lib.hid (show SB (w.alloc (.cells #[.int .u64 0, .int .u64 0, .int .u64 0, .int .u64 0] 53)) w.heap.size zeroW from heap_alloc_new _ _)
 have HKa := Lib.hid HKa
 have hkb : w.heap.size ≠ b := by have := h.lt; omega
 have hkv : v.ownBlock ≠ some w.heap.size := by
  intro q
  rcases own_forms h.own with ⟨rfl, _⟩ | ⟨g, cap, rfl, _⟩
  · cases q
  ·
   have h1 := (h.own.lt g rfl).2
   simp only [Value.ownBlock, Option.some.injEq] at q
   omega
 have HKB := Lib.hid hkb
 have HKV := Lib.hid hkv
 have hlen := until_rest 93 r
 obtain ⟨y, l, g, bad0, x0, hu⟩ : ∃ y l g bad x, untilP 93 r = (⟨y, l, g, bad⟩, x) := ⟨_, _, _, _, _, rfl⟩
 have hlg : l = r.l ∧ g = r.g := by
  have := congrArg Prod.fst hu
  unfold untilP at this
  simp only [Rd.mk.injEq] at this
  exact ⟨this.2.1.symm, this.2.2.1.symm⟩
 rw [hu] at HU hlen
 dsimp only at hlen
 have HO := Lib.hid (show setP r = (⟨y, l, g, (pairsP x0 zeroW bad0).2⟩, (pairsP x0 zeroW bad0).1) from by unfold setP; rw [hu]; rw [hlg.1, hlg.2])
 have hx0 : x0.length ≤ 100000 := by omega
 have hn93 : (93 : UInt8) = 93 := rfl
 clear hu h hL hlg HA HRa hkb hkv hsz0 hlen hn93
 go_enter Tryz.func59, Tryz.ntmps59
 go_wp2_with (go_at_call 80; refine HU.out.mono ?_; rintro e w1 ⟨rfl, hr, hkr⟩; have HS1 := Lib.hid (RS.mk hr (HKa.out.trans hkr) ((hkr.far w.heap.size (by simp) HKB.out HKV.out).1.trans HSB.out) HKB.out HKV.out (Nat.le_refl _)); clear hr hkr)
 go_loopw [3] (fun d wr => ∃ (ds : List UInt8) (s : List Nat) (bad : Bool), d = S ds ∧ ds.length ≤ 100000 ∧ Hid (pairsP x0 zeroW bad0 = pairsP ds s bad) ∧ Hid (RS w0 b ⟨y, l, g, bad⟩ v w.heap.size s w wr) ∧ Hid (Wf s)) (fun d _ => (match d with | .string s => s.size | _ => 0))
 case atStart => exact ⟨x0, zeroW, bad0, rfl, hx0, Lib.hid rfl, HS1, Lib.hid wf_zero⟩
 case round =>
  clear HS1
  obtain ⟨ds, s, bad, rfl, hdl, HP, HS, HW⟩ := hrel
  have hsz : (ByteArray.mk ds.toArray).size = ds.length := by simp [ByteArray.size]
  have hws := HW.out
  obtain ⟨⟨c0, c1, c2, c3⟩, f0, f1, f2, f3⟩ := HS.out.facts hws
  by_cases h2 : 1 < ds.length
  ·
   obtain ⟨c, d, t, rfl⟩ : ∃ c d t, ds = c :: d :: t := by
    match ds, h2 with
    | c :: d :: t, _ => exact ⟨c, d, t, rfl⟩
    | [_], h2 => simp at h2
    | [], h2 => simp at h2
   have h2' : (1 : Int) < (((c :: d :: t).length : Nat) : Int) := by omega
   have h2'' : (2 : Int) ≤ (((c :: d :: t).length : Nat) : Int) := by omega
   have e1 := ex_take (l := c :: d :: t) 2
   have e2 := ex_drop (l := c :: d :: t) 2
   simp only [List.take_succ_cons, List.take_zero] at e1
   simp only [List.drop_succ_cons, List.drop_zero] at e2
   have hle : (c :: d :: t).length = t.length + 2 := rfl
   have HN0 := Lib.hid (show pairsP (c :: d :: t) s bad = pairsP t (orL [s, ofL [UInt8.ofNat (pairV c d).1]]) (bad || !(pairV c d).2) from rfl)
   generalize c :: d :: t = ds at e1 e2 h2' h2'' hsz hle HP HN0 hdl h2 ⊢
   have CPU := Lib.hid (fun (W : World) (hW : Errs W) => pub_pair c d W hW)
   obtain ⟨q, hq⟩ : ∃ q : UInt8, (pairV c d).1 = q.toNat := ⟨UInt8.ofNat (pairV c d).1, by have := pairV_lt c d; simp; omega⟩
   have hqn : UInt8.ofNat (pairV c d).1 = q := by rw [hq]; simp
   rw [hqn] at HN0
   rw [hq] at CPU
   clear hqn hq
   have hqw : IntKind.u8.wrap (q.toNat : Int) = (q.toNat : Int) := by have := UInt8.toNat_lt q; rw [IntKind.wrap_u8]; omega
   have CO := Lib.hid (fun (W : World) => by
    have h1 := of_any [q] W (by simp)
    rw [SV_eq (wf_ofL [q])] at h1
    exact h1)
   have hos := wf_orL (wf_two hws (wf_ofL [q]))
   have HOS := Lib.hid hos
   have COR := Lib.hid (fun (W : World) (bk : Nat) (h1 : bk < W.heap.size) (h2 : Ls W bk [s, ofL [q]]) => by
    have h3 := or_any [s, ofL [q]] bk W (wf_two hws (wf_ofL [q])) (by simp) h1 h2
    rw [SV_eq hos] at h3
    exact h3)
   have hcv := fun W => conv1 q W
   clear hos
   cases hok : (pairV c d).2 with
   | false =>
    cases bad with
    | false =>
     rw [hok] at CPU HN0
     unfold ErrIs at CPU
     simp only [Bool.false_eq_true, if_false, if_true] at CPU
     clear hok
     go_wp2_with (go_at_call 81; refine (CPU.out _ (HS.out.rw.lay HLL.out).err).mono ?_; rintro e w3 ⟨ev, hev, rfl, hb⟩; (first | subst hev | (obtain ⟨te, pe, rfl⟩ := hev)); have HS3 := Lib.hid (HS.out.below hb); clear hb; obtain ⟨⟨d0, d1, d2, d3⟩, g0, g1, g2, g3⟩ := HS3.out.rw.cells; dsimp only at d0 d1 d2 d3)
     have HX5 := Lib.hid ((HS3.out.setBad true).rx.below (Below.refl _ _).drew)
     have HZ := Lib.hid (sb_below (HS3.out.setBad true).sb (Below.refl _ _).drew)
     clear HS3 d0 d1 d2 d3 g0 g1 g2 g3 HS c0 c1 c2 c3 f0 f1 f2 f3
     refine wp_region_noPanic ?_
     refine wp_region_held_drew (S := fun w' => RX w0 b ⟨y, l, g, true⟩ v w.heap.size w w') (by kernel_rfl) ?_ (fun hHeld => ?_)
     · (try dsimp only); exact HX5.out
     clear HX5
     (try dsimp only at HZ hHeld)
     generalize (w3.setCell ⟨b, 3, none⟩ (.bool true)).drew = w5 at hHeld HZ ⊢
     refine Tk.take 1 (h := ?_)
     refine Tk.take 2 (h := ?_)
     refine wpAnyH_ready (rs := [0, 3]) (by kernel_rfl) (by simp) ?_
     refine AllReadyH.cons (o := ?o0_2) ?hi0_2 (fun K hK => ?st0_2) (AllReadyH.cons (o := ?o3_2) ?hi3_2 (fun K hK => ?st3_2) AllReadyH.nil)
     case hi0_2 => simp only [List.getElem?_toArray, List.getElem?_cons_succ, List.getElem?_cons_zero]; rfl
     case hi3_2 => simp only [List.getElem?_toArray, List.getElem?_cons_succ, List.getElem?_cons_zero]; rfl
     case st0_2 =>
      have hPrev := hHeld
      obtain ⟨⟨y0, y1, y2, y3⟩, z0, z1, z2, z3⟩ := sb_facts HZ.out hws
      go_simp
      refine hK.out _ _ ?_ (fun hHeld => Tk.wrk ?_)
      · (try dsimp only); exact hPrev
      clear hK K hPrev
      clear y0 y1 y2 y3 z0 z1 z2 z3
      refine Tk.one 3 (h := fun K hK => ?st3_3)
      case st3_3 =>
       have hPrev := hHeld
       go_simp
       refine hK.out _ _ ?_ (fun hHeld => Tk.wrk ?_)
       · (try dsimp only); exact hPrev.below (Go.Joins.below_alloc1 _ _)
       have HZ := Lib.hid (sb_below HZ.out (Go.Joins.below_alloc1 _ (Obj.cells #[Value.int IntKind.u8 (q.toNat : Int)] 5)))
       clear hK K hPrev
       refine Tk.one 4 (h := fun K hK => ?st4_4)
       case st4_4 =>
        have hPrev := hHeld
        go_simp
        refine hK.out _ _ ?_ (fun hHeld => Tk.wrk ?_)
        · (try dsimp only); exact hPrev
        clear hK K hPrev
        refine Tk.one 5 (h := fun K hK => ?st5_5)
        case st5_5 =>
         have hPrev := hHeld
         go_simp
         (go_at_call 83; refine (CO.out _).mono ?_; rintro e v5 ⟨rfl, hbl⟩)
         refine hK.out _ _ ?_ (fun hHeld => Tk.wrk ?_)
         · (try dsimp only); exact hPrev.below hbl
         have HZ := Lib.hid (sb_below HZ.out hbl)
         clear hK K hPrev
         refine Tk.one 6 (h := fun K hK => ?st6_6)
         case st6_6 =>
          have hPrev := hHeld
          go_simp
          refine hK.out _ _ ?_ (fun hHeld => Tk.wrk ?_)
          · (try dsimp only); exact hPrev.below (Go.Joins.below_alloc1 _ _)
          have HZ := Lib.hid (sb_below HZ.out (Go.Joins.below_alloc1 _ (Obj.cells #[U (word s 0), U (word s 1), U (word s 2), U (word s 3), U (word (ofL [q]) 0), U (word (ofL [q]) 1), U (word (ofL [q]) 2), U (word (ofL [q]) 3)] 53)))
          clear hK K hPrev
          refine Tk.one 7 (h := fun K hK => ?st7_7)
          case st7_7 =>
           have hPrev := hHeld
           go_simp
           (go_at_call 82; refine (COR.out _ _ (by simp) (ls2 (heap_alloc_new _ _))).mono ?_; rintro e v7 ⟨rfl, hbl⟩)
           refine hK.out _ _ ?_ (fun hHeld => Tk.wrk ?_)
           · (try dsimp only); exact hPrev.below hbl
           have HZ := Lib.hid (sb_below HZ.out hbl)
           clear hK K hPrev
           have HS8 := Lib.hid (hHeld.rs HZ.out)
           have hPrev := hHeld
           obtain ⟨⟨y0, y1, y2, y3⟩, z0, z1, z2, z3⟩ := sb_facts HZ.out hws
           refine Tk.one 8 (h := fun K hK => ?_)
           go_simp
           refine hK.out _ _ ?_ (fun hHeld => Tk.wrk ?_)
           · (try dsimp only); exact (HS8.out.put HSZ0.out hws HOS.out).rx
           clear hK K
           have HS9 := Lib.hid (HS8.out.put HSZ0.out hws HOS.out)
           clear HS8 hHeld hPrev HZ y0 y1 y2 y3 z0 z1 z2 z3
           refine wpAnyH_done (by kernel_rfl) ?_ _
           refine NoPanic.normal ?_
           go_wp2
           go_roundw
           case rel => exact ⟨t, _, _, (by rw [← hle]; exact congrArg Value.string e2), by omega, Lib.hid (HP.out.trans HN0.out), HS9, HOS⟩
           case measure => simp; omega
     case st3_2 =>
      have hPrev := hHeld
      go_simp
      refine hK.out _ _ ?_ (fun hHeld => Tk.wrk ?_)
      · (try dsimp only); exact hPrev.below (Go.Joins.below_alloc1 _ _)
      have HZ := Lib.hid (sb_below HZ.out (Go.Joins.below_alloc1 _ (Obj.cells #[Value.int IntKind.u8 (q.toNat : Int)] 5)))
      clear hK K hPrev
      refine wpAnyH_ready (rs := [0, 4]) (by kernel_rfl) (by simp) ?_
      refine AllReadyH.cons (o := ?o0_9) ?hi0_9 (fun K hK => ?st0_9) (AllReadyH.cons (o := ?o4_9) ?hi4_9 (fun K hK => ?st4_9) AllReadyH.nil)
      case hi0_9 => simp only [List.getElem?_toArray, List.getElem?_cons_succ, List.getElem?_cons_zero]; rfl
      case hi4_9 => simp only [List.getElem?_toArray, List.getElem?_cons_succ, List.getElem?_cons_zero]; rfl
      case st0_9 =>
       have hPrev := hHeld
       obtain ⟨⟨y0, y1, y2, y3⟩, z0, z1, z2, z3⟩ := sb_facts HZ.out hws
       go_simp
       refine hK.out _ _ ?_ (fun hHeld => Tk.wrk ?_)
       · (try dsimp only); exact hPrev
       clear hK K hPrev
       clear y0 y1 y2 y3 z0 z1 z2 z3
       refine Tk.one 4 (h := fun K hK => ?st4_10)
       case st4_10 =>
        have hPrev := hHeld
        go_simp
        refine hK.out _ _ ?_ (fun hHeld => Tk.wrk ?_)
        · (try dsimp only); exact hPrev
        clear hK K hPrev
        refine Tk.one 5 (h := fun K hK => ?st5_11)
        case st5_11 =>
         have hPrev := hHeld
         go_simp
         (go_at_call 83; refine (CO.out _).mono ?_; rintro e v11 ⟨rfl, hbl⟩)
         refine hK.out _ _ ?_ (fun hHeld => Tk.wrk ?_)
         · (try dsimp only); exact hPrev.below hbl
         have HZ := Lib.hid (sb_below HZ.out hbl)
         clear hK K hPrev
         refine Tk.one 6 (h := fun K hK => ?st6_12)
         case st6_12 =>
          have hPrev := hHeld
          go_simp
          refine hK.out _ _ ?_ (fun hHeld => Tk.wrk ?_)
          · (try dsimp only); exact hPrev.below (Go.Joins.below_alloc1 _ _)
          have HZ := Lib.hid (sb_below HZ.out (Go.Joins.below_alloc1 _ (Obj.cells #[U (word s 0), U (word s 1), U (word s 2), U (word s 3), U (word (ofL [q]) 0), U (word (ofL [q]) 1), U (word (ofL [q]) 2), U (word (ofL [q]) 3)] 53)))
          clear hK K hPrev
          refine Tk.one 7 (h := fun K hK => ?st7_13)
          case st7_13 =>
           have hPrev := hHeld
           go_simp
           (go_at_call 82; refine (COR.out _ _ (by simp) (ls2 (heap_alloc_new _ _))).mono ?_; rintro e v13 ⟨rfl, hbl⟩)
           refine hK.out _ _ ?_ (fun hHeld => Tk.wrk ?_)
           · (try dsimp only); exact hPrev.below hbl
           have HZ := Lib.hid (sb_below HZ.out hbl)
           clear hK K hPrev
           have HS8 := Lib.hid (hHeld.rs HZ.out)
           have hPrev := hHeld
           obtain ⟨⟨y0, y1, y2, y3⟩, z0, z1, z2, z3⟩ := sb_facts HZ.out hws
           refine Tk.one 8 (h := fun K hK => ?_)
           go_simp
           refine hK.out _ _ ?_ (fun hHeld => Tk.wrk ?_)
           · (try dsimp only); exact (HS8.out.put HSZ0.out hws HOS.out).rx
           clear hK K
           have HS9 := Lib.hid (HS8.out.put HSZ0.out hws HOS.out)
           clear HS8 hHeld hPrev HZ y0 y1 y2 y3 z0 z1 z2 z3
           refine wpAnyH_done (by kernel_rfl) ?_ _
           refine NoPanic.normal ?_
           go_wp2
           go_roundw
           case rel => exact ⟨t, _, _, (by rw [← hle]; exact congrArg Value.string e2), by omega, Lib.hid (HP.out.trans HN0.out), HS9, HOS⟩
           case measure => simp; omega
      case st4_9 =>
       have hPrev := hHeld
       go_simp
       refine hK.out _ _ ?_ (fun hHeld => Tk.wrk ?_)
       · (try dsimp only); exact hPrev
       clear hK K hPrev
       refine wpAnyH_ready (rs := [0, 5]) (by kernel_rfl) (by simp) ?_
       refine AllReadyH.cons (o := ?o0_15) ?hi0_15 (fun K hK => ?st0_15) (AllReadyH.cons (o := ?o5_15) ?hi5_15 (fun K hK => ?st5_15) AllReadyH.nil)
       case hi0_15 => simp only [List.getElem?_toArray, List.getElem?_cons_succ, List.getElem?_cons_zero]; rfl
       case hi5_15 => simp only [List.getElem?_toArray, List.getElem?_cons_succ, List.getElem?_cons_zero]; rfl
       case st0_15 =>
        have hPrev := hHeld
        obtain ⟨⟨y0, y1, y2, y3⟩, z0, z1, z2, z3⟩ := sb_facts HZ.out hws
        go_simp
        refine hK.out _ _ ?_ (fun hHeld => Tk.wrk ?_)
        · (try dsimp only); exact hPrev
        clear hK K hPrev
        clear y0 y1 y2 y3 z0 z1 z2 z3
        refine Tk.one 5 (h := fun K hK => ?st5_16)
        case st5_16 =>
         have hPrev := hHeld
         go_simp
         (go_at_call 83; refine (CO.out _).mono ?_; rintro e v16 ⟨rfl, hbl⟩)
         refine hK.out _ _ ?_ (fun hHeld => Tk.wrk ?_)
         · (try dsimp only); exact hPrev.below hbl
         have HZ := Lib.hid (sb_below HZ.out hbl)
         clear hK K hPrev
         refine Tk.one 6 (h := fun K hK => ?st6_17)
         case st6_17 =>
          have hPrev := hHeld
          go_simp
          refine hK.out _ _ ?_ (fun hHeld => Tk.wrk ?_)
          · (try dsimp only); exact hPrev.below (Go.Joins.below_alloc1 _ _)
          have HZ := Lib.hid (sb_below HZ.out (Go.Joins.below_alloc1 _ (Obj.cells #[U (word s 0), U (word s 1), U (word s 2), U (word s 3), U (word (ofL [q]) 0), U (word (ofL [q]) 1), U (word (ofL [q]) 2), U (word (ofL [q]) 3)] 53)))
          clear hK K hPrev
          refine Tk.one 7 (h := fun K hK => ?st7_18)
          case st7_18 =>
           have hPrev := hHeld
           go_simp
           (go_at_call 82; refine (COR.out _ _ (by simp) (ls2 (heap_alloc_new _ _))).mono ?_; rintro e v18 ⟨rfl, hbl⟩)
           refine hK.out _ _ ?_ (fun hHeld => Tk.wrk ?_)
           · (try dsimp only); exact hPrev.below hbl
           have HZ := Lib.hid (sb_below HZ.out hbl)
           clear hK K hPrev
           have HS8 := Lib.hid (hHeld.rs HZ.out)
           have hPrev := hHeld
           obtain ⟨⟨y0, y1, y2, y3⟩, z0, z1, z2, z3⟩ := sb_facts HZ.out hws
           refine Tk.one 8 (h := fun K hK => ?_)
           go_simp
           refine hK.out _ _ ?_ (fun hHeld => Tk.wrk ?_)
           · (try dsimp only); exact (HS8.out.put HSZ0.out hws HOS.out).rx
           clear hK K
           have HS9 := Lib.hid (HS8.out.put HSZ0.out hws HOS.out)
           clear HS8 hHeld hPrev HZ y0 y1 y2 y3 z0 z1 z2 z3
           refine wpAnyH_done (by kernel_rfl) ?_ _
           refine NoPanic.normal ?_
           go_wp2
           go_roundw
           case rel => exact ⟨t, _, _, (by rw [← hle]; exact congrArg Value.string e2), by omega, Lib.hid (HP.out.trans HN0.out), HS9, HOS⟩
           case measure => simp; omega
       case st5_15 =>
        have hPrev := hHeld
        go_simp
        (go_at_call 83; refine (CO.out _).mono ?_; rintro e v15 ⟨rfl, hbl⟩)
        refine hK.out _ _ ?_ (fun hHeld => Tk.wrk ?_)
        · (try dsimp only); exact hPrev.below hbl
        have HZ := Lib.hid (sb_below HZ.out hbl)
        clear hK K hPrev
        refine Tk.one 0 (h := fun K hK => ?st0_20)
        case st0_20 =>
         have hPrev := hHeld
         obtain ⟨⟨y0, y1, y2, y3⟩, z0, z1, z2, z3⟩ := sb_facts HZ.out hws
         go_simp
         refine hK.out _ _ ?_ (fun hHeld => Tk.wrk ?_)
         · (try dsimp only); exact hPrev
         clear hK K hPrev
         clear y0 y1 y2 y3 z0 z1 z2 z3
         refine Tk.one 6 (h := fun K hK => ?st6_21)
         case st6_21 =>
          have hPrev := hHeld
          go_simp
          refine hK.out _ _ ?_ (fun hHeld => Tk.wrk ?_)
          · (try dsimp only); exact hPrev.below (Go.Joins.below_alloc1 _ _)
          have HZ := Lib.hid (sb_below HZ.out (Go.Joins.below_alloc1 _ (Obj.cells #[U (word s 0), U (word s 1), U (word s 2), U (word s 3), U (word (ofL [q]) 0), U (word (ofL [q]) 1), U (word (ofL [q]) 2), U (word (ofL [q]) 3)] 53)))
          clear hK K hPrev
          refine Tk.one 7 (h := fun K hK => ?st7_22)
          case st7_22 =>
           have hPrev := hHeld
           go_simp
           (go_at_call 82; refine (COR.out _ _ (by simp) (ls2 (heap_alloc_new _ _))).mono ?_; rintro e v22 ⟨rfl, hbl⟩)
           refine hK.out _ _ ?_ (fun hHeld => Tk.wrk ?_)
           · (try dsimp only); exact hPrev.below hbl
           have HZ := Lib.hid (sb_below HZ.out hbl)
           clear hK K hPrev
           have HS8 := Lib.hid (hHeld.rs HZ.out)
           have hPrev := hHeld
           obtain ⟨⟨y0, y1, y2, y3⟩, z0, z1, z2, z3⟩ := sb_facts HZ.out hws
           refine Tk.one 8 (h := fun K hK => ?_)
           go_simp
           refine hK.out _ _ ?_ (fun hHeld => Tk.wrk ?_)
           · (try dsimp only); exact (HS8.out.put HSZ0.out hws HOS.out).rx
           clear hK K
           have HS9 := Lib.hid (HS8.out.put HSZ0.out hws HOS.out)
           clear HS8 hHeld hPrev HZ y0 y1 y2 y3 z0 z1 z2 z3
           refine wpAnyH_done (by kernel_rfl) ?_ _
           refine NoPanic.normal ?_
           go_wp2
           go_roundw
           case rel => exact ⟨t, _, _, (by rw [← hle]; exact congrArg Value.string e2), by omega, Lib.hid (HP.out.trans HN0.out), HS9, HOS⟩
           case measure => simp; omega
    | true =>
     rw [hok] at CPU HN0
     unfold ErrIs at CPU
     simp only [Bool.false_eq_true, if_false, if_true] at CPU
     clear hok
     go_wp2_with (go_at_call 81; refine (CPU.out _ (HS.out.rw.lay HLL.out).err).mono ?_; rintro e w3 ⟨ev, hev, rfl, hb⟩; (first | subst hev | (obtain ⟨te, pe, rfl⟩ := hev)); have HS3 := Lib.hid (HS.out.below hb); clear hb; obtain ⟨⟨d0, d1, d2, d3⟩, g0, g1, g2, g3⟩ := HS3.out.rw.cells; dsimp only at d0 d1 d2 d3)
     have HX5 := Lib.hid ((HS3.out.setBad true).rx.below (Below.refl _ _).drew)
     have HZ := Lib.hid (sb_below (HS3.out.setBad true).sb (Below.refl _ _).drew)
     clear HS3 d0 d1 d2 d3 g0 g1 g2 g3 HS c0 c1 c2 c3 f0 f1 f2 f3
     refine wp_region_noPanic ?_
     refine wp_region_held_drew (S := fun w' => RX w0 b ⟨y, l, g, true⟩ v w.heap.size w w') (by kernel_rfl) ?_ (fun hHeld => ?_)
     · (try dsimp only); exact HX5.out
     clear HX5
     (try dsimp only at HZ hHeld)
     generalize (w3.setCell ⟨b, 3, none⟩ (.bool true)).drew = w5 at hHeld HZ ⊢
     refine Tk.take 1 (h := ?_)
     refine Tk.take 2 (h := ?_)
     refine wpAnyH_ready (rs := [0, 3]) (by kernel_rfl) (by simp) ?_
     refine AllReadyH.cons (o := ?o0_25) ?hi0_25 (fun K hK => ?st0_25) (AllReadyH.cons (o := ?o3_25) ?hi3_25 (fun K hK => ?st3_25) AllReadyH.nil)
     case hi0_25 => simp only [List.getElem?_toArray, List.getElem?_cons_succ, List.getElem?_cons_zero]; rfl
     case hi3_25 => simp only [List.getElem?_toArray, List.getElem?_cons_succ, List.getElem?_cons_zero]; rfl
     case st0_25 =>
      have hPrev := hHeld
      obtain ⟨⟨y0, y1, y2, y3⟩, z0, z1, z2, z3⟩ := sb_facts HZ.out hws
      go_simp
      refine hK.out _ _ ?_ (fun hHeld => Tk.wrk ?_)
      · (try dsimp only); exact hPrev
      clear hK K hPrev
      clear y0 y1 y2 y3 z0 z1 z2 z3
      refine Tk.one 3 (h := fun K hK => ?st3_26)
      case st3_26 =>
       have hPrev := hHeld
       go_simp
       refine hK.out _ _ ?_ (fun hHeld => Tk.wrk ?_)
       · (try dsimp only); exact hPrev.below (Go.Joins.below_alloc1 _ _)
       have HZ := Lib.hid (sb_below HZ.out (Go.Joins.below_alloc1 _ (Obj.cells #[Value.int IntKind.u8 (q.toNat : Int)] 5)))
       clear hK K hPrev
       refine Tk.one 4 (h := fun K hK => ?st4_27)
       case st4_27 =>
        have hPrev := hHeld
        go_simp
        refine hK.out _ _ ?_ (fun hHeld => Tk.wrk ?_)
        · (try dsimp only); exact hPrev
        clear hK K hPrev
        refine Tk.one 5 (h := fun K hK => ?st5_28)
        case st5_28 =>
         have hPrev := hHeld
         go_simp
         (go_at_call 83; refine (CO.out _).mono ?_; rintro e v28 ⟨rfl, hbl⟩)
         refine hK.out _ _ ?_ (fun hHeld => Tk.wrk ?_)
         · (try dsimp only); exact hPrev.below hbl
         have HZ := Lib.hid (sb_below HZ.out hbl)
         clear hK K hPrev
         refine Tk.one 6 (h := fun K hK => ?st6_29)
         case st6_29 =>
          have hPrev := hHeld
          go_simp
          refine hK.out _ _ ?_ (fun hHeld => Tk.wrk ?_)
          · (try dsimp only); exact hPrev.below (Go.Joins.below_alloc1 _ _)
          have HZ := Lib.hid (sb_below HZ.out (Go.Joins.below_alloc1 _ (Obj.cells #[U (word s 0), U (word s 1), U (word s 2), U (word s 3), U (word (ofL [q]) 0), U (word (ofL [q]) 1), U (word (ofL [q]) 2), U (word (ofL [q]) 3)] 53)))
          clear hK K hPrev
          refine Tk.one 7 (h := fun K hK => ?st7_30)
          case st7_30 =>
           have hPrev := hHeld
           go_simp
           (go_at_call 82; refine (COR.out _ _ (by simp) (ls2 (heap_alloc_new _ _))).mono ?_; rintro e v30 ⟨rfl, hbl⟩)
           refine hK.out _ _ ?_ (fun hHeld => Tk.wrk ?_)
           · (try dsimp only); exact hPrev.below hbl
           have HZ := Lib.hid (sb_below HZ.out hbl)
           clear hK K hPrev
           have HS8 := Lib.hid (hHeld.rs HZ.out)
           have hPrev := hHeld
           obtain ⟨⟨y0, y1, y2, y3⟩, z0, z1, z2, z3⟩ := sb_facts HZ.out hws
           refine Tk.one 8 (h := fun K hK => ?_)
           go_simp
           refine hK.out _ _ ?_ (fun hHeld => Tk.wrk ?_)
           · (try dsimp only); exact (HS8.out.put HSZ0.out hws HOS.out).rx
           clear hK K
           have HS9 := Lib.hid (HS8.out.put HSZ0.out hws HOS.out)
           clear HS8 hHeld hPrev HZ y0 y1 y2 y3 z0 z1 z2 z3
           refine wpAnyH_done (by kernel_rfl) ?_ _
           refine NoPanic.normal ?_
           go_wp2
           go_roundw
           case rel => exact ⟨t, _, _, (by rw [← hle]; exact congrArg Value.string e2), by omega, Lib.hid (HP.out.trans HN0.out), HS9, HOS⟩
           case measure => simp; omega
     case st3_25 =>
      have hPrev := hHeld
      go_simp
      refine hK.out _ _ ?_ (fun hHeld => Tk.wrk ?_)
      · (try dsimp only); exact hPrev.below (Go.Joins.below_alloc1 _ _)
      have HZ := Lib.hid (sb_below HZ.out (Go.Joins.below_alloc1 _ (Obj.cells #[Value.int IntKind.u8 (q.toNat : Int)] 5)))
      clear hK K hPrev
      refine wpAnyH_ready (rs := [0, 4]) (by kernel_rfl) (by simp) ?_
      refine AllReadyH.cons (o := ?o0_32) ?hi0_32 (fun K hK => ?st0_32) (AllReadyH.cons (o := ?o4_32) ?hi4_32 (fun K hK => ?st4_32) AllReadyH.nil)
      case hi0_32 => simp only [List.getElem?_toArray, List.getElem?_cons_succ, List.getElem?_cons_zero]; rfl
      case hi4_32 => simp only [List.getElem?_toArray, List.getElem?_cons_succ, List.getElem?_cons_zero]; rfl
      case st0_32 =>
       have hPrev := hHeld
       obtain ⟨⟨y0, y1, y2, y3⟩, z0, z1, z2, z3⟩ := sb_facts HZ.out hws
       go_simp
       refine hK.out _ _ ?_ (fun hHeld => Tk.wrk ?_)
       · (try dsimp only); exact hPrev
       clear hK K hPrev
       clear y0 y1 y2 y3 z0 z1 z2 z3
       refine Tk.one 4 (h := fun K hK => ?st4_33)
       case st4_33 =>
        have hPrev := hHeld
        go_simp
        refine hK.out _ _ ?_ (fun hHeld => Tk.wrk ?_)
        · (try dsimp only); exact hPrev
        clear hK K hPrev
        refine Tk.one 5 (h := fun K hK => ?st5_34)
        case st5_34 =>
         have hPrev := hHeld
         go_simp
         (go_at_call 83; refine (CO.out _).mono ?_; rintro e v34 ⟨rfl, hbl⟩)
         refine hK.out _ _ ?_ (fun hHeld => Tk.wrk ?_)
         · (try dsimp only); exact hPrev.below hbl
         have HZ := Lib.hid (sb_below HZ.out hbl)
         clear hK K hPrev
         refine Tk.one 6 (h := fun K hK => ?st6_35)
         case st6_35 =>
          have hPrev := hHeld
          go_simp
          refine hK.out _ _ ?_ (fun hHeld => Tk.wrk ?_)
          · (try dsimp only); exact hPrev.below (Go.Joins.below_alloc1 _ _)
          have HZ := Lib.hid (sb_below HZ.out (Go.Joins.below_alloc1 _ (Obj.cells #[U (word s 0), U (word s 1), U (word s 2), U (word s 3), U (word (ofL [q]) 0), U (word (ofL [q]) 1), U (word (ofL [q]) 2), U (word (ofL [q]) 3)] 53)))
          clear hK K hPrev
          refine Tk.one 7 (h := fun K hK => ?st7_36)
          case st7_36 =>
           have hPrev := hHeld
           go_simp
           (go_at_call 82; refine (COR.out _ _ (by simp) (ls2 (heap_alloc_new _ _))).mono ?_; rintro e v36 ⟨rfl, hbl⟩)
           refine hK.out _ _ ?_ (fun hHeld => Tk.wrk ?_)
           · (try dsimp only); exact hPrev.below hbl
           have HZ := Lib.hid (sb_below HZ.out hbl)
           clear hK K hPrev
           have HS8 := Lib.hid (hHeld.rs HZ.out)
           have hPrev := hHeld
           obtain ⟨⟨y0, y1, y2, y3⟩, z0, z1, z2, z3⟩ := sb_facts HZ.out hws
           refine Tk.one 8 (h := fun K hK => ?_)
           go_simp
           refine hK.out _ _ ?_ (fun hHeld => Tk.wrk ?_)
           · (try dsimp only); exact (HS8.out.put HSZ0.out hws HOS.out).rx
           clear hK K
           have HS9 := Lib.hid (HS8.out.put HSZ0.out hws HOS.out)
           clear HS8 hHeld hPrev HZ y0 y1 y2 y3 z0 z1 z2 z3
           refine wpAnyH_done (by kernel_rfl) ?_ _
           refine NoPanic.normal ?_
           go_wp2
           go_roundw
           case rel => exact ⟨t, _, _, (by rw [← hle]; exact congrArg Value.string e2), by omega, Lib.hid (HP.out.trans HN0.out), HS9, HOS⟩
           case measure => simp; omega
      case st4_32 =>
       have hPrev := hHeld
       go_simp
       refine hK.out _ _ ?_ (fun hHeld => Tk.wrk ?_)
       · (try dsimp only); exact hPrev
       clear hK K hPrev
       refine wpAnyH_ready (rs := [0, 5]) (by kernel_rfl) (by simp) ?_
       refine AllReadyH.cons (o := ?o0_38) ?hi0_38 (fun K hK => ?st0_38) (AllReadyH.cons (o := ?o5_38) ?hi5_38 (fun K hK => ?st5_38) AllReadyH.nil)
       case hi0_38 => simp only [List.getElem?_toArray, List.getElem?_cons_succ, List.getElem?_cons_zero]; rfl
       case hi5_38 => simp only [List.getElem?_toArray, List.getElem?_cons_succ, List.getElem?_cons_zero]; rfl
       case st0_38 =>
        have hPrev := hHeld
        obtain ⟨⟨y0, y1, y2, y3⟩, z0, z1, z2, z3⟩ := sb_facts HZ.out hws
        go_simp
        refine hK.out _ _ ?_ (fun hHeld => Tk.wrk ?_)
        · (try dsimp only); exact hPrev
        clear hK K hPrev
        clear y0 y1 y2 y3 z0 z1 z2 z3
        refine Tk.one 5 (h := fun K hK => ?st5_39)
        case st5_39 =>
         have hPrev := hHeld
         go_simp
         (go_at_call 83; refine (CO.out _).mono ?_; rintro e v39 ⟨rfl, hbl⟩)
         refine hK.out _ _ ?_ (fun hHeld => Tk.wrk ?_)
         · (try dsimp only); exact hPrev.below hbl
         have HZ := Lib.hid (sb_below HZ.out hbl)
         clear hK K hPrev
         refine Tk.one 6 (h := fun K hK => ?st6_40)
         case st6_40 =>
          have hPrev := hHeld
          go_simp
          refine hK.out _ _ ?_ (fun hHeld => Tk.wrk ?_)
          · (try dsimp only); exact hPrev.below (Go.Joins.below_alloc1 _ _)
          have HZ := Lib.hid (sb_below HZ.out (Go.Joins.below_alloc1 _ (Obj.cells #[U (word s 0), U (word s 1), U (word s 2), U (word s 3), U (word (ofL [q]) 0), U (word (ofL [q]) 1), U (word (ofL [q]) 2), U (word (ofL [q]) 3)] 53)))
          clear hK K hPrev
          refine Tk.one 7 (h := fun K hK => ?st7_41)
          case st7_41 =>
           have hPrev := hHeld
           go_simp
           (go_at_call 82; refine (COR.out _ _ (by simp) (ls2 (heap_alloc_new _ _))).mono ?_; rintro e v41 ⟨rfl, hbl⟩)
           refine hK.out _ _ ?_ (fun hHeld => Tk.wrk ?_)
           · (try dsimp only); exact hPrev.below hbl
           have HZ := Lib.hid (sb_below HZ.out hbl)
           clear hK K hPrev
           have HS8 := Lib.hid (hHeld.rs HZ.out)
           have hPrev := hHeld
           obtain ⟨⟨y0, y1, y2, y3⟩, z0, z1, z2, z3⟩ := sb_facts HZ.out hws
           refine Tk.one 8 (h := fun K hK => ?_)
           go_simp
           refine hK.out _ _ ?_ (fun hHeld => Tk.wrk ?_)
           · (try dsimp only); exact (HS8.out.put HSZ0.out hws HOS.out).rx
           clear hK K
           have HS9 := Lib.hid (HS8.out.put HSZ0.out hws HOS.out)
           clear HS8 hHeld hPrev HZ y0 y1 y2 y3 z0 z1 z2 z3
           refine wpAnyH_done (by kernel_rfl) ?_ _
           refine NoPanic.normal ?_
           go_wp2
           go_roundw
           case rel => exact ⟨t, _, _, (by rw [← hle]; exact congrArg Value.string e2), by omega, Lib.hid (HP.out.trans HN0.out), HS9, HOS⟩
           case measure => simp; omega
       case st5_38 =>
        have hPrev := hHeld
        go_simp
        (go_at_call 83; refine (CO.out _).mono ?_; rintro e v38 ⟨rfl, hbl⟩)
        refine hK.out _ _ ?_ (fun hHeld => Tk.wrk ?_)
        · (try dsimp only); exact hPrev.below hbl
        have HZ := Lib.hid (sb_below HZ.out hbl)
        clear hK K hPrev
        refine Tk.one 0 (h := fun K hK => ?st0_43)
        case st0_43 =>
         have hPrev := hHeld
         obtain ⟨⟨y0, y1, y2, y3⟩, z0, z1, z2, z3⟩ := sb_facts HZ.out hws
         go_simp
         refine hK.out _ _ ?_ (fun hHeld => Tk.wrk ?_)
         · (try dsimp only); exact hPrev
         clear hK K hPrev
         clear y0 y1 y2 y3 z0 z1 z2 z3
         refine Tk.one 6 (h := fun K hK => ?st6_44)
         case st6_44 =>
          have hPrev := hHeld
          go_simp
          refine hK.out _ _ ?_ (fun hHeld => Tk.wrk ?_)
          · (try dsimp only); exact hPrev.below (Go.Joins.below_alloc1 _ _)
          have HZ := Lib.hid (sb_below HZ.out (Go.Joins.below_alloc1 _ (Obj.cells #[U (word s 0), U (word s 1), U (word s 2), U (word s 3), U (word (ofL [q]) 0), U (word (ofL [q]) 1), U (word (ofL [q]) 2), U (word (ofL [q]) 3)] 53)))
          clear hK K hPrev
          refine Tk.one 7 (h := fun K hK => ?st7_45)
          case st7_45 =>
           have hPrev := hHeld
           go_simp
           (go_at_call 82; refine (COR.out _ _ (by simp) (ls2 (heap_alloc_new _ _))).mono ?_; rintro e v45 ⟨rfl, hbl⟩)
           refine hK.out _ _ ?_ (fun hHeld => Tk.wrk ?_)
           · (try dsimp only); exact hPrev.below hbl
           have HZ := Lib.hid (sb_below HZ.out hbl)
           clear hK K hPrev
           have HS8 := Lib.hid (hHeld.rs HZ.out)
           have hPrev := hHeld
           obtain ⟨⟨y0, y1, y2, y3⟩, z0, z1, z2, z3⟩ := sb_facts HZ.out hws
           refine Tk.one 8 (h := fun K hK => ?_)
           go_simp
           refine hK.out _ _ ?_ (fun hHeld => Tk.wrk ?_)
           · (try dsimp only); exact (HS8.out.put HSZ0.out hws HOS.out).rx
           clear hK K
           have HS9 := Lib.hid (HS8.out.put HSZ0.out hws HOS.out)
           clear HS8 hHeld hPrev HZ y0 y1 y2 y3 z0 z1 z2 z3
           refine wpAnyH_done (by kernel_rfl) ?_ _
           refine NoPanic.normal ?_
           go_wp2
           go_roundw
           case rel => exact ⟨t, _, _, (by rw [← hle]; exact congrArg Value.string e2), by omega, Lib.hid (HP.out.trans HN0.out), HS9, HOS⟩
           case measure => simp; omega
   | true =>
    cases bad with
    | false =>
     rw [hok] at CPU HN0
     unfold ErrIs at CPU
     simp only [Bool.false_eq_true, if_false, if_true] at CPU
     clear hok
     go_wp2_with (go_at_call 81; refine (CPU.out _ (HS.out.rw.lay HLL.out).err).mono ?_; rintro e w3 ⟨ev, hev, rfl, hb⟩; (first | subst hev | (obtain ⟨te, pe, rfl⟩ := hev)); have HS3 := Lib.hid (HS.out.below hb); clear hb; obtain ⟨⟨d0, d1, d2, d3⟩, g0, g1, g2, g3⟩ := HS3.out.rw.cells; dsimp only at d0 d1 d2 d3)
     have HX5 := Lib.hid ((HS3.out.setBad false).rx.below (Below.refl _ _).drew)
     have HZ := Lib.hid (sb_below (HS3.out.setBad false).sb (Below.refl _ _).drew)
     clear HS3 d0 d1 d2 d3 g0 g1 g2 g3 HS c0 c1 c2 c3 f0 f1 f2 f3
     refine wp_region_noPanic ?_
     refine wp_region_held_drew (S := fun w' => RX w0 b ⟨y, l, g, false⟩ v w.heap.size w w') (by kernel_rfl) ?_ (fun hHeld => ?_)
     · (try dsimp only); exact HX5.out
     clear HX5
     (try dsimp only at HZ hHeld)
     generalize (w3.setCell ⟨b, 3, none⟩ (.bool false)).drew = w5 at hHeld HZ ⊢
     refine Tk.take 1 (h := ?_)
     refine Tk.take 2 (h := ?_)
     refine wpAnyH_ready (rs := [0, 3]) (by kernel_rfl) (by simp) ?_
     refine AllReadyH.cons (o := ?o0_48) ?hi0_48 (fun K hK => ?st0_48) (AllReadyH.cons (o := ?o3_48) ?hi3_48 (fun K hK => ?st3_48) AllReadyH.nil)
     case hi0_48 => simp only [List.getElem?_toArray, List.getElem?_cons_succ, List.getElem?_cons_zero]; rfl
     case hi3_48 => simp only [List.getElem?_toArray, List.getElem?_cons_succ, List.getElem?_cons_zero]; rfl
     case st0_48 =>
      have hPrev := hHeld
      obtain ⟨⟨y0, y1, y2, y3⟩, z0, z1, z2, z3⟩ := sb_facts HZ.out hws
      go_simp
      refine hK.out _ _ ?_ (fun hHeld => Tk.wrk ?_)
      · (try dsimp only); exact hPrev
      clear hK K hPrev
      clear y0 y1 y2 y3 z0 z1 z2 z3
      refine Tk.one 3 (h := fun K hK => ?st3_49)
      case st3_49 =>
       have hPrev := hHeld
       go_simp
       refine hK.out _ _ ?_ (fun hHeld => Tk.wrk ?_)
       · (try dsimp only); exact hPrev.below (Go.Joins.below_alloc1 _ _)
       have HZ := Lib.hid (sb_below HZ.out (Go.Joins.below_alloc1 _ (Obj.cells #[Value.int IntKind.u8 (q.toNat : Int)] 5)))
       clear hK K hPrev
       refine Tk.one 4 (h := fun K hK => ?st4_50)
       case st4_50 =>
        have hPrev := hHeld
        go_simp
        refine hK.out _ _ ?_ (fun hHeld => Tk.wrk ?_)
        · (try dsimp only); exact hPrev
        clear hK K hPrev
        refine Tk.one 5 (h := fun K hK => ?st5_51)
        case st5_51 =>
         have hPrev := hHeld
         go_simp
         (go_at_call 83; refine (CO.out _).mono ?_; rintro e v51 ⟨rfl, hbl⟩)
         refine hK.out _ _ ?_ (fun hHeld => Tk.wrk ?_)
         · (try dsimp only); exact hPrev.below hbl
         have HZ := Lib.hid (sb_below HZ.out hbl)
         clear hK K hPrev
         refine Tk.one 6 (h := fun K hK => ?st6_52)
         case st6_52 =>
          have hPrev := hHeld
          go_simp
          refine hK.out _ _ ?_ (fun hHeld => Tk.wrk ?_)
          · (try dsimp only); exact hPrev.below (Go.Joins.below_alloc1 _ _)
          have HZ := Lib.hid (sb_below HZ.out (Go.Joins.below_alloc1 _ (Obj.cells #[U (word s 0), U (word s 1), U (word s 2), U (word s 3), U (word (ofL [q]) 0), U (word (ofL [q]) 1), U (word (ofL [q]) 2), U (word (ofL [q]) 3)] 53)))
          clear hK K hPrev
          refine Tk.one 7 (h := fun K hK => ?st7_53)
          case st7_53 =>
           have hPrev := hHeld
           go_simp
           (go_at_call 82; refine (COR.out _ _ (by simp) (ls2 (heap_alloc_new _ _))).mono ?_; rintro e v53 ⟨rfl, hbl⟩)
           refine hK.out _ _ ?_ (fun hHeld => Tk.wrk ?_)
           · (try dsimp only); exact hPrev.below hbl
           have HZ := Lib.hid (sb_below HZ.out hbl)
           clear hK K hPrev
           have HS8 := Lib.hid (hHeld.rs HZ.out)
           have hPrev := hHeld
           obtain ⟨⟨y0, y1, y2, y3⟩, z0, z1, z2, z3⟩ := sb_facts HZ.out hws
           refine Tk.one 8 (h := fun K hK => ?_)
           go_simp
           refine hK.out _ _ ?_ (fun hHeld => Tk.wrk ?_)
           · (try dsimp only); exact (HS8.out.put HSZ0.out hws HOS.out).rx
           clear hK K
           have HS9 := Lib.hid (HS8.out.put HSZ0.out hws HOS.out)
           clear HS8 hHeld hPrev HZ y0 y1 y2 y3 z0 z1 z2 z3
           refine wpAnyH_done (by kernel_rfl) ?_ _
           refine NoPanic.normal ?_
           go_wp2
           go_roundw
           case rel => exact ⟨t, _, _, (by rw [← hle]; exact congrArg Value.string e2), by omega, Lib.hid (HP.out.trans HN0.out), HS9, HOS⟩
           case measure => simp; omega
     case st3_48 =>
      have hPrev := hHeld
      go_simp
      refine hK.out _ _ ?_ (fun hHeld => Tk.wrk ?_)
      · (try dsimp only); exact hPrev.below (Go.Joins.below_alloc1 _ _)
      have HZ := Lib.hid (sb_below HZ.out (Go.Joins.below_alloc1 _ (Obj.cells #[Value.int IntKind.u8 (q.toNat : Int)] 5)))
      clear hK K hPrev
      refine wpAnyH_ready (rs := [0, 4]) (by kernel_rfl) (by simp) ?_
      refine AllReadyH.cons (o := ?o0_55) ?hi0_55 (fun K hK => ?st0_55) (AllReadyH.cons (o := ?o4_55) ?hi4_55 (fun K hK => ?st4_55) AllReadyH.nil)
      case hi0_55 => simp only [List.getElem?_toArray, List.getElem?_cons_succ, List.getElem?_cons_zero]; rfl
      case hi4_55 => simp only [List.getElem?_toArray, List.getElem?_cons_succ, List.getElem?_cons_zero]; rfl
      case st0_55 =>
       have hPrev := hHeld
       obtain ⟨⟨y0, y1, y2, y3⟩, z0, z1, z2, z3⟩ := sb_facts HZ.out hws
       go_simp
       refine hK.out _ _ ?_ (fun hHeld => Tk.wrk ?_)
       · (try dsimp only); exact hPrev
       clear hK K hPrev
       clear y0 y1 y2 y3 z0 z1 z2 z3
       refine Tk.one 4 (h := fun K hK => ?st4_56)
       case st4_56 =>
        have hPrev := hHeld
        go_simp
        refine hK.out _ _ ?_ (fun hHeld => Tk.wrk ?_)
        · (try dsimp only); exact hPrev
        clear hK K hPrev
        refine Tk.one 5 (h := fun K hK => ?st5_57)
        case st5_57 =>
         have hPrev := hHeld
         go_simp
         (go_at_call 83; refine (CO.out _).mono ?_; rintro e v57 ⟨rfl, hbl⟩)
         refine hK.out _ _ ?_ (fun hHeld => Tk.wrk ?_)
         · (try dsimp only); exact hPrev.below hbl
         have HZ := Lib.hid (sb_below HZ.out hbl)
         clear hK K hPrev
         refine Tk.one 6 (h := fun K hK => ?st6_58)
         case st6_58 =>
          have hPrev := hHeld
          go_simp
          refine hK.out _ _ ?_ (fun hHeld => Tk.wrk ?_)
          · (try dsimp only); exact hPrev.below (Go.Joins.below_alloc1 _ _)
          have HZ := Lib.hid (sb_below HZ.out (Go.Joins.below_alloc1 _ (Obj.cells #[U (word s 0), U (word s 1), U (word s 2), U (word s 3), U (word (ofL [q]) 0), U (word (ofL [q]) 1), U (word (ofL [q]) 2), U (word (ofL [q]) 3)] 53)))
          clear hK K hPrev
          refine Tk.one 7 (h := fun K hK => ?st7_59)
          case st7_59 =>
           have hPrev := hHeld
           go_simp
           (go_at_call 82; refine (COR.out _ _ (by simp) (ls2 (heap_alloc_new _ _))).mono ?_; rintro e v59 ⟨rfl, hbl⟩)
           refine hK.out _ _ ?_ (fun hHeld => Tk.wrk ?_)
           · (try dsimp only); exact hPrev.below hbl
           have HZ := Lib.hid (sb_below HZ.out hbl)
           clear hK K hPrev
           have HS8 := Lib.hid (hHeld.rs HZ.out)
           have hPrev := hHeld
           obtain ⟨⟨y0, y1, y2, y3⟩, z0, z1, z2, z3⟩ := sb_facts HZ.out hws
           refine Tk.one 8 (h := fun K hK => ?_)
           go_simp
           refine hK.out _ _ ?_ (fun hHeld => Tk.wrk ?_)
           · (try dsimp only); exact (HS8.out.put HSZ0.out hws HOS.out).rx
           clear hK K
           have HS9 := Lib.hid (HS8.out.put HSZ0.out hws HOS.out)
           clear HS8 hHeld hPrev HZ y0 y1 y2 y3 z0 z1 z2 z3
           refine wpAnyH_done (by kernel_rfl) ?_ _
           refine NoPanic.normal ?_
           go_wp2
           go_roundw
           case rel => exact ⟨t, _, _, (by rw [← hle]; exact congrArg Value.string e2), by omega, Lib.hid (HP.out.trans HN0.out), HS9, HOS⟩
           case measure => simp; omega
      case st4_55 =>
       have hPrev := hHeld
       go_simp
       refine hK.out _ _ ?_ (fun hHeld => Tk.wrk ?_)
       · (try dsimp only); exact hPrev
       clear hK K hPrev
       refine wpAnyH_ready (rs := [0, 5]) (by kernel_rfl) (by simp) ?_
       refine AllReadyH.cons (o := ?o0_61) ?hi0_61 (fun K hK => ?st0_61) (AllReadyH.cons (o := ?o5_61) ?hi5_61 (fun K hK => ?st5_61) AllReadyH.nil)
       case hi0_61 => simp only [List.getElem?_toArray, List.getElem?_cons_succ, List.getElem?_cons_zero]; rfl
       case hi5_61 => simp only [List.getElem?_toArray, List.getElem?_cons_succ, List.getElem?_cons_zero]; rfl
       case st0_61 =>
        have hPrev := hHeld
        obtain ⟨⟨y0, y1, y2, y3⟩, z0, z1, z2, z3⟩ := sb_facts HZ.out hws
        go_simp
        refine hK.out _ _ ?_ (fun hHeld => Tk.wrk ?_)
        · (try dsimp only); exact hPrev
        clear hK K hPrev
        clear y0 y1 y2 y3 z0 z1 z2 z3
        refine Tk.one 5 (h := fun K hK => ?st5_62)
        case st5_62 =>
         have hPrev := hHeld
         go_simp
         (go_at_call 83; refine (CO.out _).mono ?_; rintro e v62 ⟨rfl, hbl⟩)
         refine hK.out _ _ ?_ (fun hHeld => Tk.wrk ?_)
         · (try dsimp only); exact hPrev.below hbl
         have HZ := Lib.hid (sb_below HZ.out hbl)
         clear hK K hPrev
         refine Tk.one 6 (h := fun K hK => ?st6_63)
         case st6_63 =>
          have hPrev := hHeld
          go_simp
          refine hK.out _ _ ?_ (fun hHeld => Tk.wrk ?_)
          · (try dsimp only); exact hPrev.below (Go.Joins.below_alloc1 _ _)
          have HZ := Lib.hid (sb_below HZ.out (Go.Joins.below_alloc1 _ (Obj.cells #[U (word s 0), U (word s 1), U (word s 2), U (word s 3), U (word (ofL [q]) 0), U (word (ofL [q]) 1), U (word (ofL [q]) 2), U (word (ofL [q]) 3)] 53)))
          clear hK K hPrev
          refine Tk.one 7 (h := fun K hK => ?st7_64)
          case st7_64 =>
           have hPrev := hHeld
           go_simp
           (go_at_call 82; refine (COR.out _ _ (by simp) (ls2 (heap_alloc_new _ _))).mono ?_; rintro e v64 ⟨rfl, hbl⟩)
           refine hK.out _ _ ?_ (fun hHeld => Tk.wrk ?_)
           · (try dsimp only); exact hPrev.below hbl
           have HZ := Lib.hid (sb_below HZ.out hbl)
           clear hK K hPrev
           have HS8 := Lib.hid (hHeld.rs HZ.out)
           have hPrev := hHeld
           obtain ⟨⟨y0, y1, y2, y3⟩, z0, z1, z2, z3⟩ := sb_facts HZ.out hws
           refine Tk.one 8 (h := fun K hK => ?_)
           go_simp
           refine hK.out _ _ ?_ (fun hHeld => Tk.wrk ?_)
           · (try dsimp only); exact (HS8.out.put HSZ0.out hws HOS.out).rx
           clear hK K
           have HS9 := Lib.hid (HS8.out.put HSZ0.out hws HOS.out)
           clear HS8 hHeld hPrev HZ y0 y1 y2 y3 z0 z1 z2 z3
           refine wpAnyH_done (by kernel_rfl) ?_ _
           refine NoPanic.normal ?_
           go_wp2
           go_roundw
           case rel => exact ⟨t, _, _, (by rw [← hle]; exact congrArg Value.string e2), by omega, Lib.hid (HP.out.trans HN0.out), HS9, HOS⟩
           case measure => simp; omega
       case st5_61 =>
        have hPrev := hHeld
        go_simp
        (go_at_call 83; refine (CO.out _).mono ?_; rintro e v61 ⟨rfl, hbl⟩)
        refine hK.out _ _ ?_ (fun hHeld => Tk.wrk ?_)
        · (try dsimp only); exact hPrev.below hbl
        have HZ := Lib.hid (sb_below HZ.out hbl)
        clear hK K hPrev
        refine Tk.one 0 (h := fun K hK => ?st0_66)
        case st0_66 =>
         have hPrev := hHeld
         obtain ⟨⟨y0, y1, y2, y3⟩, z0, z1, z2, z3⟩ := sb_facts HZ.out hws
         go_simp
         refine hK.out _ _ ?_ (fun hHeld => Tk.wrk ?_)
         · (try dsimp only); exact hPrev
         clear hK K hPrev
         clear y0 y1 y2 y3 z0 z1 z2 z3
         refine Tk.one 6 (h := fun K hK => ?st6_67)
         case st6_67 =>
          have hPrev := hHeld
          go_simp
          refine hK.out _ _ ?_ (fun hHeld => Tk.wrk ?_)
          · (try dsimp only); exact hPrev.below (Go.Joins.below_alloc1 _ _)
          have HZ := Lib.hid (sb_below HZ.out (Go.Joins.below_alloc1 _ (Obj.cells #[U (word s 0), U (word s 1), U (word s 2), U (word s 3), U (word (ofL [q]) 0), U (word (ofL [q]) 1), U (word (ofL [q]) 2), U (word (ofL [q]) 3)] 53)))
          clear hK K hPrev
          refine Tk.one 7 (h := fun K hK => ?st7_68)
          case st7_68 =>
           have hPrev := hHeld
           go_simp
           (go_at_call 82; refine (COR.out _ _ (by simp) (ls2 (heap_alloc_new _ _))).mono ?_; rintro e v68 ⟨rfl, hbl⟩)
           refine hK.out _ _ ?_ (fun hHeld => Tk.wrk ?_)
           · (try dsimp only); exact hPrev.below hbl
           have HZ := Lib.hid (sb_below HZ.out hbl)
           clear hK K hPrev
           have HS8 := Lib.hid (hHeld.rs HZ.out)
           have hPrev := hHeld
           obtain ⟨⟨y0, y1, y2, y3⟩, z0, z1, z2, z3⟩ := sb_facts HZ.out hws
           refine Tk.one 8 (h := fun K hK => ?_)
           go_simp
           refine hK.out _ _ ?_ (fun hHeld => Tk.wrk ?_)
           · (try dsimp only); exact (HS8.out.put HSZ0.out hws HOS.out).rx
           clear hK K
           have HS9 := Lib.hid (HS8.out.put HSZ0.out hws HOS.out)
           clear HS8 hHeld hPrev HZ y0 y1 y2 y3 z0 z1 z2 z3
           refine wpAnyH_done (by kernel_rfl) ?_ _
           refine NoPanic.normal ?_
           go_wp2
           go_roundw
           case rel => exact ⟨t, _, _, (by rw [← hle]; exact congrArg Value.string e2), by omega, Lib.hid (HP.out.trans HN0.out), HS9, HOS⟩
           case measure => simp; omega
    | true =>
     rw [hok] at CPU HN0
     unfold ErrIs at CPU
     simp only [Bool.false_eq_true, if_false, if_true] at CPU
     clear hok
     go_wp2_with (go_at_call 81; refine (CPU.out _ (HS.out.rw.lay HLL.out).err).mono ?_; rintro e w3 ⟨ev, hev, rfl, hb⟩; (first | subst hev | (obtain ⟨te, pe, rfl⟩ := hev)); have HS3 := Lib.hid (HS.out.below hb); clear hb; obtain ⟨⟨d0, d1, d2, d3⟩, g0, g1, g2, g3⟩ := HS3.out.rw.cells; dsimp only at d0 d1 d2 d3)
     have HX5 := Lib.hid ((HS3.out.setBad true).rx.below (Below.refl _ _).drew)
     have HZ := Lib.hid (sb_below (HS3.out.setBad true).sb (Below.refl _ _).drew)
     clear HS3 d0 d1 d2 d3 g0 g1 g2 g3 HS c0 c1 c2 c3 f0 f1 f2 f3
     refine wp_region_noPanic ?_
     refine wp_region_held_drew (S := fun w' => RX w0 b ⟨y, l, g, true⟩ v w.heap.size w w') (by kernel_rfl) ?_ (fun hHeld => ?_)
     · (try dsimp only); exact HX5.out
     clear HX5
     (try dsimp only at HZ hHeld)
     generalize (w3.setCell ⟨b, 3, none⟩ (.bool true)).drew = w5 at hHeld HZ ⊢
     refine Tk.take 1 (h := ?_)
     refine Tk.take 2 (h := ?_)
     refine wpAnyH_ready (rs := [0, 3]) (by kernel_rfl) (by simp) ?_
     refine AllReadyH.cons (o := ?o0_71) ?hi0_71 (fun K hK => ?st0_71) (AllReadyH.cons (o := ?o3_71) ?hi3_71 (fun K hK => ?st3_71) AllReadyH.nil)
     case hi0_71 => simp only [List.getElem?_toArray, List.getElem?_cons_succ, List.getElem?_cons_zero]; rfl
     case hi3_71 => simp only [List.getElem?_toArray, List.getElem?_cons_succ, List.getElem?_cons_zero]; rfl
     case st0_71 =>
      have hPrev := hHeld
      obtain ⟨⟨y0, y1, y2, y3⟩, z0, z1, z2, z3⟩ := sb_facts HZ.out hws
      go_simp
      refine hK.out _ _ ?_ (fun hHeld => Tk.wrk ?_)
      · (try dsimp only); exact hPrev
      clear hK K hPrev
      clear y0 y1 y2 y3 z0 z1 z2 z3
      refine Tk.one 3 (h := fun K hK => ?st3_72)
      case st3_72 =>
       have hPrev := hHeld
       go_simp
       refine hK.out _ _ ?_ (fun hHeld => Tk.wrk ?_)
       · (try dsimp only); exact hPrev.below (Go.Joins.below_alloc1 _ _)
       have HZ := Lib.hid (sb_below HZ.out (Go.Joins.below_alloc1 _ (Obj.cells #[Value.int IntKind.u8 (q.toNat : Int)] 5)))
       clear hK K hPrev
       refine Tk.one 4 (h := fun K hK => ?st4_73)
       case st4_73 =>
        have hPrev := hHeld
        go_simp
        refine hK.out _ _ ?_ (fun hHeld => Tk.wrk ?_)
        · (try dsimp only); exact hPrev
        clear hK K hPrev
        refine Tk.one 5 (h := fun K hK => ?st5_74)
        case st5_74 =>
         have hPrev := hHeld
         go_simp
         (go_at_call 83; refine (CO.out _).mono ?_; rintro e v74 ⟨rfl, hbl⟩)
         refine hK.out _ _ ?_ (fun hHeld => Tk.wrk ?_)
         · (try dsimp only); exact hPrev.below hbl
         have HZ := Lib.hid (sb_below HZ.out hbl)
         clear hK K hPrev
         refine Tk.one 6 (h := fun K hK => ?st6_75)
         case st6_75 =>
          have hPrev := hHeld
          go_simp
          refine hK.out _ _ ?_ (fun hHeld => Tk.wrk ?_)
          · (try dsimp only); exact hPrev.below (Go.Joins.below_alloc1 _ _)
          have HZ := Lib.hid (sb_below HZ.out (Go.Joins.below_alloc1 _ (Obj.cells #[U (word s 0), U (word s 1), U (word s 2), U (word s 3), U (word (ofL [q]) 0), U (word (ofL [q]) 1), U (word (ofL [q]) 2), U (word (ofL [q]) 3)] 53)))
          clear hK K hPrev
          refine Tk.one 7 (h := fun K hK => ?st7_76)
          case st7_76 =>
           have hPrev := hHeld
           go_simp
           (go_at_call 82; refine (COR.out _ _ (by simp) (ls2 (heap_alloc_new _ _))).mono ?_; rintro e v76 ⟨rfl, hbl⟩)
           refine hK.out _ _ ?_ (fun hHeld => Tk.wrk ?_)
           · (try dsimp only); exact hPrev.below hbl
           have HZ := Lib.hid (sb_below HZ.out hbl)
           clear hK K hPrev
           have HS8 := Lib.hid (hHeld.rs HZ.out)
           have hPrev := hHeld
           obtain ⟨⟨y0, y1, y2, y3⟩, z0, z1, z2, z3⟩ := sb_facts HZ.out hws
           refine Tk.one 8 (h := fun K hK => ?_)
           go_simp
           refine hK.out _ _ ?_ (fun hHeld => Tk.wrk ?_)
           · (try dsimp only); exact (HS8.out.put HSZ0.out hws HOS.out).rx
           clear hK K
           have HS9 := Lib.hid (HS8.out.put HSZ0.out hws HOS.out)
           clear HS8 hHeld hPrev HZ y0 y1 y2 y3 z0 z1 z2 z3
           refine wpAnyH_done (by kernel_rfl) ?_ _
           refine NoPanic.normal ?_
           go_wp2
           go_roundw
           case rel => exact ⟨t, _, _, (by rw [← hle]; exact congrArg Value.string e2), by omega, Lib.hid (HP.out.trans HN0.out), HS9, HOS⟩
           case measure => simp; omega
     case st3_71 =>
      have hPrev := hHeld
      go_simp
      refine hK.out _ _ ?_ (fun hHeld => Tk.wrk ?_)
      · (try dsimp only); exact hPrev.below (Go.Joins.below_alloc1 _ _)
      have HZ := Lib.hid (sb_below HZ.out (Go.Joins.below_alloc1 _ (Obj.cells #[Value.int IntKind.u8 (q.toNat : Int)] 5)))
      clear hK K hPrev
      refine wpAnyH_ready (rs := [0, 4]) (by kernel_rfl) (by simp) ?_
      refine AllReadyH.cons (o := ?o0_78) ?hi0_78 (fun K hK => ?st0_78) (AllReadyH.cons (o := ?o4_78) ?hi4_78 (fun K hK => ?st4_78) AllReadyH.nil)
      case hi0_78 => simp only [List.getElem?_toArray, List.getElem?_cons_succ, List.getElem?_cons_zero]; rfl
      case hi4_78 => simp only [List.getElem?_toArray, List.getElem?_cons_succ, List.getElem?_cons_zero]; rfl
      case st0_78 =>
       have hPrev := hHeld
       obtain ⟨⟨y0, y1, y2, y3⟩, z0, z1, z2, z3⟩ := sb_facts HZ.out hws
       go_simp
       refine hK.out _ _ ?_ (fun hHeld => Tk.wrk ?_)
       · (try dsimp only); exact hPrev
       clear hK K hPrev
       clear y0 y1 y2 y3 z0 z1 z2 z3
       refine Tk.one 4 (h := fun K hK => ?st4_79)
       case st4_79 =>
        have hPrev := hHeld
        go_simp
        refine hK.out _ _ ?_ (fun hHeld => Tk.wrk ?_)
        · (try dsimp only); exact hPrev
        clear hK K hPrev
        refine Tk.one 5 (h := fun K hK => ?st5_80)
        case st5_80 =>
         have hPrev := hHeld
         go_simp
         (go_at_call 83; refine (CO.out _).mono ?_; rintro e v80 ⟨rfl, hbl⟩)
         refine hK.out _ _ ?_ (fun hHeld => Tk.wrk ?_)
         · (try dsimp only); exact hPrev.below hbl
         have HZ := Lib.hid (sb_below HZ.out hbl)
         clear hK K hPrev
         refine Tk.one 6 (h := fun K hK => ?st6_81)
         case st6_81 =>
          have hPrev := hHeld
          go_simp
          refine hK.out _ _ ?_ (fun hHeld => Tk.wrk ?_)
          · (try dsimp only); exact hPrev.below (Go.Joins.below_alloc1 _ _)
          have HZ := Lib.hid (sb_below HZ.out (Go.Joins.below_alloc1 _ (Obj.cells #[U (word s 0), U (word s 1), U (word s 2), U (word s 3), U (word (ofL [q]) 0), U (word (ofL [q]) 1), U (word (ofL [q]) 2), U (word (ofL [q]) 3)] 53)))
          clear hK K hPrev
          refine Tk.one 7 (h := fun K hK => ?st7_82)
          case st7_82 =>
           have hPrev := hHeld
           go_simp
           (go_at_call 82; refine (COR.out _ _ (by simp) (ls2 (heap_alloc_new _ _))).mono ?_; rintro e v82 ⟨rfl, hbl⟩)
           refine hK.out _ _ ?_ (fun hHeld => Tk.wrk ?_)
           · (try dsimp only); exact hPrev.below hbl
           have HZ := Lib.hid (sb_below HZ.out hbl)
           clear hK K hPrev
           have HS8 := Lib.hid (hHeld.rs HZ.out)
           have hPrev := hHeld
           obtain ⟨⟨y0, y1, y2, y3⟩, z0, z1, z2, z3⟩ := sb_facts HZ.out hws
           refine Tk.one 8 (h := fun K hK => ?_)
           go_simp
           refine hK.out _ _ ?_ (fun hHeld => Tk.wrk ?_)
           · (try dsimp only); exact (HS8.out.put HSZ0.out hws HOS.out).rx
           clear hK K
           have HS9 := Lib.hid (HS8.out.put HSZ0.out hws HOS.out)
           clear HS8 hHeld hPrev HZ y0 y1 y2 y3 z0 z1 z2 z3
           refine wpAnyH_done (by kernel_rfl) ?_ _
           refine NoPanic.normal ?_
           go_wp2
           go_roundw
           case rel => exact ⟨t, _, _, (by rw [← hle]; exact congrArg Value.string e2), by omega, Lib.hid (HP.out.trans HN0.out), HS9, HOS⟩
           case measure => simp; omega
      case st4_78 =>
       have hPrev := hHeld
       go_simp
       refine hK.out _ _ ?_ (fun hHeld => Tk.wrk ?_)
       · (try dsimp only); exact hPrev
       clear hK K hPrev
       refine wpAnyH_ready (rs := [0, 5]) (by kernel_rfl) (by simp) ?_
       refine AllReadyH.cons (o := ?o0_84) ?hi0_84 (fun K hK => ?st0_84) (AllReadyH.cons (o := ?o5_84) ?hi5_84 (fun K hK => ?st5_84) AllReadyH.nil)
       case hi0_84 => simp only [List.getElem?_toArray, List.getElem?_cons_succ, List.getElem?_cons_zero]; rfl
       case hi5_84 => simp only [List.getElem?_toArray, List.getElem?_cons_succ, List.getElem?_cons_zero]; rfl
       case st0_84 =>
        have hPrev := hHeld
        obtain ⟨⟨y0, y1, y2, y3⟩, z0, z1, z2, z3⟩ := sb_facts HZ.out hws
        go_simp
        refine hK.out _ _ ?_ (fun hHeld => Tk.wrk ?_)
        · (try dsimp only); exact hPrev
        clear hK K hPrev
        clear y0 y1 y2 y3 z0 z1 z2 z3
        refine Tk.one 5 (h := fun K hK => ?st5_85)
        case st5_85 =>
         have hPrev := hHeld
         go_simp
         (go_at_call 83; refine (CO.out _).mono ?_; rintro e v85 ⟨rfl, hbl⟩)
         refine hK.out _ _ ?_ (fun hHeld => Tk.wrk ?_)
         · (try dsimp only); exact hPrev.below hbl
         have HZ := Lib.hid (sb_below HZ.out hbl)
         clear hK K hPrev
         refine Tk.one 6 (h := fun K hK => ?st6_86)
         case st6_86 =>
          have hPrev := hHeld
          go_simp
          refine hK.out _ _ ?_ (fun hHeld => Tk.wrk ?_)
          · (try dsimp only); exact hPrev.below (Go.Joins.below_alloc1 _ _)
          have HZ := Lib.hid (sb_below HZ.out (Go.Joins.below_alloc1 _ (Obj.cells #[U (word s 0), U (word s 1), U (word s 2), U (word s 3), U (word (ofL [q]) 0), U (word (ofL [q]) 1), U (word (ofL [q]) 2), U (word (ofL [q]) 3)] 53)))
          clear hK K hPrev
          refine Tk.one 7 (h := fun K hK => ?st7_87)
          case st7_87 =>
           have hPrev := hHeld
           go_simp
           (go_at_call 82; refine (COR.out _ _ (by simp) (ls2 (heap_alloc_new _ _))).mono ?_; rintro e v87 ⟨rfl, hbl⟩)
           refine hK.out _ _ ?_ (fun hHeld => Tk.wrk ?_)
           · (try dsimp only); exact hPrev.below hbl
           have HZ := Lib.hid (sb_below HZ.out hbl)
           clear hK K hPrev
           have HS8 := Lib.hid (hHeld.rs HZ.out)
           have hPrev := hHeld
           obtain ⟨⟨y0, y1, y2, y3⟩, z0, z1, z2, z3⟩ := sb_facts HZ.out hws
           refine Tk.one 8 (h := fun K hK => ?_)
           go_simp
           refine hK.out _ _ ?_ (fun hHeld => Tk.wrk ?_)
           · (try dsimp only); exact (HS8.out.put HSZ0.out hws HOS.out).rx
           clear hK K
           have HS9 := Lib.hid (HS8.out.put HSZ0.out hws HOS.out)
           clear HS8 hHeld hPrev HZ y0 y1 y2 y3 z0 z1 z2 z3
           refine wpAnyH_done (by kernel_rfl) ?_ _
           refine NoPanic.normal ?_
           go_wp2
           go_roundw
           case rel => exact ⟨t, _, _, (by rw [← hle]; exact congrArg Value.string e2), by omega, Lib.hid (HP.out.trans HN0.out), HS9, HOS⟩
           case measure => simp; omega
       case st5_84 =>
        have hPrev := hHeld
        go_simp
        (go_at_call 83; refine (CO.out _).mono ?_; rintro e v84 ⟨rfl, hbl⟩)
        refine hK.out _ _ ?_ (fun hHeld => Tk.wrk ?_)
        · (try dsimp only); exact hPrev.below hbl
        have HZ := Lib.hid (sb_below HZ.out hbl)
        clear hK K hPrev
        refine Tk.one 0 (h := fun K hK => ?st0_89)
        case st0_89 =>
         have hPrev := hHeld
         obtain ⟨⟨y0, y1, y2, y3⟩, z0, z1, z2, z3⟩ := sb_facts HZ.out hws
         go_simp
         refine hK.out _ _ ?_ (fun hHeld => Tk.wrk ?_)
         · (try dsimp only); exact hPrev
         clear hK K hPrev
         clear y0 y1 y2 y3 z0 z1 z2 z3
         refine Tk.one 6 (h := fun K hK => ?st6_90)
         case st6_90 =>
          have hPrev := hHeld
          go_simp
          refine hK.out _ _ ?_ (fun hHeld => Tk.wrk ?_)
          · (try dsimp only); exact hPrev.below (Go.Joins.below_alloc1 _ _)
          have HZ := Lib.hid (sb_below HZ.out (Go.Joins.below_alloc1 _ (Obj.cells #[U (word s 0), U (word s 1), U (word s 2), U (word s 3), U (word (ofL [q]) 0), U (word (ofL [q]) 1), U (word (ofL [q]) 2), U (word (ofL [q]) 3)] 53)))
          clear hK K hPrev
          refine Tk.one 7 (h := fun K hK => ?st7_91)
          case st7_91 =>
           have hPrev := hHeld
           go_simp
           (go_at_call 82; refine (COR.out _ _ (by simp) (ls2 (heap_alloc_new _ _))).mono ?_; rintro e v91 ⟨rfl, hbl⟩)
           refine hK.out _ _ ?_ (fun hHeld => Tk.wrk ?_)
           · (try dsimp only); exact hPrev.below hbl
           have HZ := Lib.hid (sb_below HZ.out hbl)
           clear hK K hPrev
           have HS8 := Lib.hid (hHeld.rs HZ.out)
           have hPrev := hHeld
           obtain ⟨⟨y0, y1, y2, y3⟩, z0, z1, z2, z3⟩ := sb_facts HZ.out hws
           refine Tk.one 8 (h := fun K hK => ?_)
           go_simp
           refine hK.out _ _ ?_ (fun hHeld => Tk.wrk ?_)
           · (try dsimp only); exact (HS8.out.put HSZ0.out hws HOS.out).rx
           clear hK K
           have HS9 := Lib.hid (HS8.out.put HSZ0.out hws HOS.out)
           clear HS8 hHeld hPrev HZ y0 y1 y2 y3 z0 z1 z2 z3
           refine wpAnyH_done (by kernel_rfl) ?_ _
           refine NoPanic.normal ?_
           go_wp2
           go_roundw
           case rel => exact ⟨t, _, _, (by rw [← hle]; exact congrArg Value.string e2), by omega, Lib.hid (HP.out.trans HN0.out), HS9, HOS⟩
           case measure => simp; omega
  ·
   have hle2 : ¬ (1 : Int) < ((ds.length : Nat) : Int) := by omega
   have HP2 := Lib.hid (show pairsP ds s bad = (s, bad) from by
    match ds, h2 with
    | [], _ => rfl
    | [_], _ => rfl
    | _ :: _ :: _, h2 => simp at h2)
   clear h2
   have HF := Lib.hid (HS.out.put HSZ0.out hws hws)
   have HQ := Lib.hid (HO.out.trans (by rw [HP.out, HP2.out] : _ = ((⟨y, l, g, bad⟩ : Rd), s)))
   clear HO
   go_wp2
   refine bodyPost_ret (v := SV s) (ansS rfl rfl HF.out.sb hws) rfl ⟨by rw [HQ.out], ?_⟩
   rw [HQ.out]
   exact ⟨HF.out.rw, HF.out.kr⟩
end Go.Proofs.YtlicoffnjphphaaGreatDoor.Rx
