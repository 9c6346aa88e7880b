/- The document's reading of a node: the walk of the plain bytes. The document's reading of a node: the walk of two parts. The document's reading of a node: the walk of two parts. The document's reading of a node: the walk of so many times, and a group. -/
import Derived.Test.YtdjedjfanfbbcaaGreatDoorRdQ
namespace Go.Proofs.YtdjedjfanfbbcaaGreatDoor.Rx
open Go.RowKit Go.Shelf
open Go.Proofs.YtdjedjfanfbbcaaGreatDoor.St (Wf word zeroW Tab SV SV_eq)
set_option linter.unusedVariables false
set_option linter.unusedSimpArgs false
set_option maxRecDepth 100000 in
set_option maxHeartbeats 3200000 in
theorem read_e (w0 : World) (s : List UInt8) (k p d : Nat) (c : UInt8) (t : List UInt8) (l : List Nd) (g : Int) (v : Value) (w : World) (h : RO w0 l v w) (hp : p < s.length) (hc : s[p] = c) (ht : s.drop (p + 1) = t) (hd : d + (k + 1) = 131) (hlen : l.length + (s.length - p) ≤ 100000) (hs : s.length ≤ 100000) (hg0 : 0 ≤ g) (hg1 : g + ((s.length - p : Nat) : Int) ≤ 100000) (IH : ReadOk w0 s k) 
    (k0 : c = 101) :
    Calls Tryz.prog 22 #[S s, E (p : Nat), v, E g, E (d : Nat)] w (ReadAns w0 s.length v w (readB (readR k) c t l g)) := by
  obtain ⟨ao, cap, rfl⟩ : ∃ ao cap, v = .slice ao l.length cap := own_slice h.own
  obtain ⟨i0, hi, hz0, hz1, hz2⟩ := info_parts infoRd
  have hsz : (ByteArray.mk s.toArray).size = s.length := by simp [ByteArray.size]
  have hx : (ByteArray.mk s.toArray)[p]'(by rw [hsz]; exact hp) = c := hc
  have htl : t.length = s.length - (p + 1) := by rw [← ht, List.length_drop]
  have hlt' : ((p : Nat) : Int) < ((s.length : Nat) : Int) := by omega
  have hge' : ¬ ((s.length : Nat) : Int) ≤ ((p : Nat) : Int) := by omega
  have hd' : ¬ (130 : Int) < ((d : Nat) : Int) := by omega
  have hp1 : IntKind.i64.wrap ((p : Int) + 1) = (p : Int) + 1 := by rw [IntKind.wrap_i64]; omega
  have HS0 := Lib.hid (sn_start h)
  have hown0 := h.own
  have HPQ := Lib.hid (show l.length + 1 ≤ 200000 by omega)
  have HO := Lib.hid (show readB (readR k) c t l g = some (l ++ [⟨0, z4, 0, 0, 0, 0, 0⟩], g, t) from by subst k0; rfl)
  have hpos : s.length - t.length = p + 1 := by omega
  have HPOS := Lib.hid hpos
  clear hd hlen hs hg0 hg1 IH ht hc h hpos htl
  subst k0
  go_enter Tryz.func22, Tryz.ntmps22
  rw [show Code.region 4 = Fz 4 from rfl]
  go_wp2
  refine at_world (p := fun W => SN w0 w _ N0 l _ W) HS0.out (fun W hW => ?_)
  have HS1 := Lib.hid hW
  clear hW HS0
  rw [show Fz 4 = Code.region 4 from rfl]
  obtain ⟨⟨x0, x1, x2, x3, x4, x5, x6, x7, x8, x9⟩, xz⟩ := HS1.out.cells
  (try dsimp only at x0 x1 x2 x3 x4 x5 x6 x7 x8 x9)
  have HOA := Lib.hid (HS1.out.ro.own.alloc (.cells (NC ⟨0, z4, 0, 0, 0, 0, 0⟩) 54))
  have HSZ := Lib.hid HS1.out.ro.bel.size
  go_wp2_with (at_builtin; go_loud (refine wpList_append_lies _ rfl _ _ 27 rfl w0.heap.size 54 i0 _ 10 80 Tryz.underlying27 hi hz0 hz1 hz2 rfl (by decide) _ _ _ rfl HOA.out ⟨_, 0, none⟩ 1 1 (NC ⟨0, z4, 0, 0, 0, 0, 0⟩).toList rfl rfl (news_atR _ ⟨0, z4, 0, 0, 0, 0, 0⟩ _ (by simp)) (one_row _) (by decide) (by have := HPQ.out; unfold maxLen; omega) (by have := HPQ.out; omega) (by have := HSZ.out; simp at this ⊢; omega) _ rfl ?_))
  rintro gg gcap w4 hown hgrow hat hlt4
  have HP := Lib.hid (HS1.out.push hown hgrow (by rcases hat with q | q; exact Or.inl q; exact Or.inr (by simpa using q)))
  clear hown hgrow hat hlt4 HOA HSZ
  go_wp2
  go_ret3
  rw [HO.out]
  refine ⟨_, ?_, HP.out.1, HP.out.2⟩
  rw [HPOS.out]; rfl
set_option maxRecDepth 100000 in
set_option maxHeartbeats 3200000 in
theorem read_b (w0 : World) (s : List UInt8) (k p d : Nat) (c : UInt8) (t : List UInt8) (l : List Nd) (g : Int) (v : Value) (w : World) (h : RO w0 l v w) (hp : p < s.length) (hc : s[p] = c) (ht : s.drop (p + 1) = t) (hd : d + (k + 1) = 131) (hlen : l.length + (s.length - p) ≤ 100000) (hs : s.length ≤ 100000) (hg0 : 0 ≤ g) (hg1 : g + ((s.length - p : Nat) : Int) ≤ 100000) (IH : ReadOk w0 s k) 
    (k0 : c = 94) :
    Calls Tryz.prog 22 #[S s, E (p : Nat), v, E g, E (d : Nat)] w (ReadAns w0 s.length v w (readB (readR k) c t l g)) := by
  obtain ⟨ao, cap, rfl⟩ : ∃ ao cap, v = .slice ao l.length cap := own_slice h.own
  obtain ⟨i0, hi, hz0, hz1, hz2⟩ := info_parts infoRd
  have hsz : (ByteArray.mk s.toArray).size = s.length := by simp [ByteArray.size]
  have hx : (ByteArray.mk s.toArray)[p]'(by rw [hsz]; exact hp) = c := hc
  have htl : t.length = s.length - (p + 1) := by rw [← ht, List.length_drop]
  have hlt' : ((p : Nat) : Int) < ((s.length : Nat) : Int) := by omega
  have hge' : ¬ ((s.length : Nat) : Int) ≤ ((p : Nat) : Int) := by omega
  have hd' : ¬ (130 : Int) < ((d : Nat) : Int) := by omega
  have hp1 : IntKind.i64.wrap ((p : Int) + 1) = (p : Int) + 1 := by rw [IntKind.wrap_i64]; omega
  have HS0 := Lib.hid (sn_start h)
  have hown0 := h.own
  have HPQ := Lib.hid (show l.length + 1 ≤ 200000 by omega)
  have HO := Lib.hid (show readB (readR k) c t l g = some (l ++ [⟨2, z4, 0, 0, 0, 0, 0⟩], g, t) from by subst k0; rfl)
  have hpos : s.length - t.length = p + 1 := by omega
  have HPOS := Lib.hid hpos
  clear hd hlen hs hg0 hg1 IH ht hc h hpos htl
  subst k0
  go_enter Tryz.func22, Tryz.ntmps22
  rw [show Code.region 4 = Fz 4 from rfl]
  go_wp2
  refine at_world (p := fun W => SN w0 w _ N0 l _ W) HS0.out (fun W hW => ?_)
  have HS1 := Lib.hid hW
  clear hW HS0
  rw [show Fz 4 = Code.region 4 from rfl]
  obtain ⟨⟨x0, x1, x2, x3, x4, x5, x6, x7, x8, x9⟩, xz⟩ := HS1.out.cells
  (try dsimp only at x0 x1 x2 x3 x4 x5 x6 x7 x8 x9)
  have HSa := Lib.hid (HS1.out.node (i := 0) (u := E 2) (m := ⟨2, z4, 0, 0, 0, 0, 0⟩) rfl)
  have HOA := Lib.hid (HSa.out.ro.own.alloc (.cells (NC ⟨2, z4, 0, 0, 0, 0, 0⟩) 54))
  have HSZ := Lib.hid HSa.out.ro.bel.size
  go_wp2_with (at_builtin; go_loud (refine wpList_append_lies _ rfl _ _ 27 rfl w0.heap.size 54 i0 _ 10 80 Tryz.underlying27 hi hz0 hz1 hz2 rfl (by decide) _ _ _ rfl HOA.out ⟨_, 0, none⟩ 1 1 (NC ⟨2, z4, 0, 0, 0, 0, 0⟩).toList rfl rfl (news_atR _ ⟨2, z4, 0, 0, 0, 0, 0⟩ _ (by simp)) (one_row _) (by decide) (by have := HPQ.out; unfold maxLen; omega) (by have := HPQ.out; omega) (by have := HSZ.out; simp at this ⊢; omega) _ rfl ?_))
  rintro gg gcap w4 hown hgrow hat hlt4
  have HP := Lib.hid (HSa.out.push hown hgrow (by rcases hat with q | q; exact Or.inl q; exact Or.inr (by simpa using q)))
  clear hown hgrow hat hlt4 HOA HSZ
  go_wp2
  go_ret3
  rw [HO.out]
  refine ⟨_, ?_, HP.out.1, HP.out.2⟩
  rw [HPOS.out]; rfl
set_option maxRecDepth 100000 in
set_option maxHeartbeats 3200000 in
theorem read_d (w0 : World) (s : List UInt8) (k p d : Nat) (c : UInt8) (t : List UInt8) (l : List Nd) (g : Int) (v : Value) (w : World) (h : RO w0 l v w) (hp : p < s.length) (hc : s[p] = c) (ht : s.drop (p + 1) = t) (hd : d + (k + 1) = 131) (hlen : l.length + (s.length - p) ≤ 100000) (hs : s.length ≤ 100000) (hg0 : 0 ≤ g) (hg1 : g + ((s.length - p : Nat) : Int) ≤ 100000) (IH : ReadOk w0 s k) 
    (k0 : c = 36) :
    Calls Tryz.prog 22 #[S s, E (p : Nat), v, E g, E (d : Nat)] w (ReadAns w0 s.length v w (readB (readR k) c t l g)) := by
  obtain ⟨ao, cap, rfl⟩ : ∃ ao cap, v = .slice ao l.length cap := own_slice h.own
  obtain ⟨i0, hi, hz0, hz1, hz2⟩ := info_parts infoRd
  have hsz : (ByteArray.mk s.toArray).size = s.length := by simp [ByteArray.size]
  have hx : (ByteArray.mk s.toArray)[p]'(by rw [hsz]; exact hp) = c := hc
  have htl : t.length = s.length - (p + 1) := by rw [← ht, List.length_drop]
  have hlt' : ((p : Nat) : Int) < ((s.length : Nat) : Int) := by omega
  have hge' : ¬ ((s.length : Nat) : Int) ≤ ((p : Nat) : Int) := by omega
  have hd' : ¬ (130 : Int) < ((d : Nat) : Int) := by omega
  have hp1 : IntKind.i64.wrap ((p : Int) + 1) = (p : Int) + 1 := by rw [IntKind.wrap_i64]; omega
  have HS0 := Lib.hid (sn_start h)
  have hown0 := h.own
  have HPQ := Lib.hid (show l.length + 1 ≤ 200000 by omega)
  have HO := Lib.hid (show readB (readR k) c t l g = some (l ++ [⟨3, z4, 0, 0, 0, 0, 0⟩], g, t) from by subst k0; rfl)
  have hpos : s.length - t.length = p + 1 := by omega
  have HPOS := Lib.hid hpos
  clear hd hlen hs hg0 hg1 IH ht hc h hpos htl
  subst k0
  go_enter Tryz.func22, Tryz.ntmps22
  rw [show Code.region 4 = Fz 4 from rfl]
  go_wp2
  refine at_world (p := fun W => SN w0 w _ N0 l _ W) HS0.out (fun W hW => ?_)
  have HS1 := Lib.hid hW
  clear hW HS0
  rw [show Fz 4 = Code.region 4 from rfl]
  obtain ⟨⟨x0, x1, x2, x3, x4, x5, x6, x7, x8, x9⟩, xz⟩ := HS1.out.cells
  (try dsimp only at x0 x1 x2 x3 x4 x5 x6 x7 x8 x9)
  have HSa := Lib.hid (HS1.out.node (i := 0) (u := E 3) (m := ⟨3, z4, 0, 0, 0, 0, 0⟩) rfl)
  have HOA := Lib.hid (HSa.out.ro.own.alloc (.cells (NC ⟨3, z4, 0, 0, 0, 0, 0⟩) 54))
  have HSZ := Lib.hid HSa.out.ro.bel.size
  go_wp2_with (at_builtin; go_loud (refine wpList_append_lies _ rfl _ _ 27 rfl w0.heap.size 54 i0 _ 10 80 Tryz.underlying27 hi hz0 hz1 hz2 rfl (by decide) _ _ _ rfl HOA.out ⟨_, 0, none⟩ 1 1 (NC ⟨3, z4, 0, 0, 0, 0, 0⟩).toList rfl rfl (news_atR _ ⟨3, z4, 0, 0, 0, 0, 0⟩ _ (by simp)) (one_row _) (by decide) (by have := HPQ.out; unfold maxLen; omega) (by have := HPQ.out; omega) (by have := HSZ.out; simp at this ⊢; omega) _ rfl ?_))
  rintro gg gcap w4 hown hgrow hat hlt4
  have HP := Lib.hid (HSa.out.push hown hgrow (by rcases hat with q | q; exact Or.inl q; exact Or.inr (by simpa using q)))
  clear hown hgrow hat hlt4 HOA HSZ
  go_wp2
  go_ret3
  rw [HO.out]
  refine ⟨_, ?_, HP.out.1, HP.out.2⟩
  rw [HPOS.out]; rfl
set_option maxRecDepth 100000 in
set_option maxHeartbeats 1600000 in
theorem read_out (w0 : World) (s : List UInt8) (p d : Nat) (l : List Nd) (g : Int) (v : Value) (w : World) (h : RO w0 l v w) (hp : p ≤ s.length) (hs : s.length ≤ 100000) (hd : p = s.length ∨ 130 < d) (hd2 : d ≤ 131) :
    Calls Tryz.prog 22 #[S s, E (p : Nat), v, E g, E (d : Nat)] w (ReadAns w0 s.length v w none) := by
  obtain ⟨ao, cap, rfl⟩ : ∃ ao cap, v = .slice ao l.length cap := own_slice h.own
  have HB := Lib.hid h.bel
  clear h
  by_cases hlt : p < s.length
  · have h1 : ¬ ((s.length : Nat) : Int) ≤ ((p : Nat) : Int) := by omega
    have h2 : (130 : Int) < ((d : Nat) : Int) := by omega
    go_enter Tryz.func22, Tryz.ntmps22
    go_wp2
    go_ret3
    exact ⟨_, _, rfl, HB.out⟩
  · have h1 : ((s.length : Nat) : Int) ≤ ((p : Nat) : Int) := by omega
    go_enter Tryz.func22, Tryz.ntmps22
    go_wp2
    go_ret3
    exact ⟨_, _, rfl, HB.out⟩
set_option maxRecDepth 100000 in
set_option maxHeartbeats 3200000 in
theorem read_z (w0 : World) (s : List UInt8) (k p d : Nat) (c : UInt8) (t : List UInt8) (l : List Nd) (g : Int) (v : Value) (w : World) (h : RO w0 l v w) (hp : p < s.length) (hc : s[p] = c) (ht : s.drop (p + 1) = t) (hd : d + (k + 1) = 131) (hlen : l.length + (s.length - p) ≤ 100000) (hs : s.length ≤ 100000) (hg0 : 0 ≤ g) (hg1 : g + ((s.length - p : Nat) : Int) ≤ 100000) (IH : ReadOk w0 s k) 
    (k101 : c ≠ 101) (k94 : c ≠ 94) (k36 : c ≠ 36) (k91 : c ≠ 91) (k38 : c ≠ 38) (k124 : c ≠ 124) (k42 : c ≠ 42) (k40 : c ≠ 40) (k92 : c ≠ 92) :
    Calls Tryz.prog 22 #[S s, E (p : Nat), v, E g, E (d : Nat)] w (ReadAns w0 s.length v w (readB (readR k) c t l g)) := by
  obtain ⟨ao, cap, rfl⟩ : ∃ ao cap, v = .slice ao l.length cap := own_slice h.own
  obtain ⟨i0, hi, hz0, hz1, hz2⟩ := info_parts infoRd
  have hsz : (ByteArray.mk s.toArray).size = s.length := by simp [ByteArray.size]
  have hx : (ByteArray.mk s.toArray)[p]'(by rw [hsz]; exact hp) = c := hc
  have htl : t.length = s.length - (p + 1) := by rw [← ht, List.length_drop]
  have hlt' : ((p : Nat) : Int) < ((s.length : Nat) : Int) := by omega
  have hge' : ¬ ((s.length : Nat) : Int) ≤ ((p : Nat) : Int) := by omega
  have hd' : ¬ (130 : Int) < ((d : Nat) : Int) := by omega
  have hp1 : IntKind.i64.wrap ((p : Int) + 1) = (p : Int) + 1 := by rw [IntKind.wrap_i64]; omega
  have HS0 := Lib.hid (sn_start h)
  have hown0 := h.own
  have HPQ := Lib.hid (show l.length + 1 ≤ 200000 by omega)
  have HO := Lib.hid (show readB (readR k) c t l g = none from by unfold readB; simp [k101, k94, k36, k91, k38, k124, k42, k40, k92])
  have j101 : ¬ ((c.toNat : Int) = 101) := fun q => k101 (UInt8.toNat.inj (by show c.toNat = 101; omega))
  have j94 : ¬ ((c.toNat : Int) = 94) := fun q => k94 (UInt8.toNat.inj (by show c.toNat = 94; omega))
  have j36 : ¬ ((c.toNat : Int) = 36) := fun q => k36 (UInt8.toNat.inj (by show c.toNat = 36; omega))
  have j91 : ¬ ((c.toNat : Int) = 91) := fun q => k91 (UInt8.toNat.inj (by show c.toNat = 91; omega))
  have j38 : ¬ ((c.toNat : Int) = 38) := fun q => k38 (UInt8.toNat.inj (by show c.toNat = 38; omega))
  have j124 : ¬ ((c.toNat : Int) = 124) := fun q => k124 (UInt8.toNat.inj (by show c.toNat = 124; omega))
  have j42 : ¬ ((c.toNat : Int) = 42) := fun q => k42 (UInt8.toNat.inj (by show c.toNat = 42; omega))
  have j40 : ¬ ((c.toNat : Int) = 40) := fun q => k40 (UInt8.toNat.inj (by show c.toNat = 40; omega))
  have j92 : ¬ ((c.toNat : Int) = 92) := fun q => k92 (UInt8.toNat.inj (by show c.toNat = 92; omega))
  clear hd hlen hs hg0 hg1 IH ht hc h htl k101 k94 k36 k91 k38 k124 k42 k40 k92
  go_enter Tryz.func22, Tryz.ntmps22
  rw [show Code.region 4 = Fz 4 from rfl]
  go_wp2
  refine at_world (p := fun W => SN w0 w _ N0 l _ W) HS0.out (fun W hW => ?_)
  have HS1 := Lib.hid hW
  clear hW HS0
  rw [show Fz 4 = Code.region 4 from rfl]
  go_wp2
  go_ret3
  rw [HO.out]
  exact ⟨_, _, rfl, HS1.out.ro.bel⟩
set_option maxRecDepth 100000 in
set_option maxHeartbeats 3200000 in
theorem read_r0 (w0 : World) (s : List UInt8) (k p d : Nat) (c : UInt8) (t : List UInt8) (l : List Nd) (g : Int) (v : Value) (w : World) (h : RO w0 l v w) (hp : p < s.length) (hc : s[p] = c) (ht : s.drop (p + 1) = t) (hd : d + (k + 1) = 131) (hlen : l.length + (s.length - p) ≤ 100000) (hs : s.length ≤ 100000) (hg0 : 0 ≤ g) (hg1 : g + ((s.length - p : Nat) : Int) ≤ 100000) (IH : ReadOk w0 s k) 
    (k0 : c = 92) (hn : t = []) :
    Calls Tryz.prog 22 #[S s, E (p : Nat), v, E g, E (d : Nat)] w (ReadAns w0 s.length v w (readB (readR k) c t l g)) := by
  obtain ⟨ao, cap, rfl⟩ : ∃ ao cap, v = .slice ao l.length cap := own_slice h.own
  obtain ⟨i0, hi, hz0, hz1, hz2⟩ := info_parts infoRd
  have hsz : (ByteArray.mk s.toArray).size = s.length := by simp [ByteArray.size]
  have hx : (ByteArray.mk s.toArray)[p]'(by rw [hsz]; exact hp) = c := hc
  have htl : t.length = s.length - (p + 1) := by rw [← ht, List.length_drop]
  have hlt' : ((p : Nat) : Int) < ((s.length : Nat) : Int) := by omega
  have hge' : ¬ ((s.length : Nat) : Int) ≤ ((p : Nat) : Int) := by omega
  have hd' : ¬ (130 : Int) < ((d : Nat) : Int) := by omega
  have hp1 : IntKind.i64.wrap ((p : Int) + 1) = (p : Int) + 1 := by rw [IntKind.wrap_i64]; omega
  have HS0 := Lib.hid (sn_start h)
  have hown0 := h.own
  have HPQ := Lib.hid (show l.length + 1 ≤ 200000 by omega)
  have HO := Lib.hid (show readB (readR k) c t l g = none from by subst k0; rw [readB, if_neg (by decide), if_neg (by decide), if_neg (by decide), if_neg (by decide), if_neg (by decide), if_neg (by decide), if_neg (by decide), if_pos (by decide)]; subst hn; rfl)
  have hn' : ¬ ((p : Int) + 1 < ((s.length : Nat) : Int)) := by rw [hn] at htl; simp at htl; omega
  clear hd hlen hs hg0 hg1 IH ht hc h htl hn
  subst k0
  go_enter Tryz.func22, Tryz.ntmps22
  rw [show Code.region 4 = Fz 4 from rfl]
  go_wp2
  refine at_world (p := fun W => SN w0 w _ N0 l _ W) HS0.out (fun W hW => ?_)
  have HS1 := Lib.hid hW
  clear hW HS0
  rw [show Fz 4 = Code.region 4 from rfl]
  obtain ⟨⟨x0, x1, x2, x3, x4, x5, x6, x7, x8, x9⟩, xz⟩ := HS1.out.cells
  (try dsimp only at x0 x1 x2 x3 x4 x5 x6 x7 x8 x9)
  have HSa := Lib.hid (HS1.out.node (i := 0) (u := E 8) (m := ⟨8, z4, 0, 0, 0, 0, 0⟩) rfl)
  go_wp2
  go_ret3
  rw [HO.out]
  exact ⟨_, _, rfl, HSa.out.ro.bel⟩
set_option maxRecDepth 100000 in
set_option maxHeartbeats 3200000 in
theorem read_r1 (w0 : World) (s : List UInt8) (k p d : Nat) (c : UInt8) (t : List UInt8) (l : List Nd) (g : Int) (v : Value) (w : World) (h : RO w0 l v w) (hp : p < s.length) (hc : s[p] = c) (ht : s.drop (p + 1) = t) (hd : d + (k + 1) = 131) (hlen : l.length + (s.length - p) ≤ 100000) (hs : s.length ≤ 100000) (hg0 : 0 ≤ g) (hg1 : g + ((s.length - p : Nat) : Int) ≤ 100000) (IH : ReadOk w0 s k) 
    (k0 : c = 92) (x : UInt8) (r : List UInt8) (hn : t = x :: r) (hb : x.toNat < 48) :
    Calls Tryz.prog 22 #[S s, E (p : Nat), v, E g, E (d : Nat)] w (ReadAns w0 s.length v w (readB (readR k) c t l g)) := by
  obtain ⟨ao, cap, rfl⟩ : ∃ ao cap, v = .slice ao l.length cap := own_slice h.own
  obtain ⟨i0, hi, hz0, hz1, hz2⟩ := info_parts infoRd
  have hsz : (ByteArray.mk s.toArray).size = s.length := by simp [ByteArray.size]
  have hx : (ByteArray.mk s.toArray)[p]'(by rw [hsz]; exact hp) = c := hc
  have htl : t.length = s.length - (p + 1) := by rw [← ht, List.length_drop]
  have hlt' : ((p : Nat) : Int) < ((s.length : Nat) : Int) := by omega
  have hge' : ¬ ((s.length : Nat) : Int) ≤ ((p : Nat) : Int) := by omega
  have hd' : ¬ (130 : Int) < ((d : Nat) : Int) := by omega
  have hp1 : IntKind.i64.wrap ((p : Int) + 1) = (p : Int) + 1 := by rw [IntKind.wrap_i64]; omega
  have HS0 := Lib.hid (sn_start h)
  have hown0 := h.own
  have HPQ := Lib.hid (show l.length + 1 ≤ 200000 by omega)
  have HO := Lib.hid (show readB (readR k) c t l g = none from by subst k0; rw [readB, if_neg (by decide), if_neg (by decide), if_neg (by decide), if_neg (by decide), if_neg (by decide), if_neg (by decide), if_neg (by decide), if_pos (by decide)]; subst hn; rw [refR, if_neg (by omega)]; rfl)
  have hp2 : p + 1 < s.length := by rw [hn] at htl; simp at htl; omega
  have hn' : ((p : Int) + 1 < ((s.length : Nat) : Int)) := by omega
  have hx1 : (ByteArray.mk s.toArray)[p + 1]'(by rw [hsz]; exact hp2) = x := by
    have e : s.drop (p + 1) = s[p + 1] :: s.drop (p + 2) := List.drop_eq_getElem_cons hp2
    rw [ht, hn] at e
    exact (List.cons.inj e).1.symm
  have hnn : (0 : Int) ≤ (p : Int) + 1 := by omega
  have htn : ((p : Int) + 1).toNat = p + 1 := by omega
  have hb' : ¬ (48 : Int) ≤ (x.toNat : Int) := by omega
  clear hd hlen hs hg0 hg1 IH ht hc h htl hn
  subst k0
  go_enter Tryz.func22, Tryz.ntmps22
  rw [show Code.region 4 = Fz 4 from rfl]
  go_wp2
  refine at_world (p := fun W => SN w0 w _ N0 l _ W) HS0.out (fun W hW => ?_)
  have HS1 := Lib.hid hW
  clear hW HS0
  rw [show Fz 4 = Code.region 4 from rfl]
  obtain ⟨⟨x0, x1, x2, x3, x4, x5, x6, x7, x8, x9⟩, xz⟩ := HS1.out.cells
  (try dsimp only at x0 x1 x2 x3 x4 x5 x6 x7 x8 x9)
  have HSa := Lib.hid (HS1.out.node (i := 0) (u := E 8) (m := ⟨8, z4, 0, 0, 0, 0, 0⟩) rfl)
  go_wp2
  go_ret3
  rw [HO.out]
  exact ⟨_, _, rfl, HSa.out.ro.bel⟩
set_option maxRecDepth 100000 in
set_option maxHeartbeats 3200000 in
theorem read_r2 (w0 : World) (s : List UInt8) (k p d : Nat) (c : UInt8) (t : List UInt8) (l : List Nd) (g : Int) (v : Value) (w : World) (h : RO w0 l v w) (hp : p < s.length) (hc : s[p] = c) (ht : s.drop (p + 1) = t) (hd : d + (k + 1) = 131) (hlen : l.length + (s.length - p) ≤ 100000) (hs : s.length ≤ 100000) (hg0 : 0 ≤ g) (hg1 : g + ((s.length - p : Nat) : Int) ≤ 100000) (IH : ReadOk w0 s k) 
    (k0 : c = 92) (x : UInt8) (r : List UInt8) (hn : t = x :: r) (hb : 57 < x.toNat) :
    Calls Tryz.prog 22 #[S s, E (p : Nat), v, E g, E (d : Nat)] w (ReadAns w0 s.length v w (readB (readR k) c t l g)) := by
  obtain ⟨ao, cap, rfl⟩ : ∃ ao cap, v = .slice ao l.length cap := own_slice h.own
  obtain ⟨i0, hi, hz0, hz1, hz2⟩ := info_parts infoRd
  have hsz : (ByteArray.mk s.toArray).size = s.length := by simp [ByteArray.size]
  have hx : (ByteArray.mk s.toArray)[p]'(by rw [hsz]; exact hp) = c := hc
  have htl : t.length = s.length - (p + 1) := by rw [← ht, List.length_drop]
  have hlt' : ((p : Nat) : Int) < ((s.length : Nat) : Int) := by omega
  have hge' : ¬ ((s.length : Nat) : Int) ≤ ((p : Nat) : Int) := by omega
  have hd' : ¬ (130 : Int) < ((d : Nat) : Int) := by omega
  have hp1 : IntKind.i64.wrap ((p : Int) + 1) = (p : Int) + 1 := by rw [IntKind.wrap_i64]; omega
  have HS0 := Lib.hid (sn_start h)
  have hown0 := h.own
  have HPQ := Lib.hid (show l.length + 1 ≤ 200000 by omega)
  have HO := Lib.hid (show readB (readR k) c t l g = none from by subst k0; rw [readB, if_neg (by decide), if_neg (by decide), if_neg (by decide), if_neg (by decide), if_neg (by decide), if_neg (by decide), if_neg (by decide), if_pos (by decide)]; subst hn; rw [refR, if_neg (by omega)]; rfl)
  have hp2 : p + 1 < s.length := by rw [hn] at htl; simp at htl; omega
  have hn' : ((p : Int) + 1 < ((s.length : Nat) : Int)) := by omega
  have hx1 : (ByteArray.mk s.toArray)[p + 1]'(by rw [hsz]; exact hp2) = x := by
    have e : s.drop (p + 1) = s[p + 1] :: s.drop (p + 2) := List.drop_eq_getElem_cons hp2
    rw [ht, hn] at e
    exact (List.cons.inj e).1.symm
  have hnn : (0 : Int) ≤ (p : Int) + 1 := by omega
  have htn : ((p : Int) + 1).toNat = p + 1 := by omega
  have hb' : (48 : Int) ≤ (x.toNat : Int) := by omega
  have hb2 : ¬ (x.toNat : Int) ≤ 57 := by omega
  clear hd hlen hs hg0 hg1 IH ht hc h htl hn
  subst k0
  go_enter Tryz.func22, Tryz.ntmps22
  rw [show Code.region 4 = Fz 4 from rfl]
  go_wp2
  refine at_world (p := fun W => SN w0 w _ N0 l _ W) HS0.out (fun W hW => ?_)
  have HS1 := Lib.hid hW
  clear hW HS0
  rw [show Fz 4 = Code.region 4 from rfl]
  obtain ⟨⟨x0, x1, x2, x3, x4, x5, x6, x7, x8, x9⟩, xz⟩ := HS1.out.cells
  (try dsimp only at x0 x1 x2 x3 x4 x5 x6 x7 x8 x9)
  have HSa := Lib.hid (HS1.out.node (i := 0) (u := E 8) (m := ⟨8, z4, 0, 0, 0, 0, 0⟩) rfl)
  go_wp2
  go_ret3
  rw [HO.out]
  exact ⟨_, _, rfl, HSa.out.ro.bel⟩
set_option maxRecDepth 100000 in
set_option maxHeartbeats 3200000 in
theorem read_r (w0 : World) (s : List UInt8) (k p d : Nat) (c : UInt8) (t : List UInt8) (l : List Nd) (g : Int) (v : Value) (w : World) (h : RO w0 l v w) (hp : p < s.length) (hc : s[p] = c) (ht : s.drop (p + 1) = t) (hd : d + (k + 1) = 131) (hlen : l.length + (s.length - p) ≤ 100000) (hs : s.length ≤ 100000) (hg0 : 0 ≤ g) (hg1 : g + ((s.length - p : Nat) : Int) ≤ 100000) (IH : ReadOk w0 s k) 
    (k0 : c = 92) (x : UInt8) (r : List UInt8) (hn : t = x :: r) (hb : 48 ≤ x.toNat) (hb2 : x.toNat ≤ 57) :
    Calls Tryz.prog 22 #[S s, E (p : Nat), v, E g, E (d : Nat)] w (ReadAns w0 s.length v w (readB (readR k) c t l g)) := by
  obtain ⟨ao, cap, rfl⟩ : ∃ ao cap, v = .slice ao l.length cap := own_slice h.own
  obtain ⟨i0, hi, hz0, hz1, hz2⟩ := info_parts infoRd
  have hsz : (ByteArray.mk s.toArray).size = s.length := by simp [ByteArray.size]
  have hx : (ByteArray.mk s.toArray)[p]'(by rw [hsz]; exact hp) = c := hc
  have htl : t.length = s.length - (p + 1) := by rw [← ht, List.length_drop]
  have hlt' : ((p : Nat) : Int) < ((s.length : Nat) : Int) := by omega
  have hge' : ¬ ((s.length : Nat) : Int) ≤ ((p : Nat) : Int) := by omega
  have hd' : ¬ (130 : Int) < ((d : Nat) : Int) := by omega
  have hp1 : IntKind.i64.wrap ((p : Int) + 1) = (p : Int) + 1 := by rw [IntKind.wrap_i64]; omega
  have HS0 := Lib.hid (sn_start h)
  have hown0 := h.own
  have HPQ := Lib.hid (show l.length + 1 ≤ 200000 by omega)
  have HO := Lib.hid (show readB (readR k) c t l g = some (l ++ [⟨8, z4, 0, 0, 0, 0, (x.toNat : Int) - 48⟩], g, r) from by subst k0; rw [readB, if_neg (by decide), if_neg (by decide), if_neg (by decide), if_neg (by decide), if_neg (by decide), if_neg (by decide), if_neg (by decide), if_pos (by decide)]; subst hn; rw [refR, if_pos ⟨hb, hb2⟩]; rfl)
  have hp2 : p + 1 < s.length := by rw [hn] at htl; simp at htl; omega
  have hn' : ((p : Int) + 1 < ((s.length : Nat) : Int)) := by omega
  have hx1 : (ByteArray.mk s.toArray)[p + 1]'(by rw [hsz]; exact hp2) = x := by
    have e : s.drop (p + 1) = s[p + 1] :: s.drop (p + 2) := List.drop_eq_getElem_cons hp2
    rw [ht, hn] at e
    exact (List.cons.inj e).1.symm
  have hnn : (0 : Int) ≤ (p : Int) + 1 := by omega
  have htn : ((p : Int) + 1).toNat = p + 1 := by omega
  have HPOS := Lib.hid (show s.length - r.length = p + 2 by rw [hn] at htl; simp at htl; omega)
  have a1 : (48 : Int) ≤ (x.toNat : Int) := by omega
  have a2 : (x.toNat : Int) ≤ 57 := by omega
  have b2 : IntKind.u8.wrap ((x.toNat : Int) - 48) = (x.toNat : Int) - 48 := by rw [IntKind.wrap_u8]; omega
  have b3 : IntKind.i64.wrap ((x.toNat : Int) - 48) = (x.toNat : Int) - 48 := by rw [IntKind.wrap_i64]; omega
  have b4 : IntKind.i64.wrap ((p : Int) + 2) = (p : Int) + 2 := by rw [IntKind.wrap_i64]; omega
  clear hd hlen hs hg0 hg1 IH ht hc h htl hn
  subst k0
  go_enter Tryz.func22, Tryz.ntmps22
  rw [show Code.region 4 = Fz 4 from rfl]
  go_wp2
  refine at_world (p := fun W => SN w0 w _ N0 l _ W) HS0.out (fun W hW => ?_)
  have HS1 := Lib.hid hW
  clear hW HS0
  rw [show Fz 4 = Code.region 4 from rfl]
  obtain ⟨⟨x0, x1, x2, x3, x4, x5, x6, x7, x8, x9⟩, xz⟩ := HS1.out.cells
  (try dsimp only at x0 x1 x2 x3 x4 x5 x6 x7 x8 x9)
  have HSa := Lib.hid (HS1.out.node (i := 0) (u := E 8) (m := ⟨8, z4, 0, 0, 0, 0, 0⟩) rfl)
  have HSb := Lib.hid (HSa.out.node (i := 9) (u := E ((x.toNat : Int) - 48)) (m := ⟨8, z4, 0, 0, 0, 0, (x.toNat : Int) - 48⟩) rfl)
  have HOA := Lib.hid (HSb.out.ro.own.alloc (.cells (NC ⟨8, z4, 0, 0, 0, 0, (x.toNat : Int) - 48⟩) 54))
  have HSZ := Lib.hid HSb.out.ro.bel.size
  go_wp2_with (at_builtin; go_loud (refine wpList_append_lies _ rfl _ _ 27 rfl w0.heap.size 54 i0 _ 10 80 Tryz.underlying27 hi hz0 hz1 hz2 rfl (by decide) _ _ _ rfl HOA.out ⟨_, 0, none⟩ 1 1 (NC ⟨8, z4, 0, 0, 0, 0, (x.toNat : Int) - 48⟩).toList rfl rfl (news_atR _ ⟨8, z4, 0, 0, 0, 0, (x.toNat : Int) - 48⟩ _ (by simp)) (one_row _) (by decide) (by have := HPQ.out; unfold maxLen; omega) (by have := HPQ.out; omega) (by have := HSZ.out; simp at this ⊢; omega) _ rfl ?_))
  rintro gg gcap w4 hown hgrow hat hlt4
  have HP := Lib.hid (HSb.out.push hown hgrow (by rcases hat with q | q; exact Or.inl q; exact Or.inr (by simpa using q)))
  clear hown hgrow hat hlt4 HOA HSZ
  go_wp2
  go_ret3
  rw [HO.out]
  refine ⟨_, ?_, HP.out.1, HP.out.2⟩
  rw [HPOS.out]; rfl
end Go.Proofs.YtdjedjfanfbbcaaGreatDoor.Rx
namespace Go.Proofs.YtdjedjfanfbbcaaGreatDoor.Rx
open Go.RowKit Go.Shelf
open Go.Proofs.YtdjedjfanfbbcaaGreatDoor.St (Wf word zeroW Tab SV SV_eq)
set_option linter.unusedVariables false
set_option linter.unusedSimpArgs false
theorem ReadOk.none {w0 : World} {s : List UInt8} {k : Nat} (IH : ReadOk w0 s k) {p d : Nat} {t : List UInt8} {l : List Nd} {g : Int} (ht : s.drop p = t) (hr : readR k t l g = none) (hp : p ≤ s.length) (hd : d + k = 131) (h1 : l.length + (s.length - p) ≤ 100000) (h2 : 0 ≤ g) (h3 : g + ((s.length - p : Nat) : Int) ≤ 100000) (v : Value) (W : World) (h : RO w0 l v W) :
    Calls Tryz.prog 22 #[S s, E (p : Nat), v, E g, E (d : Nat)] W fun e w' => ∃ v' g', e = .returned (.tuple #[v', E g', E (-1)]) ∧ Below w0.heap.size w0 w' := by
  have := IH p d l g v W h hp hd h1 h2 h3
  rw [ht, hr] at this
  exact this
theorem ReadOk.some {w0 : World} {s : List UInt8} {k : Nat} (IH : ReadOk w0 s k) {p d q : Nat} {t r : List UInt8} {l l' : List Nd} {g g' : Int} (ht : s.drop p = t) (hr : readR k t l g = some (l', g', r)) (hq : s.length - r.length = q) (hp : p ≤ s.length) (hd : d + k = 131) (h1 : l.length + (s.length - p) ≤ 100000) (h2 : 0 ≤ g) (h3 : g + ((s.length - p : Nat) : Int) ≤ 100000) (v : Value) (W : World) (h : RO w0 l v W) :
    Calls Tryz.prog 22 #[S s, E (p : Nat), v, E g, E (d : Nat)] W fun e w' => ∃ v', e = .returned (.tuple #[v', E g', E (q : Nat)]) ∧ RO w0 l' v' w' ∧ Kd W v w' v' := by
  have := IH p d l g v W h hp hd h1 h2 h3
  rw [ht, hr] at this
  unfold ReadAns at this
  dsimp only at this
  rw [hq] at this
  exact this
/-- What is read stays within bounds. -/
theorem read_bound {s t r : List UInt8} {k p : Nat} {l l' : List Nd} {g g' : Int} (ht : s.drop p = t) (hp : p ≤ s.length) (hr : readR k t l g = some (l', g', r)) (h1 : l.length + (s.length - p) ≤ 100000) (h2 : 0 ≤ g) (h3 : g + ((s.length - p : Nat) : Int) ≤ 100000) :
    ∃ q, s.length - r.length = q ∧ s.drop q = r ∧ q ≤ s.length ∧ p < q ∧ l'.length + (s.length - q) ≤ 100000 ∧ 0 < l'.length ∧ 0 ≤ g' ∧ g' + ((s.length - q : Nat) : Int) ≤ 100000 := by
  have hl := read_len' k t l g l' g' r hr
  have hs := read_suf k t l g l' g' r hr
  have hs2 : r <:+ s := hs.trans (ht ▸ List.drop_suffix p s)
  have hd := suf_drop hs2
  have hle := hs2.length_le
  have htl : t.length = s.length - p := by rw [← ht, List.length_drop]
  exact ⟨_, rfl, hd.symm, by omega, by omega, by omega, by omega, by omega, by omega⟩
set_option maxRecDepth 100000 in
set_option maxHeartbeats 3200000 in
theorem read_c0 (w0 : World) (s : List UInt8) (k p d : Nat) (c : UInt8) (t : List UInt8) (l : List Nd) (g : Int) (v : Value) (w : World) (h : RO w0 l v w) (hp : p < s.length) (hc : s[p] = c) (ht : s.drop (p + 1) = t) (hd : d + (k + 1) = 131) (hlen : l.length + (s.length - p) ≤ 100000) (hs : s.length ≤ 100000) (hg0 : 0 ≤ g) (hg1 : g + ((s.length - p : Nat) : Int) ≤ 100000) (IH : ReadOk w0 s k) 
    (k0 : c = 38) (hn : readR k t l g = none) :
    Calls Tryz.prog 22 #[S s, E (p : Nat), v, E g, E (d : Nat)] w (ReadAns w0 s.length v w (readB (readR k) c t l g)) := by
  obtain ⟨ao, cap, rfl⟩ : ∃ ao cap, v = .slice ao l.length cap := own_slice h.own
  obtain ⟨i0, hi, hz0, hz1, hz2⟩ := info_parts infoRd
  have hsz : (ByteArray.mk s.toArray).size = s.length := by simp [ByteArray.size]
  have hx : (ByteArray.mk s.toArray)[p]'(by rw [hsz]; exact hp) = c := hc
  have htl : t.length = s.length - (p + 1) := by rw [← ht, List.length_drop]
  have hlt' : ((p : Nat) : Int) < ((s.length : Nat) : Int) := by omega
  have hge' : ¬ ((s.length : Nat) : Int) ≤ ((p : Nat) : Int) := by omega
  have hd' : ¬ (130 : Int) < ((d : Nat) : Int) := by omega
  have HS0 := Lib.hid (sn_start h)
  have hown0 := h.own
  have HPQ := Lib.hid (show l.length + 1 ≤ 200000 by omega)
  have hq0 : p + 1 ≤ s.length := by omega
  obtain ⟨p1, hp1e⟩ : ∃ p1, p1 = p + 1 := ⟨_, rfl⟩
  obtain ⟨d1, hd1e⟩ : ∃ d1, d1 = d + 1 := ⟨_, rfl⟩
  have hw1 : IntKind.i64.wrap ((p : Int) + 1) = ((p1 : Nat) : Int) := by rw [IntKind.wrap_i64]; omega
  have hw2 : IntKind.i64.wrap ((d : Int) + 1) = ((d1 : Nat) : Int) := by rw [IntKind.wrap_i64]; omega
  rw [← hp1e] at ht
  have HO := Lib.hid (show readB (readR k) c t l g = none from by subst k0; rw [readB, if_neg (by decide), if_neg (by decide), if_neg (by decide), if_neg (by decide), if_pos (by decide), hn]; rfl)
  have H1 := Lib.hid (IH.none (p := p1) (d := d1) ht hn (by omega) (by omega) (by omega) hg0 (by omega))
  clear hd hlen hs hg0 hg1 IH ht hc h htl hp1e hd1e hn
  subst k0
  go_enter Tryz.func22, Tryz.ntmps22
  rw [show Code.region 4 = Fz 4 from rfl]
  go_wp2
  refine at_world (p := fun W => SN w0 w _ N0 l _ W) HS0.out (fun W hW => ?_)
  have HS1 := Lib.hid hW
  clear hW HS0
  rw [show Fz 4 = Code.region 4 from rfl]
  obtain ⟨⟨x0, x1, x2, x3, x4, x5, x6, x7, x8, x9⟩, xz⟩ := HS1.out.cells
  (try dsimp only at x0 x1 x2 x3 x4 x5 x6 x7 x8 x9)
  have HSa := Lib.hid (HS1.out.node (i := 0) (u := E 4) (m := ⟨4, z4, 0, 0, 0, 0, 0⟩) rfl)
  go_wp2_with (go_at_call 22; have hq := H1.out; clear H1; refine (hq _ _ HSa.out.ro).mono ?_; clear hq; rintro e wz ⟨vz, gz, rfl, hbz⟩; have HBZ := Lib.hid hbz; clear hbz)
  go_ret3
  rw [HO.out]
  exact ⟨_, _, rfl, HBZ.out⟩
set_option maxRecDepth 100000 in
set_option maxHeartbeats 3200000 in
theorem read_c1 (w0 : World) (s : List UInt8) (k p d : Nat) (c : UInt8) (t : List UInt8) (l : List Nd) (g : Int) (v : Value) (w : World) (h : RO w0 l v w) (hp : p < s.length) (hc : s[p] = c) (ht : s.drop (p + 1) = t) (hd : d + (k + 1) = 131) (hlen : l.length + (s.length - p) ≤ 100000) (hs : s.length ≤ 100000) (hg0 : 0 ≤ g) (hg1 : g + ((s.length - p : Nat) : Int) ≤ 100000) (IH : ReadOk w0 s k) 
    (k0 : c = 38) (l1 : List Nd) (g1 : Int) (r1 : List UInt8) (hn : readR k t l g = some (l1, g1, r1)) (hm : readR k r1 l1 g1 = none) :
    Calls Tryz.prog 22 #[S s, E (p : Nat), v, E g, E (d : Nat)] w (ReadAns w0 s.length v w (readB (readR k) c t l g)) := by
  obtain ⟨ao, cap, rfl⟩ : ∃ ao cap, v = .slice ao l.length cap := own_slice h.own
  obtain ⟨i0, hi, hz0, hz1, hz2⟩ := info_parts infoRd
  have hsz : (ByteArray.mk s.toArray).size = s.length := by simp [ByteArray.size]
  have hx : (ByteArray.mk s.toArray)[p]'(by rw [hsz]; exact hp) = c := hc
  have htl : t.length = s.length - (p + 1) := by rw [← ht, List.length_drop]
  have hlt' : ((p : Nat) : Int) < ((s.length : Nat) : Int) := by omega
  have hge' : ¬ ((s.length : Nat) : Int) ≤ ((p : Nat) : Int) := by omega
  have hd' : ¬ (130 : Int) < ((d : Nat) : Int) := by omega
  have HS0 := Lib.hid (sn_start h)
  have hown0 := h.own
  have HPQ := Lib.hid (show l.length + 1 ≤ 200000 by omega)
  have hq0 : p + 1 ≤ s.length := by omega
  obtain ⟨p1, hp1e⟩ : ∃ p1, p1 = p + 1 := ⟨_, rfl⟩
  obtain ⟨d1, hd1e⟩ : ∃ d1, d1 = d + 1 := ⟨_, rfl⟩
  have hw1 : IntKind.i64.wrap ((p : Int) + 1) = ((p1 : Nat) : Int) := by rw [IntKind.wrap_i64]; omega
  have hw2 : IntKind.i64.wrap ((d : Int) + 1) = ((d1 : Nat) : Int) := by rw [IntKind.wrap_i64]; omega
  rw [← hp1e] at ht
  obtain ⟨q1, hq1, hdr1, hq1s, hpq1, hb1, hl1, hb2, hb3⟩ := read_bound ht (by omega) hn (by omega) hg0 (by omega)
  have hn1 : ¬ ((q1 : Nat) : Int) < 0 := by omega
  have hw3 : IntKind.i64.wrap ((l1.length : Int) - 1) = (l1.length : Int) - 1 := by rw [IntKind.wrap_i64]; omega
  have HO := Lib.hid (show readB (readR k) c t l g = none from by subst k0; rw [readB, if_neg (by decide), if_neg (by decide), if_neg (by decide), if_neg (by decide), if_pos (by decide), hn, Option.bind_some]; dsimp only; rw [hm]; rfl)
  have H1 := Lib.hid (IH.some (p := p1) (d := d1) ht hn hq1 (by omega) (by omega) (by omega) hg0 (by omega))
  have H2 := Lib.hid (IH.none (p := q1) (d := d1) hdr1 hm (by omega) (by omega) (by omega) hb2 (by omega))
  clear hd hlen hs hg0 hg1 IH ht hc h htl hp1e hd1e hn hm hq1 hdr1 hq1s hpq1 hb1 hl1 hb2 hb3
  subst k0
  go_enter Tryz.func22, Tryz.ntmps22
  rw [show Code.region 4 = Fz 4 from rfl]
  go_wp2
  refine at_world (p := fun W => SN w0 w _ N0 l _ W) HS0.out (fun W hW => ?_)
  have HS1 := Lib.hid hW
  clear hW HS0
  rw [show Fz 4 = Code.region 4 from rfl]
  obtain ⟨⟨x0, x1, x2, x3, x4, x5, x6, x7, x8, x9⟩, xz⟩ := HS1.out.cells
  (try dsimp only at x0 x1 x2 x3 x4 x5 x6 x7 x8 x9)
  have HSa := Lib.hid (HS1.out.node (i := 0) (u := E 4) (m := ⟨4, z4, 0, 0, 0, 0, 0⟩) rfl)
  go_wp2_with (first
    | (go_at_call 22; have hq := H1.out; clear H1; refine (hq _ _ HSa.out.ro).mono ?_; clear hq; rintro e w2 ⟨v2, rfl, hr, hk⟩; obtain ⟨ao2, cap2, rfl⟩ := own_slice hr.own; have HS2 := Lib.hid (HSa.out.step hr hk); clear hr hk; obtain ⟨⟨y0, y1, y2, y3, y4, y5, y6, y7, y8, y9⟩, yz⟩ := HS2.out.cells;   (try dsimp only at y0 y1 y2 y3 y4 y5 y6 y7 y8 y9); have HS3 := Lib.hid (HS2.out.node (i := 5) (u := E ((l1.length : Int) - 1)) (m := ⟨4, z4, (l1.length : Int) - 1, 0, 0, 0, 0⟩) rfl))
    | (go_at_call 22; have hq := H2.out; clear H2; refine (hq _ _ HS3.out.ro).mono ?_; clear hq; rintro e wz ⟨vz, gz, rfl, hbz⟩; have HBZ := Lib.hid hbz; clear hbz))
  go_ret3
  rw [HO.out]
  exact ⟨_, _, rfl, HBZ.out⟩
set_option maxRecDepth 100000 in
set_option maxHeartbeats 3200000 in
theorem read_c (w0 : World) (s : List UInt8) (k p d : Nat) (c : UInt8) (t : List UInt8) (l : List Nd) (g : Int) (v : Value) (w : World) (h : RO w0 l v w) (hp : p < s.length) (hc : s[p] = c) (ht : s.drop (p + 1) = t) (hd : d + (k + 1) = 131) (hlen : l.length + (s.length - p) ≤ 100000) (hs : s.length ≤ 100000) (hg0 : 0 ≤ g) (hg1 : g + ((s.length - p : Nat) : Int) ≤ 100000) (IH : ReadOk w0 s k) 
    (k0 : c = 38) (l1 : List Nd) (g1 : Int) (r1 : List UInt8) (hn : readR k t l g = some (l1, g1, r1)) (l2 : List Nd) (g2 : Int) (r2 : List UInt8) (hm : readR k r1 l1 g1 = some (l2, g2, r2)) :
    Calls Tryz.prog 22 #[S s, E (p : Nat), v, E g, E (d : Nat)] w (ReadAns w0 s.length v w (readB (readR k) c t l g)) := by
  obtain ⟨ao, cap, rfl⟩ : ∃ ao cap, v = .slice ao l.length cap := own_slice h.own
  obtain ⟨i0, hi, hz0, hz1, hz2⟩ := info_parts infoRd
  have hsz : (ByteArray.mk s.toArray).size = s.length := by simp [ByteArray.size]
  have hx : (ByteArray.mk s.toArray)[p]'(by rw [hsz]; exact hp) = c := hc
  have htl : t.length = s.length - (p + 1) := by rw [← ht, List.length_drop]
  have hlt' : ((p : Nat) : Int) < ((s.length : Nat) : Int) := by omega
  have hge' : ¬ ((s.length : Nat) : Int) ≤ ((p : Nat) : Int) := by omega
  have hd' : ¬ (130 : Int) < ((d : Nat) : Int) := by omega
  have HS0 := Lib.hid (sn_start h)
  have hown0 := h.own
  have hq0 : p + 1 ≤ s.length := by omega
  obtain ⟨p1, hp1e⟩ : ∃ p1, p1 = p + 1 := ⟨_, rfl⟩
  obtain ⟨d1, hd1e⟩ : ∃ d1, d1 = d + 1 := ⟨_, rfl⟩
  have hw1 : IntKind.i64.wrap ((p : Int) + 1) = ((p1 : Nat) : Int) := by rw [IntKind.wrap_i64]; omega
  have hw2 : IntKind.i64.wrap ((d : Int) + 1) = ((d1 : Nat) : Int) := by rw [IntKind.wrap_i64]; omega
  rw [← hp1e] at ht
  obtain ⟨q1, hq1, hdr1, hq1s, hpq1, hb1, hl1, hb2, hb3⟩ := read_bound ht (by omega) hn (by omega) hg0 (by omega)
  have hn1 : ¬ ((q1 : Nat) : Int) < 0 := by omega
  obtain ⟨q2, hq2, hdr2, hq2s, hpq2, hc1, hl2, hc2, hc3⟩ := read_bound hdr1 (by omega) hm (by omega) hb2 (by omega)
  have hn2 : ¬ ((q2 : Nat) : Int) < 0 := by omega
  have HPQ := Lib.hid (show l2.length + 1 ≤ 200000 by omega)
  have hw3 : IntKind.i64.wrap ((l1.length : Int) - 1) = (l1.length : Int) - 1 := by rw [IntKind.wrap_i64]; omega
  have hw4 : IntKind.i64.wrap ((l2.length : Int) - 1) = (l2.length : Int) - 1 := by rw [IntKind.wrap_i64]; omega
  have HO := Lib.hid (show readB (readR k) c t l g = some (l2 ++ [⟨4, z4, (l1.length : Int) - 1, (l2.length : Int) - 1, 0, 0, 0⟩], g2, r2) from by subst k0; rw [readB, if_neg (by decide), if_neg (by decide), if_neg (by decide), if_neg (by decide), if_pos (by decide), hn, Option.bind_some]; dsimp only; rw [hm]; rfl)
  have H1 := Lib.hid (IH.some (p := p1) (d := d1) ht hn hq1 (by omega) (by omega) (by omega) hg0 (by omega))
  have H2 := Lib.hid (IH.some (p := q1) (d := d1) hdr1 hm hq2 (by omega) (by omega) (by omega) hb2 (by omega))
  have HPOS := Lib.hid hq2
  clear hd hlen hs hg0 hg1 IH ht hc h htl hp1e hd1e hn hm hq1 hdr1 hq1s hpq1 hb1 hl1 hb2 hb3 hq2 hdr2 hq2s hpq2 hc1 hl2 hc2 hc3
  subst k0
  go_enter Tryz.func22, Tryz.ntmps22
  rw [show Code.region 4 = Fz 4 from rfl]
  go_wp2
  refine at_world (p := fun W => SN w0 w _ N0 l _ W) HS0.out (fun W hW => ?_)
  have HS1 := Lib.hid hW
  clear hW HS0
  rw [show Fz 4 = Code.region 4 from rfl]
  obtain ⟨⟨x0, x1, x2, x3, x4, x5, x6, x7, x8, x9⟩, xz⟩ := HS1.out.cells
  (try dsimp only at x0 x1 x2 x3 x4 x5 x6 x7 x8 x9)
  have HSa := Lib.hid (HS1.out.node (i := 0) (u := E 4) (m := ⟨4, z4, 0, 0, 0, 0, 0⟩) rfl)
  go_wp2_with (first
    | (go_at_call 22; have hq := H1.out; clear H1; refine (hq _ _ HSa.out.ro).mono ?_; clear hq; rintro e w2 ⟨v2, rfl, hr, hk⟩; obtain ⟨ao2, cap2, rfl⟩ := own_slice hr.own; have HS2 := Lib.hid (HSa.out.step hr hk); clear hr hk; obtain ⟨⟨y0, y1, y2, y3, y4, y5, y6, y7, y8, y9⟩, yz⟩ := HS2.out.cells;   (try dsimp only at y0 y1 y2 y3 y4 y5 y6 y7 y8 y9); have HS3 := Lib.hid (HS2.out.node (i := 5) (u := E ((l1.length : Int) - 1)) (m := ⟨4, z4, (l1.length : Int) - 1, 0, 0, 0, 0⟩) rfl))
    | (go_at_call 22; have hq := H2.out; clear H2; refine (hq _ _ HS3.out.ro).mono ?_; clear hq; rintro e w3 ⟨v3, rfl, hr, hk⟩; obtain ⟨ao3, cap3, rfl⟩ := own_slice hr.own; have HS4 := Lib.hid (HS3.out.step hr hk); clear hr hk; obtain ⟨⟨u0, u1, u2, u3, u4, u5, u6, u7, u8, u9⟩, uz⟩ := HS4.out.cells;   (try dsimp only at u0 u1 u2 u3 u4 u5 u6 u7 u8 u9); have HS5 := Lib.hid (HS4.out.node (i := 6) (u := E ((l2.length : Int) - 1)) (m := ⟨4, z4, (l1.length : Int) - 1, (l2.length : Int) - 1, 0, 0, 0⟩) rfl); have HOA := Lib.hid (HS5.out.ro.own.alloc (.cells (NC ⟨4, z4, (l1.length : Int) - 1, (l2.length : Int) - 1, 0, 0, 0⟩) 54)); have HSZ := Lib.hid HS5.out.ro.bel.size)
    | (at_builtin; go_loud (refine wpList_append_lies _ rfl _ _ 27 rfl w0.heap.size 54 i0 _ 10 80 Tryz.underlying27 hi hz0 hz1 hz2 rfl (by decide) _ _ _ rfl HOA.out ⟨_, 0, none⟩ 1 1 (NC ⟨4, z4, (l1.length : Int) - 1, (l2.length : Int) - 1, 0, 0, 0⟩).toList rfl rfl (news_atR _ ⟨4, z4, (l1.length : Int) - 1, (l2.length : Int) - 1, 0, 0, 0⟩ _ (by simp)) (one_row _) (by decide) (by have := HPQ.out; unfold maxLen; omega) (by have := HPQ.out; omega) (by have := HSZ.out; simp at this ⊢; omega) _ rfl ?_)))
  rintro gg gcap w4 hown hgrow hat hlt4
  have HP := Lib.hid (HS5.out.push hown hgrow (by rcases hat with q | q; exact Or.inl q; exact Or.inr (by simpa using q)))
  clear hown hgrow hat hlt4 HOA HSZ
  go_wp2
  go_ret3
  rw [HO.out]
  refine ⟨_, ?_, HP.out.1, HP.out.2⟩
  rw [HPOS.out]; rfl
end Go.Proofs.YtdjedjfanfbbcaaGreatDoor.Rx
namespace Go.Proofs.YtdjedjfanfbbcaaGreatDoor.Rx
open Go.RowKit Go.Shelf
open Go.Proofs.YtdjedjfanfbbcaaGreatDoor.St (Wf word zeroW Tab SV SV_eq)
set_option linter.unusedVariables false
set_option linter.unusedSimpArgs false
set_option maxRecDepth 100000 in
set_option maxHeartbeats 3200000 in
theorem read_a0 (w0 : World) (s : List UInt8) (k p d : Nat) (c : UInt8) (t : List UInt8) (l : List Nd) (g : Int) (v : Value) (w : World) (h : RO w0 l v w) (hp : p < s.length) (hc : s[p] = c) (ht : s.drop (p + 1) = t) (hd : d + (k + 1) = 131) (hlen : l.length + (s.length - p) ≤ 100000) (hs : s.length ≤ 100000) (hg0 : 0 ≤ g) (hg1 : g + ((s.length - p : Nat) : Int) ≤ 100000) (IH : ReadOk w0 s k) 
    (k0 : c = 124) (hn : readR k t l g = none) :
    Calls Tryz.prog 22 #[S s, E (p : Nat), v, E g, E (d : Nat)] w (ReadAns w0 s.length v w (readB (readR k) c t l g)) := by
  obtain ⟨ao, cap, rfl⟩ : ∃ ao cap, v = .slice ao l.length cap := own_slice h.own
  obtain ⟨i0, hi, hz0, hz1, hz2⟩ := info_parts infoRd
  have hsz : (ByteArray.mk s.toArray).size = s.length := by simp [ByteArray.size]
  have hx : (ByteArray.mk s.toArray)[p]'(by rw [hsz]; exact hp) = c := hc
  have htl : t.length = s.length - (p + 1) := by rw [← ht, List.length_drop]
  have hlt' : ((p : Nat) : Int) < ((s.length : Nat) : Int) := by omega
  have hge' : ¬ ((s.length : Nat) : Int) ≤ ((p : Nat) : Int) := by omega
  have hd' : ¬ (130 : Int) < ((d : Nat) : Int) := by omega
  have HS0 := Lib.hid (sn_start h)
  have hown0 := h.own
  have HPQ := Lib.hid (show l.length + 1 ≤ 200000 by omega)
  have hq0 : p + 1 ≤ s.length := by omega
  obtain ⟨p1, hp1e⟩ : ∃ p1, p1 = p + 1 := ⟨_, rfl⟩
  obtain ⟨d1, hd1e⟩ : ∃ d1, d1 = d + 1 := ⟨_, rfl⟩
  have hw1 : IntKind.i64.wrap ((p : Int) + 1) = ((p1 : Nat) : Int) := by rw [IntKind.wrap_i64]; omega
  have hw2 : IntKind.i64.wrap ((d : Int) + 1) = ((d1 : Nat) : Int) := by rw [IntKind.wrap_i64]; omega
  rw [← hp1e] at ht
  have HO := Lib.hid (show readB (readR k) c t l g = none from by subst k0; rw [readB, if_neg (by decide), if_neg (by decide), if_neg (by decide), if_neg (by decide), if_pos (by decide), hn]; rfl)
  have H1 := Lib.hid (IH.none (p := p1) (d := d1) ht hn (by omega) (by omega) (by omega) hg0 (by omega))
  clear hd hlen hs hg0 hg1 IH ht hc h htl hp1e hd1e hn
  subst k0
  go_enter Tryz.func22, Tryz.ntmps22
  rw [show Code.region 4 = Fz 4 from rfl]
  go_wp2
  refine at_world (p := fun W => SN w0 w _ N0 l _ W) HS0.out (fun W hW => ?_)
  have HS1 := Lib.hid hW
  clear hW HS0
  rw [show Fz 4 = Code.region 4 from rfl]
  obtain ⟨⟨x0, x1, x2, x3, x4, x5, x6, x7, x8, x9⟩, xz⟩ := HS1.out.cells
  (try dsimp only at x0 x1 x2 x3 x4 x5 x6 x7 x8 x9)
  have HSa := Lib.hid (HS1.out.node (i := 0) (u := E 4) (m := ⟨4, z4, 0, 0, 0, 0, 0⟩) rfl)
  have HSb := Lib.hid (HSa.out.node (i := 0) (u := E 5) (m := ⟨5, z4, 0, 0, 0, 0, 0⟩) rfl)
  go_wp2_with (go_at_call 22; have hq := H1.out; clear H1; refine (hq _ _ HSb.out.ro).mono ?_; clear hq; rintro e wz ⟨vz, gz, rfl, hbz⟩; have HBZ := Lib.hid hbz; clear hbz)
  go_ret3
  rw [HO.out]
  exact ⟨_, _, rfl, HBZ.out⟩
set_option maxRecDepth 100000 in
set_option maxHeartbeats 3200000 in
theorem read_a1 (w0 : World) (s : List UInt8) (k p d : Nat) (c : UInt8) (t : List UInt8) (l : List Nd) (g : Int) (v : Value) (w : World) (h : RO w0 l v w) (hp : p < s.length) (hc : s[p] = c) (ht : s.drop (p + 1) = t) (hd : d + (k + 1) = 131) (hlen : l.length + (s.length - p) ≤ 100000) (hs : s.length ≤ 100000) (hg0 : 0 ≤ g) (hg1 : g + ((s.length - p : Nat) : Int) ≤ 100000) (IH : ReadOk w0 s k) 
    (k0 : c = 124) (l1 : List Nd) (g1 : Int) (r1 : List UInt8) (hn : readR k t l g = some (l1, g1, r1)) (hm : readR k r1 l1 g1 = none) :
    Calls Tryz.prog 22 #[S s, E (p : Nat), v, E g, E (d : Nat)] w (ReadAns w0 s.length v w (readB (readR k) c t l g)) := by
  obtain ⟨ao, cap, rfl⟩ : ∃ ao cap, v = .slice ao l.length cap := own_slice h.own
  obtain ⟨i0, hi, hz0, hz1, hz2⟩ := info_parts infoRd
  have hsz : (ByteArray.mk s.toArray).size = s.length := by simp [ByteArray.size]
  have hx : (ByteArray.mk s.toArray)[p]'(by rw [hsz]; exact hp) = c := hc
  have htl : t.length = s.length - (p + 1) := by rw [← ht, List.length_drop]
  have hlt' : ((p : Nat) : Int) < ((s.length : Nat) : Int) := by omega
  have hge' : ¬ ((s.length : Nat) : Int) ≤ ((p : Nat) : Int) := by omega
  have hd' : ¬ (130 : Int) < ((d : Nat) : Int) := by omega
  have HS0 := Lib.hid (sn_start h)
  have hown0 := h.own
  have HPQ := Lib.hid (show l.length + 1 ≤ 200000 by omega)
  have hq0 : p + 1 ≤ s.length := by omega
  obtain ⟨p1, hp1e⟩ : ∃ p1, p1 = p + 1 := ⟨_, rfl⟩
  obtain ⟨d1, hd1e⟩ : ∃ d1, d1 = d + 1 := ⟨_, rfl⟩
  have hw1 : IntKind.i64.wrap ((p : Int) + 1) = ((p1 : Nat) : Int) := by rw [IntKind.wrap_i64]; omega
  have hw2 : IntKind.i64.wrap ((d : Int) + 1) = ((d1 : Nat) : Int) := by rw [IntKind.wrap_i64]; omega
  rw [← hp1e] at ht
  obtain ⟨q1, hq1, hdr1, hq1s, hpq1, hb1, hl1, hb2, hb3⟩ := read_bound ht (by omega) hn (by omega) hg0 (by omega)
  have hn1 : ¬ ((q1 : Nat) : Int) < 0 := by omega
  have hw3 : IntKind.i64.wrap ((l1.length : Int) - 1) = (l1.length : Int) - 1 := by rw [IntKind.wrap_i64]; omega
  have HO := Lib.hid (show readB (readR k) c t l g = none from by subst k0; rw [readB, if_neg (by decide), if_neg (by decide), if_neg (by decide), if_neg (by decide), if_pos (by decide), hn, Option.bind_some]; dsimp only; rw [hm]; rfl)
  have H1 := Lib.hid (IH.some (p := p1) (d := d1) ht hn hq1 (by omega) (by omega) (by omega) hg0 (by omega))
  have H2 := Lib.hid (IH.none (p := q1) (d := d1) hdr1 hm (by omega) (by omega) (by omega) hb2 (by omega))
  clear hd hlen hs hg0 hg1 IH ht hc h htl hp1e hd1e hn hm hq1 hdr1 hq1s hpq1 hb1 hl1 hb2 hb3
  subst k0
  go_enter Tryz.func22, Tryz.ntmps22
  rw [show Code.region 4 = Fz 4 from rfl]
  go_wp2
  refine at_world (p := fun W => SN w0 w _ N0 l _ W) HS0.out (fun W hW => ?_)
  have HS1 := Lib.hid hW
  clear hW HS0
  rw [show Fz 4 = Code.region 4 from rfl]
  obtain ⟨⟨x0, x1, x2, x3, x4, x5, x6, x7, x8, x9⟩, xz⟩ := HS1.out.cells
  (try dsimp only at x0 x1 x2 x3 x4 x5 x6 x7 x8 x9)
  have HSa := Lib.hid (HS1.out.node (i := 0) (u := E 4) (m := ⟨4, z4, 0, 0, 0, 0, 0⟩) rfl)
  have HSb := Lib.hid (HSa.out.node (i := 0) (u := E 5) (m := ⟨5, z4, 0, 0, 0, 0, 0⟩) rfl)
  go_wp2_with (first
    | (go_at_call 22; have hq := H1.out; clear H1; refine (hq _ _ HSb.out.ro).mono ?_; clear hq; rintro e w2 ⟨v2, rfl, hr, hk⟩; obtain ⟨ao2, cap2, rfl⟩ := own_slice hr.own; have HS2 := Lib.hid (HSb.out.step hr hk); clear hr hk; obtain ⟨⟨y0, y1, y2, y3, y4, y5, y6, y7, y8, y9⟩, yz⟩ := HS2.out.cells;   (try dsimp only at y0 y1 y2 y3 y4 y5 y6 y7 y8 y9); have HS3 := Lib.hid (HS2.out.node (i := 5) (u := E ((l1.length : Int) - 1)) (m := ⟨5, z4, (l1.length : Int) - 1, 0, 0, 0, 0⟩) rfl))
    | (go_at_call 22; have hq := H2.out; clear H2; refine (hq _ _ HS3.out.ro).mono ?_; clear hq; rintro e wz ⟨vz, gz, rfl, hbz⟩; have HBZ := Lib.hid hbz; clear hbz))
  go_ret3
  rw [HO.out]
  exact ⟨_, _, rfl, HBZ.out⟩
set_option maxRecDepth 100000 in
set_option maxHeartbeats 3200000 in
theorem read_a (w0 : World) (s : List UInt8) (k p d : Nat) (c : UInt8) (t : List UInt8) (l : List Nd) (g : Int) (v : Value) (w : World) (h : RO w0 l v w) (hp : p < s.length) (hc : s[p] = c) (ht : s.drop (p + 1) = t) (hd : d + (k + 1) = 131) (hlen : l.length + (s.length - p) ≤ 100000) (hs : s.length ≤ 100000) (hg0 : 0 ≤ g) (hg1 : g + ((s.length - p : Nat) : Int) ≤ 100000) (IH : ReadOk w0 s k) 
    (k0 : c = 124) (l1 : List Nd) (g1 : Int) (r1 : List UInt8) (hn : readR k t l g = some (l1, g1, r1)) (l2 : List Nd) (g2 : Int) (r2 : List UInt8) (hm : readR k r1 l1 g1 = some (l2, g2, r2)) :
    Calls Tryz.prog 22 #[S s, E (p : Nat), v, E g, E (d : Nat)] w (ReadAns w0 s.length v w (readB (readR k) c t l g)) := by
  obtain ⟨ao, cap, rfl⟩ : ∃ ao cap, v = .slice ao l.length cap := own_slice h.own
  obtain ⟨i0, hi, hz0, hz1, hz2⟩ := info_parts infoRd
  have hsz : (ByteArray.mk s.toArray).size = s.length := by simp [ByteArray.size]
  have hx : (ByteArray.mk s.toArray)[p]'(by rw [hsz]; exact hp) = c := hc
  have htl : t.length = s.length - (p + 1) := by rw [← ht, List.length_drop]
  have hlt' : ((p : Nat) : Int) < ((s.length : Nat) : Int) := by omega
  have hge' : ¬ ((s.length : Nat) : Int) ≤ ((p : Nat) : Int) := by omega
  have hd' : ¬ (130 : Int) < ((d : Nat) : Int) := by omega
  have HS0 := Lib.hid (sn_start h)
  have hown0 := h.own
  have hq0 : p + 1 ≤ s.length := by omega
  obtain ⟨p1, hp1e⟩ : ∃ p1, p1 = p + 1 := ⟨_, rfl⟩
  obtain ⟨d1, hd1e⟩ : ∃ d1, d1 = d + 1 := ⟨_, rfl⟩
  have hw1 : IntKind.i64.wrap ((p : Int) + 1) = ((p1 : Nat) : Int) := by rw [IntKind.wrap_i64]; omega
  have hw2 : IntKind.i64.wrap ((d : Int) + 1) = ((d1 : Nat) : Int) := by rw [IntKind.wrap_i64]; omega
  rw [← hp1e] at ht
  obtain ⟨q1, hq1, hdr1, hq1s, hpq1, hb1, hl1, hb2, hb3⟩ := read_bound ht (by omega) hn (by omega) hg0 (by omega)
  have hn1 : ¬ ((q1 : Nat) : Int) < 0 := by omega
  obtain ⟨q2, hq2, hdr2, hq2s, hpq2, hc1, hl2, hc2, hc3⟩ := read_bound hdr1 (by omega) hm (by omega) hb2 (by omega)
  have hn2 : ¬ ((q2 : Nat) : Int) < 0 := by omega
  have HPQ := Lib.hid (show l2.length + 1 ≤ 200000 by omega)
  have hw3 : IntKind.i64.wrap ((l1.length : Int) - 1) = (l1.length : Int) - 1 := by rw [IntKind.wrap_i64]; omega
  have hw4 : IntKind.i64.wrap ((l2.length : Int) - 1) = (l2.length : Int) - 1 := by rw [IntKind.wrap_i64]; omega
  have HO := Lib.hid (show readB (readR k) c t l g = some (l2 ++ [⟨5, z4, (l1.length : Int) - 1, (l2.length : Int) - 1, 0, 0, 0⟩], g2, r2) from by subst k0; rw [readB, if_neg (by decide), if_neg (by decide), if_neg (by decide), if_neg (by decide), if_pos (by decide), hn, Option.bind_some]; dsimp only; rw [hm]; rfl)
  have H1 := Lib.hid (IH.some (p := p1) (d := d1) ht hn hq1 (by omega) (by omega) (by omega) hg0 (by omega))
  have H2 := Lib.hid (IH.some (p := q1) (d := d1) hdr1 hm hq2 (by omega) (by omega) (by omega) hb2 (by omega))
  have HPOS := Lib.hid hq2
  clear hd hlen hs hg0 hg1 IH ht hc h htl hp1e hd1e hn hm hq1 hdr1 hq1s hpq1 hb1 hl1 hb2 hb3 hq2 hdr2 hq2s hpq2 hc1 hl2 hc2 hc3
  subst k0
  go_enter Tryz.func22, Tryz.ntmps22
  rw [show Code.region 4 = Fz 4 from rfl]
  go_wp2
  refine at_world (p := fun W => SN w0 w _ N0 l _ W) HS0.out (fun W hW => ?_)
  have HS1 := Lib.hid hW
  clear hW HS0
  rw [show Fz 4 = Code.region 4 from rfl]
  obtain ⟨⟨x0, x1, x2, x3, x4, x5, x6, x7, x8, x9⟩, xz⟩ := HS1.out.cells
  (try dsimp only at x0 x1 x2 x3 x4 x5 x6 x7 x8 x9)
  have HSa := Lib.hid (HS1.out.node (i := 0) (u := E 4) (m := ⟨4, z4, 0, 0, 0, 0, 0⟩) rfl)
  have HSb := Lib.hid (HSa.out.node (i := 0) (u := E 5) (m := ⟨5, z4, 0, 0, 0, 0, 0⟩) rfl)
  go_wp2_with (first
    | (go_at_call 22; have hq := H1.out; clear H1; refine (hq _ _ HSb.out.ro).mono ?_; clear hq; rintro e w2 ⟨v2, rfl, hr, hk⟩; obtain ⟨ao2, cap2, rfl⟩ := own_slice hr.own; have HS2 := Lib.hid (HSb.out.step hr hk); clear hr hk; obtain ⟨⟨y0, y1, y2, y3, y4, y5, y6, y7, y8, y9⟩, yz⟩ := HS2.out.cells;   (try dsimp only at y0 y1 y2 y3 y4 y5 y6 y7 y8 y9); have HS3 := Lib.hid (HS2.out.node (i := 5) (u := E ((l1.length : Int) - 1)) (m := ⟨5, z4, (l1.length : Int) - 1, 0, 0, 0, 0⟩) rfl))
    | (go_at_call 22; have hq := H2.out; clear H2; refine (hq _ _ HS3.out.ro).mono ?_; clear hq; rintro e w3 ⟨v3, rfl, hr, hk⟩; obtain ⟨ao3, cap3, rfl⟩ := own_slice hr.own; have HS4 := Lib.hid (HS3.out.step hr hk); clear hr hk; obtain ⟨⟨u0, u1, u2, u3, u4, u5, u6, u7, u8, u9⟩, uz⟩ := HS4.out.cells;   (try dsimp only at u0 u1 u2 u3 u4 u5 u6 u7 u8 u9); have HS5 := Lib.hid (HS4.out.node (i := 6) (u := E ((l2.length : Int) - 1)) (m := ⟨5, z4, (l1.length : Int) - 1, (l2.length : Int) - 1, 0, 0, 0⟩) rfl); have HOA := Lib.hid (HS5.out.ro.own.alloc (.cells (NC ⟨5, z4, (l1.length : Int) - 1, (l2.length : Int) - 1, 0, 0, 0⟩) 54)); have HSZ := Lib.hid HS5.out.ro.bel.size)
    | (at_builtin; go_loud (refine wpList_append_lies _ rfl _ _ 27 rfl w0.heap.size 54 i0 _ 10 80 Tryz.underlying27 hi hz0 hz1 hz2 rfl (by decide) _ _ _ rfl HOA.out ⟨_, 0, none⟩ 1 1 (NC ⟨5, z4, (l1.length : Int) - 1, (l2.length : Int) - 1, 0, 0, 0⟩).toList rfl rfl (news_atR _ ⟨5, z4, (l1.length : Int) - 1, (l2.length : Int) - 1, 0, 0, 0⟩ _ (by simp)) (one_row _) (by decide) (by have := HPQ.out; unfold maxLen; omega) (by have := HPQ.out; omega) (by have := HSZ.out; simp at this ⊢; omega) _ rfl ?_)))
  rintro gg gcap w4 hown hgrow hat hlt4
  have HP := Lib.hid (HS5.out.push hown hgrow (by rcases hat with q | q; exact Or.inl q; exact Or.inr (by simpa using q)))
  clear hown hgrow hat hlt4 HOA HSZ
  go_wp2
  go_ret3
  rw [HO.out]
  refine ⟨_, ?_, HP.out.1, HP.out.2⟩
  rw [HPOS.out]; rfl
end Go.Proofs.YtdjedjfanfbbcaaGreatDoor.Rx
namespace Go.Proofs.YtdjedjfanfbbcaaGreatDoor.Rx
open Go.RowKit Go.Shelf
open Go.Proofs.YtdjedjfanfbbcaaGreatDoor.St (Wf word zeroW Tab SV SV_eq)
set_option linter.unusedVariables false
set_option linter.unusedSimpArgs false
theorem number_none {s t : List UInt8} {p : Nat} {e : UInt8} {ei : Int} (he : (e.toNat : Int) = ei) (ht : s.drop p = t) (hr : numR e 3 0 [] t = none) (hp : p ≤ s.length) (hs : s.length ≤ 100000) (W : World) :
    Calls Tryz.prog 42 #[S s, E (p : Nat), .int .u8 ei] W fun en w' => en = .returned (.tuple #[E 0, E (-1)]) ∧ Below W.heap.size W w' := by
  have := number_at s p e W hp hs
  rw [ht, hr, he] at this
  exact this
theorem number_some {s t r : List UInt8} {p q : Nat} {e : UInt8} {m ei : Int} (he : (e.toNat : Int) = ei) (ht : s.drop p = t) (hr : numR e 3 0 [] t = some (m, r)) (hq : s.length - r.length - 1 = q) (hp : p ≤ s.length) (hs : s.length ≤ 100000) (W : World) :
    Calls Tryz.prog 42 #[S s, E (p : Nat), .int .u8 ei] W fun en w' => en = .returned (.tuple #[E m, E (q : Nat)]) ∧ Below W.heap.size W w' := by
  have := number_at s p e W hp hs
  rw [ht, hr, he] at this
  unfold numA at this
  dsimp only at this
  rw [hq] at this
  exact this
theorem num_bound {s t r : List UInt8} {p : Nat} {e : UInt8} {m : Int} (ht : s.drop p = t) (hp : p ≤ s.length) (hr : numR e 3 0 [] t = some (m, r)) : ∃ q, s.length - r.length - 1 = q ∧ s.drop (q + 1) = r ∧ q + 1 ≤ s.length ∧ p ≤ q := by
  have hl := num_len e t 3 0 [] m r hr
  have hs := num_suf e t 3 0 [] m r hr
  have hs2 : r <:+ s := hs.trans (ht ▸ List.drop_suffix p s)
  have hd := suf_drop hs2
  have hle := hs2.length_le
  have htl : t.length = s.length - p := by rw [← ht, List.length_drop]
  refine ⟨_, rfl, ?_, by omega, by omega⟩
  rw [show s.length - r.length - 1 + 1 = s.length - r.length by omega]
  exact hd.symm
set_option maxRecDepth 100000 in
set_option maxHeartbeats 3200000 in
theorem read_m0 (w0 : World) (s : List UInt8) (k p d : Nat) (c : UInt8) (t : List UInt8) (l : List Nd) (g : Int) (v : Value) (w : World) (h : RO w0 l v w) (hp : p < s.length) (hc : s[p] = c) (ht : s.drop (p + 1) = t) (hd : d + (k + 1) = 131) (hlen : l.length + (s.length - p) ≤ 100000) (hs : s.length ≤ 100000) (hg0 : 0 ≤ g) (hg1 : g + ((s.length - p : Nat) : Int) ≤ 100000) (IH : ReadOk w0 s k) 
    (k0 : c = 42) (hn : numR 44 3 0 [] t = none) :
    Calls Tryz.prog 22 #[S s, E (p : Nat), v, E g, E (d : Nat)] w (ReadAns w0 s.length v w (readB (readR k) c t l g)) := by
  obtain ⟨ao, cap, rfl⟩ : ∃ ao cap, v = .slice ao l.length cap := own_slice h.own
  obtain ⟨i0, hi, hz0, hz1, hz2⟩ := info_parts infoRd
  have hsz : (ByteArray.mk s.toArray).size = s.length := by simp [ByteArray.size]
  have hx : (ByteArray.mk s.toArray)[p]'(by rw [hsz]; exact hp) = c := hc
  have htl : t.length = s.length - (p + 1) := by rw [← ht, List.length_drop]
  have hlt' : ((p : Nat) : Int) < ((s.length : Nat) : Int) := by omega
  have hge' : ¬ ((s.length : Nat) : Int) ≤ ((p : Nat) : Int) := by omega
  have hd' : ¬ (130 : Int) < ((d : Nat) : Int) := by omega
  have HS0 := Lib.hid (sn_start h)
  have hown0 := h.own
  have HPQ := Lib.hid (show l.length + 1 ≤ 200000 by omega)
  have hq0 : p + 1 ≤ s.length := by omega
  obtain ⟨p1, hp1e⟩ : ∃ p1, p1 = p + 1 := ⟨_, rfl⟩
  obtain ⟨d1, hd1e⟩ : ∃ d1, d1 = d + 1 := ⟨_, rfl⟩
  have hw1 : IntKind.i64.wrap ((p : Int) + 1) = ((p1 : Nat) : Int) := by rw [IntKind.wrap_i64]; omega
  have hw2 : IntKind.i64.wrap ((d : Int) + 1) = ((d1 : Nat) : Int) := by rw [IntKind.wrap_i64]; omega
  rw [← hp1e] at ht
  have HO := Lib.hid (show readB (readR k) c t l g = none from by subst k0; rw [readB, if_neg (by decide), if_neg (by decide), if_neg (by decide), if_neg (by decide), if_neg (by decide), if_pos rfl, hn]; rfl)
  have N1 := Lib.hid (fun W => number_none (p := p1) (ei := 44) rfl ht hn (by omega) hs W)
  clear hd hlen hs hg0 hg1 IH ht hc h htl hp1e hd1e hn
  subst k0
  go_enter Tryz.func22, Tryz.ntmps22
  rw [show Code.region 4 = Fz 4 from rfl]
  go_wp2
  refine at_world (p := fun W => SN w0 w _ N0 l _ W) HS0.out (fun W hW => ?_)
  have HS1 := Lib.hid hW
  clear hW HS0
  rw [show Fz 4 = Code.region 4 from rfl]
  obtain ⟨⟨x0, x1, x2, x3, x4, x5, x6, x7, x8, x9⟩, xz⟩ := HS1.out.cells
  (try dsimp only at x0 x1 x2 x3 x4 x5 x6 x7 x8 x9)
  have HSa := Lib.hid (HS1.out.node (i := 0) (u := E 6) (m := ⟨6, z4, 0, 0, 0, 0, 0⟩) rfl)
  go_wp2_with (go_at_call 42; have hq := N1.out; clear N1; refine (hq _).mono ?_; clear hq; rintro e w2 ⟨rfl, hb⟩; have HS2 := Lib.hid (HSa.out.below hb); clear hb)
  go_ret3
  rw [HO.out]
  exact ⟨_, _, rfl, HS2.out.ro.bel⟩
set_option maxRecDepth 100000 in
set_option maxHeartbeats 3200000 in
theorem read_m1 (w0 : World) (s : List UInt8) (k p d : Nat) (c : UInt8) (t : List UInt8) (l : List Nd) (g : Int) (v : Value) (w : World) (h : RO w0 l v w) (hp : p < s.length) (hc : s[p] = c) (ht : s.drop (p + 1) = t) (hd : d + (k + 1) = 131) (hlen : l.length + (s.length - p) ≤ 100000) (hs : s.length ≤ 100000) (hg0 : 0 ≤ g) (hg1 : g + ((s.length - p : Nat) : Int) ≤ 100000) (IH : ReadOk w0 s k) 
    (k0 : c = 42) (m1 : Int) (r1 : List UInt8) (hn : numR 44 3 0 [] t = some (m1, r1)) (hm : numR 59 3 0 [] r1 = none) :
    Calls Tryz.prog 22 #[S s, E (p : Nat), v, E g, E (d : Nat)] w (ReadAns w0 s.length v w (readB (readR k) c t l g)) := by
  obtain ⟨ao, cap, rfl⟩ : ∃ ao cap, v = .slice ao l.length cap := own_slice h.own
  obtain ⟨i0, hi, hz0, hz1, hz2⟩ := info_parts infoRd
  have hsz : (ByteArray.mk s.toArray).size = s.length := by simp [ByteArray.size]
  have hx : (ByteArray.mk s.toArray)[p]'(by rw [hsz]; exact hp) = c := hc
  have htl : t.length = s.length - (p + 1) := by rw [← ht, List.length_drop]
  have hlt' : ((p : Nat) : Int) < ((s.length : Nat) : Int) := by omega
  have hge' : ¬ ((s.length : Nat) : Int) ≤ ((p : Nat) : Int) := by omega
  have hd' : ¬ (130 : Int) < ((d : Nat) : Int) := by omega
  have HS0 := Lib.hid (sn_start h)
  have hown0 := h.own
  have HPQ := Lib.hid (show l.length + 1 ≤ 200000 by omega)
  have hq0 : p + 1 ≤ s.length := by omega
  obtain ⟨p1, hp1e⟩ : ∃ p1, p1 = p + 1 := ⟨_, rfl⟩
  obtain ⟨d1, hd1e⟩ : ∃ d1, d1 = d + 1 := ⟨_, rfl⟩
  have hw1 : IntKind.i64.wrap ((p : Int) + 1) = ((p1 : Nat) : Int) := by rw [IntKind.wrap_i64]; omega
  have hw2 : IntKind.i64.wrap ((d : Int) + 1) = ((d1 : Nat) : Int) := by rw [IntKind.wrap_i64]; omega
  rw [← hp1e] at ht
  obtain ⟨q1, hq1, hdr1, hq1s, hpq1⟩ := num_bound ht (by omega) hn
  have hn1 : ¬ ((q1 : Nat) : Int) < 0 := by omega
  obtain ⟨p2, hp2e⟩ : ∃ p2, p2 = q1 + 1 := ⟨_, rfl⟩
  have hw3 : IntKind.i64.wrap ((q1 : Int) + 1) = ((p2 : Nat) : Int) := by rw [IntKind.wrap_i64]; omega
  rw [← hp2e] at hdr1
  have HO := Lib.hid (show readB (readR k) c t l g = none from by subst k0; rw [readB, if_neg (by decide), if_neg (by decide), if_neg (by decide), if_neg (by decide), if_neg (by decide), if_pos rfl, hn, Option.bind_some]; dsimp only; rw [hm]; rfl)
  have N1 := Lib.hid (fun W => number_some (p := p1) (ei := 44) rfl ht hn hq1 (by omega) hs W)
  have N2 := Lib.hid (fun W => number_none (p := p2) (ei := 59) rfl hdr1 hm (by omega) hs W)
  clear hd hlen hs hg0 hg1 IH ht hc h htl hp1e hd1e hn hm hq1 hdr1 hq1s hpq1 hp2e
  subst k0
  go_enter Tryz.func22, Tryz.ntmps22
  rw [show Code.region 4 = Fz 4 from rfl]
  go_wp2
  refine at_world (p := fun W => SN w0 w _ N0 l _ W) HS0.out (fun W hW => ?_)
  have HS1 := Lib.hid hW
  clear hW HS0
  rw [show Fz 4 = Code.region 4 from rfl]
  obtain ⟨⟨x0, x1, x2, x3, x4, x5, x6, x7, x8, x9⟩, xz⟩ := HS1.out.cells
  (try dsimp only at x0 x1 x2 x3 x4 x5 x6 x7 x8 x9)
  have HSa := Lib.hid (HS1.out.node (i := 0) (u := E 6) (m := ⟨6, z4, 0, 0, 0, 0, 0⟩) rfl)
  go_wp2_with (first
    | (go_at_call 42; have hq := N1.out; clear N1; refine (hq _).mono ?_; clear hq; rintro e w2 ⟨rfl, hb⟩; have HS2 := Lib.hid (HSa.out.below hb); clear hb)
    | (go_at_call 42; have hq := N2.out; clear N2; refine (hq _).mono ?_; clear hq; rintro e w3 ⟨rfl, hb⟩; have HS3 := Lib.hid (HS2.out.below hb); clear hb))
  go_ret3
  rw [HO.out]
  exact ⟨_, _, rfl, HS3.out.ro.bel⟩
set_option maxRecDepth 100000 in
set_option maxHeartbeats 3200000 in
theorem read_m2 (w0 : World) (s : List UInt8) (k p d : Nat) (c : UInt8) (t : List UInt8) (l : List Nd) (g : Int) (v : Value) (w : World) (h : RO w0 l v w) (hp : p < s.length) (hc : s[p] = c) (ht : s.drop (p + 1) = t) (hd : d + (k + 1) = 131) (hlen : l.length + (s.length - p) ≤ 100000) (hs : s.length ≤ 100000) (hg0 : 0 ≤ g) (hg1 : g + ((s.length - p : Nat) : Int) ≤ 100000) (IH : ReadOk w0 s k) 
    (k0 : c = 42) (m1 : Int) (r1 : List UInt8) (hn : numR 44 3 0 [] t = some (m1, r1)) (m2 : Int) (r2 : List UInt8) (hm : numR 59 3 0 [] r1 = some (m2, r2)) (hx3 : readR k r2 l g = none) :
    Calls Tryz.prog 22 #[S s, E (p : Nat), v, E g, E (d : Nat)] w (ReadAns w0 s.length v w (readB (readR k) c t l g)) := by
  obtain ⟨ao, cap, rfl⟩ : ∃ ao cap, v = .slice ao l.length cap := own_slice h.own
  obtain ⟨i0, hi, hz0, hz1, hz2⟩ := info_parts infoRd
  have hsz : (ByteArray.mk s.toArray).size = s.length := by simp [ByteArray.size]
  have hx : (ByteArray.mk s.toArray)[p]'(by rw [hsz]; exact hp) = c := hc
  have htl : t.length = s.length - (p + 1) := by rw [← ht, List.length_drop]
  have hlt' : ((p : Nat) : Int) < ((s.length : Nat) : Int) := by omega
  have hge' : ¬ ((s.length : Nat) : Int) ≤ ((p : Nat) : Int) := by omega
  have hd' : ¬ (130 : Int) < ((d : Nat) : Int) := by omega
  have HS0 := Lib.hid (sn_start h)
  have hown0 := h.own
  have HPQ := Lib.hid (show l.length + 1 ≤ 200000 by omega)
  have hq0 : p + 1 ≤ s.length := by omega
  obtain ⟨p1, hp1e⟩ : ∃ p1, p1 = p + 1 := ⟨_, rfl⟩
  obtain ⟨d1, hd1e⟩ : ∃ d1, d1 = d + 1 := ⟨_, rfl⟩
  have hw1 : IntKind.i64.wrap ((p : Int) + 1) = ((p1 : Nat) : Int) := by rw [IntKind.wrap_i64]; omega
  have hw2 : IntKind.i64.wrap ((d : Int) + 1) = ((d1 : Nat) : Int) := by rw [IntKind.wrap_i64]; omega
  rw [← hp1e] at ht
  obtain ⟨q1, hq1, hdr1, hq1s, hpq1⟩ := num_bound ht (by omega) hn
  have hn1 : ¬ ((q1 : Nat) : Int) < 0 := by omega
  obtain ⟨p2, hp2e⟩ : ∃ p2, p2 = q1 + 1 := ⟨_, rfl⟩
  have hw3 : IntKind.i64.wrap ((q1 : Int) + 1) = ((p2 : Nat) : Int) := by rw [IntKind.wrap_i64]; omega
  rw [← hp2e] at hdr1
  obtain ⟨q2, hq2, hdr2, hq2s, hpq2⟩ := num_bound hdr1 (by omega) hm
  have hn2 : ¬ ((q2 : Nat) : Int) < 0 := by omega
  obtain ⟨p3, hp3e⟩ : ∃ p3, p3 = q2 + 1 := ⟨_, rfl⟩
  have hw4 : IntKind.i64.wrap ((q2 : Int) + 1) = ((p3 : Nat) : Int) := by rw [IntKind.wrap_i64]; omega
  rw [← hp3e] at hdr2
  have HO := Lib.hid (show readB (readR k) c t l g = none from by subst k0; rw [readB, if_neg (by decide), if_neg (by decide), if_neg (by decide), if_neg (by decide), if_neg (by decide), if_pos rfl, hn, Option.bind_some]; dsimp only; rw [hm, Option.bind_some]; dsimp only; rw [hx3]; rfl)
  have N1 := Lib.hid (fun W => number_some (p := p1) (ei := 44) rfl ht hn hq1 (by omega) hs W)
  have N2 := Lib.hid (fun W => number_some (p := p2) (ei := 59) rfl hdr1 hm hq2 (by omega) hs W)
  have H1 := Lib.hid (IH.none (p := p3) (d := d1) hdr2 hx3 (by omega) (by omega) (by omega) hg0 (by omega))
  clear hd hlen hs hg0 hg1 IH ht hc h htl hp1e hd1e hn hm hq1 hdr1 hq1s hpq1 hp2e hx3 hq2 hdr2 hq2s hpq2 hp3e
  subst k0
  go_enter Tryz.func22, Tryz.ntmps22
  rw [show Code.region 4 = Fz 4 from rfl]
  go_wp2
  refine at_world (p := fun W => SN w0 w _ N0 l _ W) HS0.out (fun W hW => ?_)
  have HS1 := Lib.hid hW
  clear hW HS0
  rw [show Fz 4 = Code.region 4 from rfl]
  obtain ⟨⟨x0, x1, x2, x3, x4, x5, x6, x7, x8, x9⟩, xz⟩ := HS1.out.cells
  (try dsimp only at x0 x1 x2 x3 x4 x5 x6 x7 x8 x9)
  have HSa := Lib.hid (HS1.out.node (i := 0) (u := E 6) (m := ⟨6, z4, 0, 0, 0, 0, 0⟩) rfl)
  go_wp2_with (first
    | (go_at_call 42; have hq := N1.out; clear N1; refine (hq _).mono ?_; clear hq; rintro e w2 ⟨rfl, hb⟩; have HS2 := Lib.hid (HSa.out.below hb); clear hb)
    | (go_at_call 42; have hq := N2.out; clear N2; refine (hq _).mono ?_; clear hq; rintro e w3 ⟨rfl, hb⟩; have HS3 := Lib.hid (HS2.out.below hb); clear hb; obtain ⟨⟨y0, y1, y2, y3, y4, y5, y6, y7, y8, y9⟩, yz⟩ := HS3.out.cells;   (try dsimp only at y0 y1 y2 y3 y4 y5 y6 y7 y8 y9); have HS4 := Lib.hid (HS3.out.node (i := 7) (u := E m1) (m := ⟨6, z4, 0, 0, m1, 0, 0⟩) rfl); have HS5 := Lib.hid (HS4.out.node (i := 8) (u := E m2) (m := ⟨6, z4, 0, 0, m1, m2, 0⟩) rfl))
    | (go_at_call 22; have hq := H1.out; clear H1; refine (hq _ _ HS5.out.ro).mono ?_; clear hq; rintro e wz ⟨vz, gz, rfl, hbz⟩; have HBZ := Lib.hid hbz; clear hbz))
  go_ret3
  rw [HO.out]
  exact ⟨_, _, rfl, HBZ.out⟩
set_option maxRecDepth 100000 in
set_option maxHeartbeats 3200000 in
theorem read_m (w0 : World) (s : List UInt8) (k p d : Nat) (c : UInt8) (t : List UInt8) (l : List Nd) (g : Int) (v : Value) (w : World) (h : RO w0 l v w) (hp : p < s.length) (hc : s[p] = c) (ht : s.drop (p + 1) = t) (hd : d + (k + 1) = 131) (hlen : l.length + (s.length - p) ≤ 100000) (hs : s.length ≤ 100000) (hg0 : 0 ≤ g) (hg1 : g + ((s.length - p : Nat) : Int) ≤ 100000) (IH : ReadOk w0 s k) 
    (k0 : c = 42) (m1 : Int) (r1 : List UInt8) (hn : numR 44 3 0 [] t = some (m1, r1)) (m2 : Int) (r2 : List UInt8) (hm : numR 59 3 0 [] r1 = some (m2, r2)) (l3 : List Nd) (g3 : Int) (r3 : List UInt8) (hx3 : readR k r2 l g = some (l3, g3, r3)) :
    Calls Tryz.prog 22 #[S s, E (p : Nat), v, E g, E (d : Nat)] w (ReadAns w0 s.length v w (readB (readR k) c t l g)) := by
  obtain ⟨ao, cap, rfl⟩ : ∃ ao cap, v = .slice ao l.length cap := own_slice h.own
  obtain ⟨i0, hi, hz0, hz1, hz2⟩ := info_parts infoRd
  have hsz : (ByteArray.mk s.toArray).size = s.length := by simp [ByteArray.size]
  have hx : (ByteArray.mk s.toArray)[p]'(by rw [hsz]; exact hp) = c := hc
  have htl : t.length = s.length - (p + 1) := by rw [← ht, List.length_drop]
  have hlt' : ((p : Nat) : Int) < ((s.length : Nat) : Int) := by omega
  have hge' : ¬ ((s.length : Nat) : Int) ≤ ((p : Nat) : Int) := by omega
  have hd' : ¬ (130 : Int) < ((d : Nat) : Int) := by omega
  have HS0 := Lib.hid (sn_start h)
  have hown0 := h.own
  have hq0 : p + 1 ≤ s.length := by omega
  obtain ⟨p1, hp1e⟩ : ∃ p1, p1 = p + 1 := ⟨_, rfl⟩
  obtain ⟨d1, hd1e⟩ : ∃ d1, d1 = d + 1 := ⟨_, rfl⟩
  have hw1 : IntKind.i64.wrap ((p : Int) + 1) = ((p1 : Nat) : Int) := by rw [IntKind.wrap_i64]; omega
  have hw2 : IntKind.i64.wrap ((d : Int) + 1) = ((d1 : Nat) : Int) := by rw [IntKind.wrap_i64]; omega
  rw [← hp1e] at ht
  obtain ⟨q1, hq1, hdr1, hq1s, hpq1⟩ := num_bound ht (by omega) hn
  have hn1 : ¬ ((q1 : Nat) : Int) < 0 := by omega
  obtain ⟨p2, hp2e⟩ : ∃ p2, p2 = q1 + 1 := ⟨_, rfl⟩
  have hw3 : IntKind.i64.wrap ((q1 : Int) + 1) = ((p2 : Nat) : Int) := by rw [IntKind.wrap_i64]; omega
  rw [← hp2e] at hdr1
  obtain ⟨q2, hq2, hdr2, hq2s, hpq2⟩ := num_bound hdr1 (by omega) hm
  have hn2 : ¬ ((q2 : Nat) : Int) < 0 := by omega
  obtain ⟨p3, hp3e⟩ : ∃ p3, p3 = q2 + 1 := ⟨_, rfl⟩
  have hw4 : IntKind.i64.wrap ((q2 : Int) + 1) = ((p3 : Nat) : Int) := by rw [IntKind.wrap_i64]; omega
  rw [← hp3e] at hdr2
  obtain ⟨q3, hq3, hdr3, hq3s, hpq3, hb1, hl1, hb2, hb3⟩ := read_bound hdr2 (by omega) hx3 (by omega) hg0 (by omega)
  have hn3 : ¬ ((q3 : Nat) : Int) < 0 := by omega
  have HPQ := Lib.hid (show l3.length + 1 ≤ 200000 by omega)
  have hw5 : IntKind.i64.wrap ((l3.length : Int) - 1) = (l3.length : Int) - 1 := by rw [IntKind.wrap_i64]; omega
  have HO := Lib.hid (show readB (readR k) c t l g = some (l3 ++ [⟨6, z4, (l3.length : Int) - 1, 0, m1, m2, 0⟩], g3, r3) from by subst k0; rw [readB, if_neg (by decide), if_neg (by decide), if_neg (by decide), if_neg (by decide), if_neg (by decide), if_pos rfl, hn, Option.bind_some]; dsimp only; rw [hm, Option.bind_some]; dsimp only; rw [hx3]; rfl)
  have N1 := Lib.hid (fun W => number_some (p := p1) (ei := 44) rfl ht hn hq1 (by omega) hs W)
  have N2 := Lib.hid (fun W => number_some (p := p2) (ei := 59) rfl hdr1 hm hq2 (by omega) hs W)
  have H1 := Lib.hid (IH.some (p := p3) (d := d1) hdr2 hx3 hq3 (by omega) (by omega) (by omega) hg0 (by omega))
  have HPOS := Lib.hid hq3
  clear hd hlen hs hg0 hg1 IH ht hc h htl hp1e hd1e hn hm hq1 hdr1 hq1s hpq1 hp2e hx3 hq2 hdr2 hq2s hpq2 hp3e hq3 hdr3 hq3s hpq3 hb1 hl1 hb2 hb3
  subst k0
  go_enter Tryz.func22, Tryz.ntmps22
  rw [show Code.region 4 = Fz 4 from rfl]
  go_wp2
  refine at_world (p := fun W => SN w0 w _ N0 l _ W) HS0.out (fun W hW => ?_)
  have HS1 := Lib.hid hW
  clear hW HS0
  rw [show Fz 4 = Code.region 4 from rfl]
  obtain ⟨⟨x0, x1, x2, x3, x4, x5, x6, x7, x8, x9⟩, xz⟩ := HS1.out.cells
  (try dsimp only at x0 x1 x2 x3 x4 x5 x6 x7 x8 x9)
  have HSa := Lib.hid (HS1.out.node (i := 0) (u := E 6) (m := ⟨6, z4, 0, 0, 0, 0, 0⟩) rfl)
  go_wp2_with (first
    | (go_at_call 42; have hq := N1.out; clear N1; refine (hq _).mono ?_; clear hq; rintro e w2 ⟨rfl, hb⟩; have HS2 := Lib.hid (HSa.out.below hb); clear hb)
    | (go_at_call 42; have hq := N2.out; clear N2; refine (hq _).mono ?_; clear hq; rintro e w3 ⟨rfl, hb⟩; have HS3 := Lib.hid (HS2.out.below hb); clear hb; obtain ⟨⟨y0, y1, y2, y3, y4, y5, y6, y7, y8, y9⟩, yz⟩ := HS3.out.cells;   (try dsimp only at y0 y1 y2 y3 y4 y5 y6 y7 y8 y9); have HS4 := Lib.hid (HS3.out.node (i := 7) (u := E m1) (m := ⟨6, z4, 0, 0, m1, 0, 0⟩) rfl); have HS5 := Lib.hid (HS4.out.node (i := 8) (u := E m2) (m := ⟨6, z4, 0, 0, m1, m2, 0⟩) rfl))
    | (go_at_call 22; have hq := H1.out; clear H1; refine (hq _ _ HS5.out.ro).mono ?_; clear hq; rintro e w4 ⟨v4, rfl, hr, hk⟩; obtain ⟨ao4, cap4, rfl⟩ := own_slice hr.own; have HS6 := Lib.hid (HS5.out.step hr hk); clear hr hk; obtain ⟨⟨u0, u1, u2, u3, u4, u5, u6, u7, u8, u9⟩, uz⟩ := HS6.out.cells;   (try dsimp only at u0 u1 u2 u3 u4 u5 u6 u7 u8 u9); have HS7 := Lib.hid (HS6.out.node (i := 5) (u := E ((l3.length : Int) - 1)) (m := ⟨6, z4, (l3.length : Int) - 1, 0, m1, m2, 0⟩) rfl); have HOA := Lib.hid (HS7.out.ro.own.alloc (.cells (NC ⟨6, z4, (l3.length : Int) - 1, 0, m1, m2, 0⟩) 54)); have HSZ := Lib.hid HS7.out.ro.bel.size)
    | (at_builtin; go_loud (refine wpList_append_lies _ rfl _ _ 27 rfl w0.heap.size 54 i0 _ 10 80 Tryz.underlying27 hi hz0 hz1 hz2 rfl (by decide) _ _ _ rfl HOA.out ⟨_, 0, none⟩ 1 1 (NC ⟨6, z4, (l3.length : Int) - 1, 0, m1, m2, 0⟩).toList rfl rfl (news_atR _ ⟨6, z4, (l3.length : Int) - 1, 0, m1, m2, 0⟩ _ (by simp)) (one_row _) (by decide) (by have := HPQ.out; unfold maxLen; omega) (by have := HPQ.out; omega) (by have := HSZ.out; simp at this ⊢; omega) _ rfl ?_)))
  rintro gg gcap w4 hown hgrow hat hlt4
  have HP := Lib.hid (HS7.out.push hown hgrow (by rcases hat with q | q; exact Or.inl q; exact Or.inr (by simpa using q)))
  clear hown hgrow hat hlt4 HOA HSZ
  go_wp2
  go_ret3
  rw [HO.out]
  refine ⟨_, ?_, HP.out.1, HP.out.2⟩
  rw [HPOS.out]; rfl
set_option maxRecDepth 100000 in
set_option maxHeartbeats 3200000 in
theorem read_g0 (w0 : World) (s : List UInt8) (k p d : Nat) (c : UInt8) (t : List UInt8) (l : List Nd) (g : Int) (v : Value) (w : World) (h : RO w0 l v w) (hp : p < s.length) (hc : s[p] = c) (ht : s.drop (p + 1) = t) (hd : d + (k + 1) = 131) (hlen : l.length + (s.length - p) ≤ 100000) (hs : s.length ≤ 100000) (hg0 : 0 ≤ g) (hg1 : g + ((s.length - p : Nat) : Int) ≤ 100000) (IH : ReadOk w0 s k) 
    (k0 : c = 40) (hn : readR k t l (g + 1) = none) :
    Calls Tryz.prog 22 #[S s, E (p : Nat), v, E g, E (d : Nat)] w (ReadAns w0 s.length v w (readB (readR k) c t l g)) := by
  obtain ⟨ao, cap, rfl⟩ : ∃ ao cap, v = .slice ao l.length cap := own_slice h.own
  obtain ⟨i0, hi, hz0, hz1, hz2⟩ := info_parts infoRd
  have hsz : (ByteArray.mk s.toArray).size = s.length := by simp [ByteArray.size]
  have hx : (ByteArray.mk s.toArray)[p]'(by rw [hsz]; exact hp) = c := hc
  have htl : t.length = s.length - (p + 1) := by rw [← ht, List.length_drop]
  have hlt' : ((p : Nat) : Int) < ((s.length : Nat) : Int) := by omega
  have hge' : ¬ ((s.length : Nat) : Int) ≤ ((p : Nat) : Int) := by omega
  have hd' : ¬ (130 : Int) < ((d : Nat) : Int) := by omega
  have HS0 := Lib.hid (sn_start h)
  have hown0 := h.own
  have HPQ := Lib.hid (show l.length + 1 ≤ 200000 by omega)
  have hq0 : p + 1 ≤ s.length := by omega
  obtain ⟨p1, hp1e⟩ : ∃ p1, p1 = p + 1 := ⟨_, rfl⟩
  obtain ⟨d1, hd1e⟩ : ∃ d1, d1 = d + 1 := ⟨_, rfl⟩
  have hw1 : IntKind.i64.wrap ((p : Int) + 1) = ((p1 : Nat) : Int) := by rw [IntKind.wrap_i64]; omega
  have hw2 : IntKind.i64.wrap ((d : Int) + 1) = ((d1 : Nat) : Int) := by rw [IntKind.wrap_i64]; omega
  rw [← hp1e] at ht
  have hwg : IntKind.i64.wrap (g + 1) = g + 1 := by rw [IntKind.wrap_i64]; omega
  have HO := Lib.hid (show readB (readR k) c t l g = none from by subst k0; rw [readB, if_neg (by decide), if_neg (by decide), if_neg (by decide), if_neg (by decide), if_neg (by decide), if_neg (by decide), if_pos rfl, hn]; rfl)
  have H1 := Lib.hid (IH.none (p := p1) (d := d1) ht hn (by omega) (by omega) (by omega) (by omega) (by omega))
  clear hd hlen hs hg0 hg1 IH ht hc h htl hp1e hd1e hn
  subst k0
  go_enter Tryz.func22, Tryz.ntmps22
  rw [show Code.region 4 = Fz 4 from rfl]
  go_wp2
  refine at_world (p := fun W => SN w0 w _ N0 l _ W) HS0.out (fun W hW => ?_)
  have HS1 := Lib.hid hW
  clear hW HS0
  rw [show Fz 4 = Code.region 4 from rfl]
  obtain ⟨⟨x0, x1, x2, x3, x4, x5, x6, x7, x8, x9⟩, xz⟩ := HS1.out.cells
  (try dsimp only at x0 x1 x2 x3 x4 x5 x6 x7 x8 x9)
  have HSa := Lib.hid (HS1.out.node (i := 0) (u := E 7) (m := ⟨7, z4, 0, 0, 0, 0, 0⟩) rfl)
  have HSb := Lib.hid (HSa.out.node (i := 9) (u := E (g + 1)) (m := ⟨7, z4, 0, 0, 0, 0, g + 1⟩) rfl)
  go_wp2_with (go_at_call 22; have hq := H1.out; clear H1; refine (hq _ _ HSb.out.ro).mono ?_; clear hq; rintro e wz ⟨vz, gz, rfl, hbz⟩; have HBZ := Lib.hid hbz; clear hbz)
  go_ret3
  rw [HO.out]
  exact ⟨_, _, rfl, HBZ.out⟩
set_option maxRecDepth 100000 in
set_option maxHeartbeats 3200000 in
theorem read_g1 (w0 : World) (s : List UInt8) (k p d : Nat) (c : UInt8) (t : List UInt8) (l : List Nd) (g : Int) (v : Value) (w : World) (h : RO w0 l v w) (hp : p < s.length) (hc : s[p] = c) (ht : s.drop (p + 1) = t) (hd : d + (k + 1) = 131) (hlen : l.length + (s.length - p) ≤ 100000) (hs : s.length ≤ 100000) (hg0 : 0 ≤ g) (hg1 : g + ((s.length - p : Nat) : Int) ≤ 100000) (IH : ReadOk w0 s k) 
    (k0 : c = 40) (l1 : List Nd) (g1 : Int) (r1 : List UInt8) (hn : readR k t l (g + 1) = some (l1, g1, r1)) (hm : r1 = []) :
    Calls Tryz.prog 22 #[S s, E (p : Nat), v, E g, E (d : Nat)] w (ReadAns w0 s.length v w (readB (readR k) c t l g)) := by
  obtain ⟨ao, cap, rfl⟩ : ∃ ao cap, v = .slice ao l.length cap := own_slice h.own
  obtain ⟨i0, hi, hz0, hz1, hz2⟩ := info_parts infoRd
  have hsz : (ByteArray.mk s.toArray).size = s.length := by simp [ByteArray.size]
  have hx : (ByteArray.mk s.toArray)[p]'(by rw [hsz]; exact hp) = c := hc
  have htl : t.length = s.length - (p + 1) := by rw [← ht, List.length_drop]
  have hlt' : ((p : Nat) : Int) < ((s.length : Nat) : Int) := by omega
  have hge' : ¬ ((s.length : Nat) : Int) ≤ ((p : Nat) : Int) := by omega
  have hd' : ¬ (130 : Int) < ((d : Nat) : Int) := by omega
  have HS0 := Lib.hid (sn_start h)
  have hown0 := h.own
  have HPQ := Lib.hid (show l.length + 1 ≤ 200000 by omega)
  have hq0 : p + 1 ≤ s.length := by omega
  obtain ⟨p1, hp1e⟩ : ∃ p1, p1 = p + 1 := ⟨_, rfl⟩
  obtain ⟨d1, hd1e⟩ : ∃ d1, d1 = d + 1 := ⟨_, rfl⟩
  have hw1 : IntKind.i64.wrap ((p : Int) + 1) = ((p1 : Nat) : Int) := by rw [IntKind.wrap_i64]; omega
  have hw2 : IntKind.i64.wrap ((d : Int) + 1) = ((d1 : Nat) : Int) := by rw [IntKind.wrap_i64]; omega
  rw [← hp1e] at ht
  have hwg : IntKind.i64.wrap (g + 1) = g + 1 := by rw [IntKind.wrap_i64]; omega
  obtain ⟨q1, hq1, hdr1, hq1s, hpq1, hb1, hl1, hb2, hb3⟩ := read_bound ht (by omega) hn (by omega) (by omega) (by omega)
  have hn1 : ¬ ((q1 : Nat) : Int) < 0 := by omega
  have hr1l : r1.length = 0 := by rw [hm]; rfl
  have hend : ((s.length : Nat) : Int) ≤ ((q1 : Nat) : Int) := by omega
  have HO := Lib.hid (show readB (readR k) c t l g = none from by subst k0; rw [readB, if_neg (by decide), if_neg (by decide), if_neg (by decide), if_neg (by decide), if_neg (by decide), if_neg (by decide), if_pos rfl, hn, Option.bind_some]; dsimp only; rw [hm]; rfl)
  have H1 := Lib.hid (IH.some (p := p1) (d := d1) ht hn hq1 (by omega) (by omega) (by omega) (by omega) (by omega))
  clear hd hlen hs hg0 hg1 IH ht hc h htl hp1e hd1e hn hm hq1 hdr1 hq1s hpq1 hb1 hl1 hb2 hb3 hr1l
  subst k0
  go_enter Tryz.func22, Tryz.ntmps22
  rw [show Code.region 4 = Fz 4 from rfl]
  go_wp2
  refine at_world (p := fun W => SN w0 w _ N0 l _ W) HS0.out (fun W hW => ?_)
  have HS1 := Lib.hid hW
  clear hW HS0
  rw [show Fz 4 = Code.region 4 from rfl]
  obtain ⟨⟨x0, x1, x2, x3, x4, x5, x6, x7, x8, x9⟩, xz⟩ := HS1.out.cells
  (try dsimp only at x0 x1 x2 x3 x4 x5 x6 x7 x8 x9)
  have HSa := Lib.hid (HS1.out.node (i := 0) (u := E 7) (m := ⟨7, z4, 0, 0, 0, 0, 0⟩) rfl)
  have HSb := Lib.hid (HSa.out.node (i := 9) (u := E (g + 1)) (m := ⟨7, z4, 0, 0, 0, 0, g + 1⟩) rfl)
  go_wp2_with (go_at_call 22; have hq := H1.out; clear H1; refine (hq _ _ HSb.out.ro).mono ?_; clear hq; rintro e w2 ⟨v2, rfl, hr, hk⟩; obtain ⟨ao2, cap2, rfl⟩ := own_slice hr.own; have HS2 := Lib.hid (HSb.out.step hr hk); clear hr hk)
  go_ret3
  rw [HO.out]
  exact ⟨_, _, rfl, HS2.out.ro.bel⟩
set_option maxRecDepth 100000 in
set_option maxHeartbeats 3200000 in
theorem read_g2 (w0 : World) (s : List UInt8) (k p d : Nat) (c : UInt8) (t : List UInt8) (l : List Nd) (g : Int) (v : Value) (w : World) (h : RO w0 l v w) (hp : p < s.length) (hc : s[p] = c) (ht : s.drop (p + 1) = t) (hd : d + (k + 1) = 131) (hlen : l.length + (s.length - p) ≤ 100000) (hs : s.length ≤ 100000) (hg0 : 0 ≤ g) (hg1 : g + ((s.length - p : Nat) : Int) ≤ 100000) (IH : ReadOk w0 s k) 
    (k0 : c = 40) (l1 : List Nd) (g1 : Int) (r1 : List UInt8) (hn : readR k t l (g + 1) = some (l1, g1, r1)) (x : UInt8) (r : List UInt8) (hm : r1 = x :: r) (hx9 : x ≠ 41) :
    Calls Tryz.prog 22 #[S s, E (p : Nat), v, E g, E (d : Nat)] w (ReadAns w0 s.length v w (readB (readR k) c t l g)) := by
  obtain ⟨ao, cap, rfl⟩ : ∃ ao cap, v = .slice ao l.length cap := own_slice h.own
  obtain ⟨i0, hi, hz0, hz1, hz2⟩ := info_parts infoRd
  have hsz : (ByteArray.mk s.toArray).size = s.length := by simp [ByteArray.size]
  have hx : (ByteArray.mk s.toArray)[p]'(by rw [hsz]; exact hp) = c := hc
  have htl : t.length = s.length - (p + 1) := by rw [← ht, List.length_drop]
  have hlt' : ((p : Nat) : Int) < ((s.length : Nat) : Int) := by omega
  have hge' : ¬ ((s.length : Nat) : Int) ≤ ((p : Nat) : Int) := by omega
  have hd' : ¬ (130 : Int) < ((d : Nat) : Int) := by omega
  have HS0 := Lib.hid (sn_start h)
  have hown0 := h.own
  have HPQ := Lib.hid (show l.length + 1 ≤ 200000 by omega)
  have hq0 : p + 1 ≤ s.length := by omega
  obtain ⟨p1, hp1e⟩ : ∃ p1, p1 = p + 1 := ⟨_, rfl⟩
  obtain ⟨d1, hd1e⟩ : ∃ d1, d1 = d + 1 := ⟨_, rfl⟩
  have hw1 : IntKind.i64.wrap ((p : Int) + 1) = ((p1 : Nat) : Int) := by rw [IntKind.wrap_i64]; omega
  have hw2 : IntKind.i64.wrap ((d : Int) + 1) = ((d1 : Nat) : Int) := by rw [IntKind.wrap_i64]; omega
  rw [← hp1e] at ht
  have hwg : IntKind.i64.wrap (g + 1) = g + 1 := by rw [IntKind.wrap_i64]; omega
  obtain ⟨q1, hq1, hdr1, hq1s, hpq1, hb1, hl1, hb2, hb3⟩ := read_bound ht (by omega) hn (by omega) (by omega) (by omega)
  have hn1 : ¬ ((q1 : Nat) : Int) < 0 := by omega
  have hr1l := congrArg List.length hm
  simp at hr1l
  have hend : ¬ ((s.length : Nat) : Int) ≤ ((q1 : Nat) : Int) := by omega
  have hq1l : q1 < s.length := by omega
  have hx2 : (ByteArray.mk s.toArray)[q1]'(by rw [hsz]; exact hq1l) = x := by
    have e : s.drop q1 = s[q1] :: s.drop (q1 + 1) := List.drop_eq_getElem_cons hq1l
    rw [hdr1, hm] at e
    exact (List.cons.inj e).1.symm
  have hxn : ¬ ((x.toNat : Int) = 41) := fun q => hx9 (UInt8.toNat.inj (by show x.toNat = 41; omega))
  have hxn2 : ((x.toNat : Int) != 41) = true := by rw [bne_iff_ne]; exact hxn
  have HO := Lib.hid (show readB (readR k) c t l g = none from by subst k0; rw [readB, if_neg (by decide), if_neg (by decide), if_neg (by decide), if_neg (by decide), if_neg (by decide), if_neg (by decide), if_pos rfl, hn, Option.bind_some]; dsimp only; rw [hm, closeR, if_neg hx9]; rfl)
  have H1 := Lib.hid (IH.some (p := p1) (d := d1) ht hn hq1 (by omega) (by omega) (by omega) (by omega) (by omega))
  clear hd hlen hs hg0 hg1 IH ht hc h htl hp1e hd1e hn hm hq1 hdr1 hq1s hpq1 hb1 hl1 hb2 hb3 hr1l
  subst k0
  go_enter Tryz.func22, Tryz.ntmps22
  rw [show Code.region 4 = Fz 4 from rfl]
  go_wp2
  refine at_world (p := fun W => SN w0 w _ N0 l _ W) HS0.out (fun W hW => ?_)
  have HS1 := Lib.hid hW
  clear hW HS0
  rw [show Fz 4 = Code.region 4 from rfl]
  obtain ⟨⟨x0, x1, x2, x3, x4, x5, x6, x7, x8, x9⟩, xz⟩ := HS1.out.cells
  (try dsimp only at x0 x1 x2 x3 x4 x5 x6 x7 x8 x9)
  have HSa := Lib.hid (HS1.out.node (i := 0) (u := E 7) (m := ⟨7, z4, 0, 0, 0, 0, 0⟩) rfl)
  have HSb := Lib.hid (HSa.out.node (i := 9) (u := E (g + 1)) (m := ⟨7, z4, 0, 0, 0, 0, g + 1⟩) rfl)
  go_wp2_with (go_at_call 22; have hq := H1.out; clear H1; refine (hq _ _ HSb.out.ro).mono ?_; clear hq; rintro e w2 ⟨v2, rfl, hr, hk⟩; obtain ⟨ao2, cap2, rfl⟩ := own_slice hr.own; have HS2 := Lib.hid (HSb.out.step hr hk); clear hr hk)
  go_ret3
  rw [HO.out]
  exact ⟨_, _, rfl, HS2.out.ro.bel⟩
set_option maxRecDepth 100000 in
set_option maxHeartbeats 3200000 in
theorem read_g (w0 : World) (s : List UInt8) (k p d : Nat) (c : UInt8) (t : List UInt8) (l : List Nd) (g : Int) (v : Value) (w : World) (h : RO w0 l v w) (hp : p < s.length) (hc : s[p] = c) (ht : s.drop (p + 1) = t) (hd : d + (k + 1) = 131) (hlen : l.length + (s.length - p) ≤ 100000) (hs : s.length ≤ 100000) (hg0 : 0 ≤ g) (hg1 : g + ((s.length - p : Nat) : Int) ≤ 100000) (IH : ReadOk w0 s k) 
    (k0 : c = 40) (l1 : List Nd) (g1 : Int) (r1 : List UInt8) (hn : readR k t l (g + 1) = some (l1, g1, r1)) (r : List UInt8) (hm : r1 = 41 :: r) :
    Calls Tryz.prog 22 #[S s, E (p : Nat), v, E g, E (d : Nat)] w (ReadAns w0 s.length v w (readB (readR k) c t l g)) := by
  obtain ⟨ao, cap, rfl⟩ : ∃ ao cap, v = .slice ao l.length cap := own_slice h.own
  obtain ⟨i0, hi, hz0, hz1, hz2⟩ := info_parts infoRd
  have hsz : (ByteArray.mk s.toArray).size = s.length := by simp [ByteArray.size]
  have hx : (ByteArray.mk s.toArray)[p]'(by rw [hsz]; exact hp) = c := hc
  have htl : t.length = s.length - (p + 1) := by rw [← ht, List.length_drop]
  have hlt' : ((p : Nat) : Int) < ((s.length : Nat) : Int) := by omega
  have hge' : ¬ ((s.length : Nat) : Int) ≤ ((p : Nat) : Int) := by omega
  have hd' : ¬ (130 : Int) < ((d : Nat) : Int) := by omega
  have HS0 := Lib.hid (sn_start h)
  have hown0 := h.own
  have hq0 : p + 1 ≤ s.length := by omega
  obtain ⟨p1, hp1e⟩ : ∃ p1, p1 = p + 1 := ⟨_, rfl⟩
  obtain ⟨d1, hd1e⟩ : ∃ d1, d1 = d + 1 := ⟨_, rfl⟩
  have hw1 : IntKind.i64.wrap ((p : Int) + 1) = ((p1 : Nat) : Int) := by rw [IntKind.wrap_i64]; omega
  have hw2 : IntKind.i64.wrap ((d : Int) + 1) = ((d1 : Nat) : Int) := by rw [IntKind.wrap_i64]; omega
  rw [← hp1e] at ht
  have hwg : IntKind.i64.wrap (g + 1) = g + 1 := by rw [IntKind.wrap_i64]; omega
  obtain ⟨q1, hq1, hdr1, hq1s, hpq1, hb1, hl1, hb2, hb3⟩ := read_bound ht (by omega) hn (by omega) (by omega) (by omega)
  have hn1 : ¬ ((q1 : Nat) : Int) < 0 := by omega
  have hr1l := congrArg List.length hm
  simp at hr1l
  have hend : ¬ ((s.length : Nat) : Int) ≤ ((q1 : Nat) : Int) := by omega
  have hq1l : q1 < s.length := by omega
  have hx2 : (ByteArray.mk s.toArray)[q1]'(by rw [hsz]; exact hq1l) = 41 := by
    have e : s.drop q1 = s[q1] :: s.drop (q1 + 1) := List.drop_eq_getElem_cons hq1l
    rw [hdr1, hm] at e
    exact (List.cons.inj e).1.symm
  have HPQ := Lib.hid (show l1.length + 1 ≤ 200000 by omega)
  have hw5 : IntKind.i64.wrap ((l1.length : Int) - 1) = (l1.length : Int) - 1 := by rw [IntKind.wrap_i64]; omega
  have hw6 : IntKind.i64.wrap ((q1 : Int) + 1) = (q1 : Int) + 1 := by rw [IntKind.wrap_i64]; omega
  have HO := Lib.hid (show readB (readR k) c t l g = some (l1 ++ [⟨7, z4, (l1.length : Int) - 1, 0, 0, 0, g + 1⟩], g1, r) from by subst k0; rw [readB, if_neg (by decide), if_neg (by decide), if_neg (by decide), if_neg (by decide), if_neg (by decide), if_neg (by decide), if_pos rfl, hn, Option.bind_some]; dsimp only; rw [hm, closeR, if_pos rfl]; rfl)
  have H1 := Lib.hid (IH.some (p := p1) (d := d1) ht hn hq1 (by omega) (by omega) (by omega) (by omega) (by omega))
  have HPOS := Lib.hid (show s.length - r.length = q1 + 1 by omega)
  clear hd hlen hs hg0 hg1 IH ht hc h htl hp1e hd1e hn hm hq1 hdr1 hq1s hpq1 hb1 hl1 hb2 hb3 hr1l
  subst k0
  go_enter Tryz.func22, Tryz.ntmps22
  rw [show Code.region 4 = Fz 4 from rfl]
  go_wp2
  refine at_world (p := fun W => SN w0 w _ N0 l _ W) HS0.out (fun W hW => ?_)
  have HS1 := Lib.hid hW
  clear hW HS0
  rw [show Fz 4 = Code.region 4 from rfl]
  obtain ⟨⟨x0, x1, x2, x3, x4, x5, x6, x7, x8, x9⟩, xz⟩ := HS1.out.cells
  (try dsimp only at x0 x1 x2 x3 x4 x5 x6 x7 x8 x9)
  have HSa := Lib.hid (HS1.out.node (i := 0) (u := E 7) (m := ⟨7, z4, 0, 0, 0, 0, 0⟩) rfl)
  have HSb := Lib.hid (HSa.out.node (i := 9) (u := E (g + 1)) (m := ⟨7, z4, 0, 0, 0, 0, g + 1⟩) rfl)
  go_wp2_with (first
    | (go_at_call 22; have hq := H1.out; clear H1; refine (hq _ _ HSb.out.ro).mono ?_; clear hq; rintro e w2 ⟨v2, rfl, hr, hk⟩; obtain ⟨ao2, cap2, rfl⟩ := own_slice hr.own; have HS2 := Lib.hid (HSb.out.step hr hk); clear hr hk; obtain ⟨⟨u0, u1, u2, u3, u4, u5, u6, u7, u8, u9⟩, uz⟩ := HS2.out.cells;   (try dsimp only at u0 u1 u2 u3 u4 u5 u6 u7 u8 u9); have HS7 := Lib.hid (HS2.out.node (i := 5) (u := E ((l1.length : Int) - 1)) (m := ⟨7, z4, (l1.length : Int) - 1, 0, 0, 0, g + 1⟩) rfl); have HOA := Lib.hid (HS7.out.ro.own.alloc (.cells (NC ⟨7, z4, (l1.length : Int) - 1, 0, 0, 0, g + 1⟩) 54)); have HSZ := Lib.hid HS7.out.ro.bel.size)
    | (at_builtin; go_loud (refine wpList_append_lies _ rfl _ _ 27 rfl w0.heap.size 54 i0 _ 10 80 Tryz.underlying27 hi hz0 hz1 hz2 rfl (by decide) _ _ _ rfl HOA.out ⟨_, 0, none⟩ 1 1 (NC ⟨7, z4, (l1.length : Int) - 1, 0, 0, 0, g + 1⟩).toList rfl rfl (news_atR _ ⟨7, z4, (l1.length : Int) - 1, 0, 0, 0, g + 1⟩ _ (by simp)) (one_row _) (by decide) (by have := HPQ.out; unfold maxLen; omega) (by have := HPQ.out; omega) (by have := HSZ.out; simp at this ⊢; omega) _ rfl ?_)))
  rintro gg gcap w4 hown hgrow hat hlt4
  have HP := Lib.hid (HS7.out.push hown hgrow (by rcases hat with q | q; exact Or.inl q; exact Or.inr (by simpa using q)))
  clear hown hgrow hat hlt4 HOA HSZ
  go_wp2
  go_ret3
  rw [HO.out]
  refine ⟨_, ?_, HP.out.1, HP.out.2⟩
  rw [HPOS.out]; rfl
end Go.Proofs.YtdjedjfanfbbcaaGreatDoor.Rx
