/- The texts M6R. -/
import Derived.Test.YtinallojhkaogaaGreatDoorGk21
import Derived.Test.YtinallojhkaogaaGreatDoorGk39
set_option linter.unusedVariables false
set_option linter.unusedSimpArgs false
set_option maxHeartbeats 6400000
set_option maxRecDepth 100000
namespace Go.Proofs.YtinallojhkaogaaGreatDoor.Mt
open Go.RowKit Go.Shelf
open Rx
open Rx.Tr
open St (Wf word mem SV SV_eq)
structure ER (w1 : World) (tv : Array Value) (b5 : Nat) (xs : List Nat) (v : Value) (wr : World) : Prop where
 t5 : wr.heap[b5]? = some (.cells tv 83 (0, 0))
 own : wr.ownsRow w1.heap.size 3 1 v xs.length (ints xs)
 ne : ∀ g, v.ownBlock = some g -> g ≠ b5
 bel : Below w1.heap.size w1 wr
 n5 : w1.heap.size <= b5
section
variable {w1 wr w' : World} {tv : Array Value} {b5 : Nat} {xs : List Nat} {v v' : Value}
theorem ER.below (h : ER w1 tv b5 xs v wr) (hb : Below wr.heap.size wr w') : ER w1 tv b5 xs v w' :=
 ⟨(hb.block _ (lt_heap' h.t5)).trans h.t5, own_below h.own hb, h.ne, h.bel.trans (hb.mono h.bel.size), h.n5⟩
theorem ER.grow (h : ER w1 tv b5 xs v wr) {tmp : Obj} {ys : List Nat} (hown : w'.ownsRow w1.heap.size 3 1 v' ys.length (ints ys)) (hgrow : (wr.alloc tmp).grownBy w' v.ownBlock) (hat : v'.ownBlock = v.ownBlock \/ v'.ownBlock = some (wr.alloc tmp).heap.size) : ER w1 tv b5 ys v' w' := by
 have h5 := lt_heap' h.t5;(have hs : wr.heap.size < (wr.alloc tmp).heap.size := by simp);(have hk : b5 < wr.heap.size -> v.ownBlock ≠ some b5 -> w'.heap[b5]? = wr.heap[b5]? := fun q1 q2 => (hgrow.block b5 (by omega) (fun e => q2 e.symm)).trans (Lib.alloc_old wr tmp b5 q1));refine ⟨(hk h5 (fun e => h.ne _ e rfl)).trans h.t5, hown, fun g hg => ?_, ?_, h.n5⟩
 ·
  rcases hat with e | e
  · exact h.ne g (by rw [<- e]; exact hg)
  · rw [e] at hg; have := Option.some.inj hg; omega
 · exact (h.bel.alloc h.bel.size _).grown hgrow (by have := h.bel.size; omega) (fun j hj => own_ge h.own j hj)
theorem ER.tb {lv gv : Value} {y : List UInt8} (h : ER w1 #[lv, S y, gv] b5 xs v wr) : wr.cell? ⟨b5, 0, none⟩ = some lv /\ wr.cell? ⟨b5, 1, none⟩ = some (S y) /\ wr.cell? ⟨b5, 2, none⟩ = some gv :=
 ⟨(Lib.cell_of_heap h.t5 0).trans rfl, (Lib.cell_of_heap h.t5 1).trans rfl, (Lib.cell_of_heap h.t5 2).trans rfl⟩
end
def qL (l : List Nd) (T : List UInt8) (i : Int) (k : Nat) : Bool := (wholeL l T i (k : Nat)).isSome
theorem rEnds_any (l : List Nd) (hw : ∀ n ∈ l, Wf n.s) (hTo : ToldOk) (T : List UInt8) (hT : T.length <= 100) (ao : Option Addr) (c : Nat) (w : World) (h : Ns w (.slice ao l.length c) l) (i : Int) (L : List Nat) (hL : L = qs (qL l T i) (T.length + 1)) :
  Calls Tryz.prog 21 #[.slice ao l.length c, S T, E i] w (EndsAns w L) := by
 obtain ⟨i0, hi, hz0, hz1, hz2⟩ := info_parts infoI;have HMK := Hd (rmakeW_any l hw hTo T hT ao c w h);have HRR := Hd (fun (W : World) (tv : Value) (k : Nat) (R : Option Caps) (hR : R = wholeL l T i (k : Nat)) (hq : WholeT W tv (wholeL l T)) => show Calls Tryz.prog 51 #[tv, E i, E (k : Nat)] W fun e w' => e = .returned (ansC R) /\ Below W.heap.size W w' from by rw [hR]; exact hq W i (k : Nat) (Below.refl _ _));have HT := Hd hT;have HLL := Hd hL;obtain ⟨Q, hQ⟩ : ∃ Q, Q = qL l T i := ⟨_, rfl⟩;have HQ := Hd (fun k => show Q k = (wholeL l T i (k : Nat)).isSome from by rw [hQ]; rfl);rw [<- hQ] at HLL;clear hTo hT hL hQ;generalize wholeL l T = FQ at *;generalize (patOf l = none) = PN at *;clear h hw;generalize l.length = n at *;go_enter Tryz.func21, Tryz.ntmps21;rw [show Code.region 3 = Fz 3 from rfl];go_wp2_with (go_at_call 42; refine HMK.out.mono ?_; rintro e w1 ⟨ao2, n2, c2, y, go, gn, gc, rfl, -, hlo, hb⟩; have HLO := Hd hlo; have HB := Hd hb; clear hlo hb HMK);have HS0 := Hd (show ER w1 #[.slice ao2 n2 c2, S y, .slice go gn gc] w1.heap.size [] (.slice (some ⟨w1.heap.size + 1, 0, none⟩) 0 0) ((w1.alloc (.cells #[.slice ao2 n2 c2, S y, .slice go gn gc] 83)).alloc (.cells #[] 3)) from by
  refine ⟨heap_alloc2_old _ _ _, ?_, fun g hg => ?_, ((Below.refl _ _).alloc (Nat.le_refl _) _).alloc (by simp) _, Nat.le_refl _⟩
  · have := World.ownsRow_made (base := w1.heap.size) (e := 3) (size := 1) (w1.alloc (.cells #[.slice ao2 n2 c2, S y, .slice go gn gc] 83)) #[] 0 (by simp) (by decide) rfl;simpa [ints] using this
  · simp only [Value.ownBlock, Option.some.injEq] at hg; omega)
 refine at_world (p := fun V => ER w1 #[.slice ao2 n2 c2, S y, .slice go gn gc] w1.heap.size [] (.slice (some ⟨w1.heap.size + 1, 0, none⟩) 0 0) V) HS0.out (fun V hV => ?_);have HV := Hd hV;clear hV HS0;generalize hb5 : w1.heap.size = b5 at HV ⊢;rw [show Fz 3 = Code.region 3 from rfl];go_wp2;go_loopg [8, 9] (T.length + 1) (fun m sv kv wr => ∃ k : Nat, m = T.length + 1 - k /\ k <= T.length + 1 /\ kv = .int .i64 (k : Nat) /\ (∃ ga gn2 gc2, sv = .slice ga gn2 gc2 /\ gn2 = (qs Q k).length) /\ Hid (ER w1 #[.slice ao2 n2 c2, S y, .slice go gn gc] b5 (qs Q k) sv wr));(case atStart => exact ⟨0, rfl, by omega, rfl, ⟨_, _, _, rfl, rfl⟩, HV⟩);case round =>
  clear HV;obtain ⟨k, hm, hk2, rfl, ⟨ga, gn2, gc2, rfl, hgn⟩, HO⟩ := hrel;subst hm;by_cases hlt : k <= T.length
  ·
   (have hle : (k : Int) <= (T.length : Int) := by omega);(have hwk : IntKind.i64.wrap ((k : Int) + 1) = (k : Int) + 1 := by rw [IntKind.wrap_i64]; have := HT.out; omega);have HK := Hd hlt;have HNX := Hd (qs_next Q k);have HLN := Hd (qs_len Q k);obtain ⟨R1, hR1⟩ : ∃ R1, R1 = FQ i (k : Nat) := ⟨_, rfl⟩;have hqk := HQ.out k;rw [<- hR1] at hqk;rw [hqk] at HNX;have HR1 := Hd hR1;have HGN := Hd hgn;obtain ⟨x0, x1, x2⟩ := HO.out.tb;clear hk2 hlt hR1 hqk hgn;cases hc : R1 with
   | none =>
    rw [hc] at HR1 HNX;go_wp2_with (first
     | (go_at_call 51; refine (HRR.out wr (.agg #[.slice ao2 n2 c2, S y, .slice go gn gc]) k none HR1.out (HLO.out.below HO.out.bel)).mono ?_; rintro e w3 ⟨he, hb⟩; rw [show ansC none = .tuple #[CV nones, .bool false] from rfl] at he; subst he; have HO3 := Hd (HO.out.below hb); clear hb HO)
     | (refine st6 10 27 nones (heap_alloc_new _ _) ?_; rw [box_laid6]; have HO4 := Hd (HO3.out.below ((Below.refl w3.heap.size w3).alloc (Nat.le_refl _) (.cells (CC nones) 33))); clear HO3; generalize World.alloc _ _ = W4 at HO4 ⊢))
    go_roundg (T.length - k);(case measure => have := HK.out; omega);case rel => exact ⟨k + 1, by omega, by have := HK.out; omega, by go_num, ⟨_, _, _, rfl, by rw [HGN.out, HNX.out]; simp⟩, Hd (by rw [HNX.out]; simpa using HO4.out)⟩
   | some a1 =>
    rw [hc] at HR1 HNX;rw [show Code.region 8 = Fz 8 from rfl];go_wp2_with (first
     | (go_at_call 51; refine (HRR.out wr (.agg #[.slice ao2 n2 c2, S y, .slice go gn gc]) k (some a1) HR1.out (HLO.out.below HO.out.bel)).mono ?_; rintro e w3 ⟨he, hb⟩; rw [show ansC (some a1) = .tuple #[CV a1, .bool true] from rfl] at he; subst he; have HO3 := Hd (HO.out.below hb); clear hb HO)
     | (refine st6 10 27 a1 (heap_alloc_new _ _) ?_; rw [box_laid6]; have HO4 := Hd (HO3.out.below ((Below.refl w3.heap.size w3).alloc (Nat.le_refl _) (.cells (CC a1) 33))); clear HO3; generalize World.alloc _ _ = W4 at HO4 ⊢))
    have HOA := Hd (HO4.out.own.alloc (.cells #[E (k : Nat)] 3));rw [<- HGN.out] at HOA;have HSZ := Hd (show w1.heap.size <= W4.heap.size from HO4.out.bel.size);clear x0 x1 x2;rw [show Fz 8 = Code.region 8 from rfl];go_wp2_with (at_builtin; go_loud (refine wpList_append_own_at _ rfl _ _ 41 rfl w1.heap.size 3 i0 _ 1 8 Tryz.underlying41 hi hz0 hz1 hz2 rfl (by decide) _ _ _ rfl HOA.out ⟨_, 0, none⟩ 1 1 [E (k : Nat)] rfl rfl (news_int _ k _ rfl) (by intro u hu; simp only [List.mem_singleton] at hu; subst hu; rfl) (by have := HGN.out; have := HLN.out; have := HK.out; have := HT.out; unfold maxLen; omega) (by have := HGN.out; have := HLN.out; have := HK.out; have := HT.out; omega) (by have := HSZ.out; simp; omega) ?_); intro v2 w5 hown hgrow _ hat; obtain ⟨g', cap', rfl⟩ := ownsRow_succ hown; have HX := Hd (An hown (An hgrow hat)); clear hown hgrow hat);have HO5 := Hd (HO4.out.grow (ys := qs Q (k + 1)) (by
     have h1 := HX.out.1;rw [HGN.out] at h1 ⊢;rw [HNX.out, show (some a1 : Option Caps).isSome = true from rfl, if_pos rfl, List.length_append];unfold ints at h1 ⊢;rw [List.map_append];exact h1) HX.out.2.1 HX.out.2.2)
    clear HX HOA HSZ HO4;go_roundg (T.length - k);(case measure => have := HK.out; omega);case rel => exact ⟨k + 1, by omega, by have := HK.out; omega, by go_num, ⟨_, _, _, rfl, by rw [HGN.out, HNX.out]; simp⟩, HO5⟩
  · (have hle : ¬ (k : Int) <= (T.length : Int) := by omega);have HN := Hd (show k = T.length + 1 from by omega);clear hgn;go_wp2;go_ret;refine ⟨_, w1.heap.size, rfl, HB.out.size, ?_, HB.out.trans (HO.out.bel.mono HB.out.size)⟩;have := HO.out.own;rw [HN.out, <- HLL.out] at this;exact this
theorem sameInts_yes (ae be : Option Addr) (ca cb : Nat) (L : List Nat) (hL : L.length <= 1000) (w : World) (ha : ∀ i (hi : i < L.length), ∃ g, ae = some ⟨g, 0, none⟩ /\ w.cell? ⟨g, i, none⟩ = some (E (L[i] : Nat))) (hb : ∀ i (hi : i < L.length), ∃ g, be = some ⟨g, 0, none⟩ /\ w.cell? ⟨g, i, none⟩ = some (E (L[i] : Nat))) :
  Calls Tryz.prog 19 #[.slice ae L.length ca, .slice be L.length cb] w fun e w' => e = .returned (.bool true) /\ Below w.heap.size w w' := by
 have HL := Hd hL;have HA := Hd ha;have HB := Hd hb;have HB0 := Hd (Below.refl w.heap.size w);clear hL ha hb;go_enter Tryz.func19, Tryz.ntmps19;go_wp2;go_loopw [5] (fun iv wr => ∃ k : Nat, k <= L.length /\ iv = .int .i64 (k : Nat) /\ Hid (Below w.heap.size w wr)) (fun iv _ => L.length - (intOf iv).toNat);(case atStart => exact ⟨0, Nat.zero_le _, rfl, HB0⟩);case round =>
  clear HB0;obtain ⟨k, hk, rfl, HBL⟩ := hrel;by_cases hlt : k < L.length
  · (have hlt' : (k : Int) < (L.length : Int) := by omega);(have hk0 : (0 : Int) <= (k : Int) := by omega);(have hwk : IntKind.i64.wrap ((k : Int) + 1) = (k : Int) + 1 := by rw [IntKind.wrap_i64]; have := HL.out; omega);obtain ⟨ga, rfl, ra⟩ := HA.out k hlt;obtain ⟨gb, rfl, rb⟩ := HB.out k hlt;have ra2 := Below.cellB HBL.out ra;have rb2 := Below.cellB HBL.out rb;generalize L[k] = x at *;have HK := Hd hlt;have HB9 := Hd (show Below w.heap.size w wr.drew from HBL.out.drew);clear hlt hk ra rb HBL;go_wp2;go_region;go_wp2;go_roundw;(case rel => exact ⟨k + 1, by have := HK.out; omega, by go_num, HB9⟩);case measure => have := HK.out; simp [intOf]; omega
  · (have hnl : ¬ (k : Int) < (L.length : Int) := by omega);clear hk hlt;go_wp2;go_ret;exact ⟨rfl, HBL.out⟩
theorem mEnds_any (l : List Nd) (hw : ∀ n ∈ l, Wf n.s) (T : List UInt8) (hT : T.length <= 100000) (ao : Option Addr) (c : Nat) (w : World) (h : Ns w (.slice ao l.length c) l) (i : Int) (L : List Nat) (hL : L = qs (qL l T i) (T.length + 1)) :
  Calls Tryz.prog 20 #[.slice ao l.length c, S T, E i] w (EndsAns w L) := by
 have hno : (∀ k, k <= T.length -> qL l T i k = false) -> L = [] := fun hq => by
  rw [hL];unfold qs;rw [List.filter_eq_nil_iff];intro a ha;rw [hq a (by have := List.mem_range.1 ha; omega)];decide
 cases hp : patOf l with
 | none =>
  rw [hno fun k _ => by unfold qL wholeL; rw [hp]; rfl];exact Ends_no l ao c w h hw T i (Or.inl (by unfold mayL; rw [hp]; rfl))
 | some t =>
  by_cases hr : i < 0 \/ (T.length : Int) < i
  · rw [hno fun k hk => by unfold qL wholeL; rw [hp]; show (wholeZ T t i (k : Nat)).isSome = false; rw [wholeZ_off T t (by omega)]; rfl];exact Ends_no l ao c w h hw T i (Or.inr hr)
  ·
   obtain ⟨i, rfl⟩ : ∃ a : Nat, i = (a : Int) := ⟨i.toNat, by omega⟩;have e : L = endsK T t i (T.length + 1) := by
    rw [hL, ends_qs];unfold qs;(refine List.filter_congr fun k hk => ?_);have hk2 := List.mem_range.1 hk;unfold qL qW wholeL;rw [hp];show (wholeZ T t (i : Nat) (k : Nat)).isSome = _;by_cases h1 : i <= k
    · rw [wholeZ_nat T t h1 (by omega), decide_eq_true h1]; rfl
    · rw [wholeZ_off T t (by omega), decide_eq_false h1]; rfl
   obtain ⟨rfl, hg⟩ := patOf_some hp;rw [e];exact Ends_yes t hg (sets_nodes t 0 hw) ao c w h T hT i (by omega)
end Go.Proofs.YtinallojhkaogaaGreatDoor.Mt
