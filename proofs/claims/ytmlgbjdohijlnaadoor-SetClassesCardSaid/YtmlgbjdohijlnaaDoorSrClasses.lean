/- SetClasses: the walk. -/
import Derived.Test.YtmlgbjdohijlnaaDoorSc2
import Derived.Test.YtmlgbjdohijlnaaDoorSc3
import Derived.Test.YtmlgbjdohijlnaaDoorSrWords
import Derived.Test.YtmlgbjdohijlnaaDoorStLaws
import Derived.Test.YtmlgbjdohijlnaaDoorStOrs
namespace Go.Proofs.YtmlgbjdohijlnaaDoor.St
open Go.RowKit
set_option linter.unusedVariables false
set_option linter.unusedSimpArgs false
theorem named_wf {s : ByteArray} {c : List Nat} {b : Bool} (h : Named s c b) : Wf c := by
  unfold Named at h
  rcases h with ⟨_, rfl, _⟩ | ⟨_, rfl, _⟩ | ⟨_, rfl, _⟩ | ⟨_, rfl, _⟩ | ⟨_, rfl, _⟩ | ⟨_, rfl, _⟩ | ⟨_, rfl, _⟩ | ⟨_, rfl, _⟩ | ⟨_, rfl, _⟩ | ⟨_, rfl, _⟩ | ⟨_, rfl, _⟩ | ⟨_, rfl, _⟩ | ⟨_, rfl, _⟩
  all_goals first
    | exact wf_zero
    | exact wf_ofL _
    | exact wf_rangeW (by decide) (by decide)
    | exact wf_orL (wf_all (by simp [wf_rangeW, wf_ofL]))
theorem class_named {s : ByteArray} {c : List Nat} {b : Bool} (h : Named s c b) (w : World) :
    Calls Tryd.prog 11 #[.string s] w fun e w' => e = .returned (.tuple #[SV c, .bool b]) ∧ Below w.heap.size w w' := by
  unfold Named at h
  rcases h with ⟨rfl, rfl, rfl⟩ | ⟨rfl, rfl, rfl⟩ | ⟨rfl, rfl, rfl⟩ | ⟨rfl, rfl, rfl⟩ | ⟨rfl, rfl, rfl⟩ | ⟨rfl, rfl, rfl⟩ | ⟨rfl, rfl, rfl⟩ | ⟨rfl, rfl, rfl⟩ | ⟨rfl, rfl, rfl⟩ | ⟨rfl, rfl, rfl⟩ | ⟨rfl, rfl, rfl⟩ | ⟨rfl, rfl, rfl⟩ | ⟨hn, rfl, rfl⟩
  · exact class_upper w
  · exact class_lower w
  · exact class_alpha w
  · exact class_digit w
  · exact class_alnum w
  · exact class_xdigit w
  · exact class_blank w
  · exact class_space w
  · exact class_cntrl w
  · exact class_graph w
  · exact class_print w
  · exact class_punct w
  · exact class_none s hn.1 hn.2.1 hn.2.2.1 hn.2.2.2.1 hn.2.2.2.2.1 hn.2.2.2.2.2.1 hn.2.2.2.2.2.2.1 hn.2.2.2.2.2.2.2.1 hn.2.2.2.2.2.2.2.2.1 hn.2.2.2.2.2.2.2.2.2.1 hn.2.2.2.2.2.2.2.2.2.2.1 hn.2.2.2.2.2.2.2.2.2.2.2 w
theorem of_list {s : ByteArray} {l : List UInt8} (h : ¬ (s.toList == l) = false) : s = ⟨l.toArray⟩ := by
  rw [Bool.not_eq_false, beq_iff_eq] at h
  subst h
  rw [ByteArray.toList_eq, Array.toArray_toList]
/-- Every name has a class, or is none. -/
theorem named_is (s : ByteArray) : ∃ c b, Named s c b := by
  unfold Named
  by_cases h0 : ¬ (s.toList == [117, 112, 112, 101, 114]) = false
  · exact ⟨_, _, Or.inl ⟨of_list h0, rfl, rfl⟩⟩
  replace h0 := Classical.not_not.1 h0
  by_cases h1 : ¬ (s.toList == [108, 111, 119, 101, 114]) = false
  · exact ⟨_, _, Or.inr (Or.inl ⟨of_list h1, rfl, rfl⟩)⟩
  replace h1 := Classical.not_not.1 h1
  by_cases h2 : ¬ (s.toList == [97, 108, 112, 104, 97]) = false
  · exact ⟨_, _, Or.inr (Or.inr (Or.inl ⟨of_list h2, rfl, rfl⟩))⟩
  replace h2 := Classical.not_not.1 h2
  by_cases h3 : ¬ (s.toList == [100, 105, 103, 105, 116]) = false
  · exact ⟨_, _, Or.inr (Or.inr (Or.inr (Or.inl ⟨of_list h3, rfl, rfl⟩)))⟩
  replace h3 := Classical.not_not.1 h3
  by_cases h4 : ¬ (s.toList == [97, 108, 110, 117, 109]) = false
  · exact ⟨_, _, Or.inr (Or.inr (Or.inr (Or.inr (Or.inl ⟨of_list h4, rfl, rfl⟩))))⟩
  replace h4 := Classical.not_not.1 h4
  by_cases h5 : ¬ (s.toList == [120, 100, 105, 103, 105, 116]) = false
  · exact ⟨_, _, Or.inr (Or.inr (Or.inr (Or.inr (Or.inr (Or.inl ⟨of_list h5, rfl, rfl⟩)))))⟩
  replace h5 := Classical.not_not.1 h5
  by_cases h6 : ¬ (s.toList == [98, 108, 97, 110, 107]) = false
  · exact ⟨_, _, Or.inr (Or.inr (Or.inr (Or.inr (Or.inr (Or.inr (Or.inl ⟨of_list h6, rfl, rfl⟩))))))⟩
  replace h6 := Classical.not_not.1 h6
  by_cases h7 : ¬ (s.toList == [115, 112, 97, 99, 101]) = false
  · exact ⟨_, _, Or.inr (Or.inr (Or.inr (Or.inr (Or.inr (Or.inr (Or.inr (Or.inl ⟨of_list h7, rfl, rfl⟩)))))))⟩
  replace h7 := Classical.not_not.1 h7
  by_cases h8 : ¬ (s.toList == [99, 110, 116, 114, 108]) = false
  · exact ⟨_, _, Or.inr (Or.inr (Or.inr (Or.inr (Or.inr (Or.inr (Or.inr (Or.inr (Or.inl ⟨of_list h8, rfl, rfl⟩))))))))⟩
  replace h8 := Classical.not_not.1 h8
  by_cases h9 : ¬ (s.toList == [103, 114, 97, 112, 104]) = false
  · exact ⟨_, _, Or.inr (Or.inr (Or.inr (Or.inr (Or.inr (Or.inr (Or.inr (Or.inr (Or.inr (Or.inl ⟨of_list h9, rfl, rfl⟩)))))))))⟩
  replace h9 := Classical.not_not.1 h9
  by_cases h10 : ¬ (s.toList == [112, 114, 105, 110, 116]) = false
  · exact ⟨_, _, Or.inr (Or.inr (Or.inr (Or.inr (Or.inr (Or.inr (Or.inr (Or.inr (Or.inr (Or.inr (Or.inl ⟨of_list h10, rfl, rfl⟩))))))))))⟩
  replace h10 := Classical.not_not.1 h10
  by_cases h11 : ¬ (s.toList == [112, 117, 110, 99, 116]) = false
  · exact ⟨_, _, Or.inr (Or.inr (Or.inr (Or.inr (Or.inr (Or.inr (Or.inr (Or.inr (Or.inr (Or.inr (Or.inr (Or.inl ⟨of_list h11, rfl, rfl⟩)))))))))))⟩
  replace h11 := Classical.not_not.1 h11
  exact ⟨_, _, Or.inr (Or.inr (Or.inr (Or.inr (Or.inr (Or.inr (Or.inr (Or.inr (Or.inr (Or.inr (Or.inr (Or.inr (⟨⟨h0, h1, h2, h3, h4, h5, h6, h7, h8, h9, h10, h11⟩, rfl, rfl⟩))))))))))))⟩
def Sq (b3 b5 : Nat) (c : List Nat) (w0 w : World) : Prop := SB w b3 c ∧ BB w b5 (mem c) ∧ Below w0.heap.size w0 w
theorem Sq.below {b3 b5 : Nat} {c : List Nat} {w0 w w' : World} (h : Sq b3 b5 c w0 w) (hb : Below w.heap.size w w') : Sq b3 b5 c w0 w' := ⟨sb_below h.1 hb, bb_below h.2.1 hb, h.2.2.trans (hb.mono h.2.2.size)⟩
theorem sq_s {b3 b5 : Nat} {c : List Nat} {w0 w' : World} (h : Sq b3 b5 c w0 w') (hc : Wf c) : (w'.cell? ⟨b3, 0, none⟩ = some (.int .u64 (word c 0 : Int)) ∧ w'.cell? ⟨b3, 1, none⟩ = some (.int .u64 (word c 1 : Int)) ∧ w'.cell? ⟨b3, 2, none⟩ = some (.int .u64 (word c 2 : Int)) ∧ w'.cell? ⟨b3, 3, none⟩ = some (.int .u64 (word c 3 : Int))) ∧ Sq b3 b5 c w0 w' := ⟨sb_cells h.1 hc, h⟩
set_option maxRecDepth 100000 in
set_option maxHeartbeats 2000000 in
theorem setClasses_le (s : ByteArray) (hle : s.size ≤ 100) (w : World) (hg : 0 < w.heap.size) (hT : Tab w) :
    Calls Tryd.prog 3 #[.string s] w fun e w' => e = .returned (.bool true) ∧ Below w.heap.size w w' := by
  obtain ⟨c, b, hN⟩ := named_is s
  have HT := Lib.hid hT
  clear hT
  have hz := zero_at
  have hc := named_wf hN
  have HSC := Lib.hid (SV_eq hc)
  have CSH := fun W h1 h2 => shown_any W h1 h2
  have CC := fun W => class_named hN W
  have CR := fun W => refClass_any s c b hN W
  have CT := fun W => toldL_any c W hc
  simp only [HSC.out] at CC CT
  have hI : ¬ (100 : Int) < (s.size : Int) := by omega
  have HLE := Lib.hid hle
  clear hle hN
  go_enter Tryd.func3, Tryd.ntmps3
  go_wp2_with (first
    | (go_at_call 10; refine (CSH _ hg HT.out).mono ?_; rintro e w1 ⟨rfl, hb1⟩; clear CSH)
    | (go_at_call 11; refine (CC _).mono ?_; rintro e w2 ⟨rfl, hb2⟩; clear CC
       have HQ := Lib.hid (And.intro (show SB (w2.alloc _) w2.heap.size c from by rw [SB, wc_eq hc]; exact heap_alloc_new w2 _) ((hb1.trans (hb2.mono hb1.size)).alloc (Nat.le_trans hb1.size hb2.size) (Obj.cells #[Value.int IntKind.u64 (word c 0 : Int), Value.int IntKind.u64 (word c 1 : Int), Value.int IntKind.u64 (word c 2 : Int), Value.int IntKind.u64 (word c 3 : Int)] 25))))
    | (go_at_call 12; refine (CR _).mono ?_; rintro e w3 ⟨rfl, hb3⟩; clear CR
       have hsc := run_storeCells_new (P := Tryd.prog) w3 29 (bc FF) (bc (mem c)) (by rw [bc_size]; exact size_at) (by rw [bc_size, bc_size]) (bc_one _)
       have hn := bc_size (mem c)
       have HQ2 := Lib.hid (show Sq w2.heap.size w3.heap.size c w (w3.alloc (Obj.cells (bc (mem c)) 29)) from ⟨sb_alloc (sb_below HQ.out.1 hb3) _, bb_new _ _, (HQ.out.2.trans (hb3.mono HQ.out.2.size)).alloc (Nat.le_trans HQ.out.2.size hb3.size) _⟩)))
  clear hsc hn hz HQ hb1 hb2 hb3
  generalize w3.alloc (Obj.cells (bc (mem c)) 29) = W at *
  generalize w2.heap.size = b3 at *
  generalize w3.heap.size = b5 at *
  have HE := fun W => run_eq256 (mem c) W
  have hbb : (b == b) = true := beq_self_eq_true _
  refine wp_region_noPanic ?_
  refine wp_region_held_drew (S := (fun w' => (w'.cell? ⟨b3, 0, none⟩ = some (.int .u64 (word c 0 : Int)) ∧ w'.cell? ⟨b3, 1, none⟩ = some (.int .u64 (word c 1 : Int)) ∧ w'.cell? ⟨b3, 2, none⟩ = some (.int .u64 (word c 2 : Int)) ∧ w'.cell? ⟨b3, 3, none⟩ = some (.int .u64 (word c 3 : Int))) ∧ Sq b3 b5 c w w')) (by kernel_rfl) ?_ (fun hHeld => ?_)
  · (try dsimp only); exact sq_s (Sq.below HQ2.out (Below.refl _ _).drew) hc
  generalize W.drew = W2 at *
  refine wpAnyH_take (i := 0) (oi := ?o0) (v := ?v0) ?hi0 (by kernel_rfl) (by kernel_rfl) (by kernel_rfl) (fun _ _ _ h => h) ?hy0 (by assumption) ?r0
  case hi0 => simp only [List.getElem?_toArray, List.getElem?_cons_succ, List.getElem?_cons_zero]; rfl
  case hy0 => exact Or.inl ⟨by rfl, by (intro w hSw; (try dsimp only at hSw); go_simp) <;> with_reducible rfl⟩
  try simp only [Act.put, List.setIfInBounds_toArray, List.set_cons_zero, List.set_cons_succ]
  refine wpAnyH_take (i := 2) (oi := ?o2) (v := BV (mem c)) ?hi2 (by kernel_rfl) (by kernel_rfl) (by kernel_rfl) (fun _ _ _ h => h) ?hy2 (by assumption) ?r2
  case hi2 => simp only [List.getElem?_toArray, List.getElem?_cons_succ, List.getElem?_cons_zero]; rfl
  case hy2 => exact Or.inl ⟨by rfl, fun w hSw => yl (.tmp 5) rfl rfl hSw.2.2.1⟩
  try simp only [Act.put, List.setIfInBounds_toArray, List.set_cons_zero, List.set_cons_succ]
  refine wpAnyH_ready (rs := [1]) (by kernel_rfl) (by simp) ?_
  refine AllReadyH.cons (o := ?o1) ?hi1 (fun K hK => ?st1) AllReadyH.nil
  case hi1 => simp only [List.getElem?_toArray, List.getElem?_cons_succ, List.getElem?_cons_zero]; rfl
  go_simp
  (go_at_call 13; refine (CT _).mono ?_; rintro e w' ⟨rfl, hbl⟩)
  refine hK.out _ _ ?_ (fun hHeld => ?_)
  · (try dsimp only); (first | assumption | exact sq_s (Sq.below hHeld.2 hbl) hc)
  clear hK K
  try simp only [Act.put, List.setIfInBounds_toArray, List.set_cons_zero, List.set_cons_succ]
  refine wpAnyH_take (i := 3) (oi := ?o3) (v := ?v3) ?hi3 (by kernel_rfl) (by kernel_rfl) (by kernel_rfl) (fun _ _ _ h => h) ?hy3 (by assumption) ?r3
  case hi3 => simp only [List.getElem?_toArray, List.getElem?_cons_succ, List.getElem?_cons_zero]; rfl
  case hy3 => exact Or.inl ⟨by rfl, by (intro w hSw; (try dsimp only at hSw); go_simp) <;> with_reducible rfl⟩
  try simp only [Act.put, List.setIfInBounds_toArray, List.set_cons_zero, List.set_cons_succ]
  refine wpAnyH_take (i := 4) (oi := ?o4) (v := ?v4) ?hi4 (by kernel_rfl) (by kernel_rfl) (by kernel_rfl) (fun _ _ _ h => h) ?hy4 (by assumption) ?r4
  case hi4 => simp only [List.getElem?_toArray, List.getElem?_cons_succ, List.getElem?_cons_zero]; rfl
  case hy4 => exact Or.inl ⟨by rfl, by (intro w hSw; (try dsimp only at hSw); go_simp) <;> with_reducible rfl⟩
  try simp only [Act.put, List.setIfInBounds_toArray, List.set_cons_zero, List.set_cons_succ]
  refine wpAnyH_take (i := 5) (oi := ?o5) (v := ?v5) ?hi5 (by kernel_rfl) (by kernel_rfl) (by kernel_rfl) (fun _ _ _ h => h) ?hy5 (by assumption) ?r5
  case hi5 => simp only [List.getElem?_toArray, List.getElem?_cons_succ, List.getElem?_cons_zero]; rfl
  case hy5 => exact Or.inl ⟨by rfl, by (intro w hSw; (try dsimp only at hSw); go_simp) <;> with_reducible rfl⟩
  try simp only [Act.put, List.setIfInBounds_toArray, List.set_cons_zero, List.set_cons_succ]
  refine wpAnyH_take (i := 6) (oi := ?o6) (v := ?v6) ?hi6 (by kernel_rfl) (by kernel_rfl) (by kernel_rfl) (fun _ _ _ h => h) ?hy6 (by assumption) ?r6
  case hi6 => simp only [List.getElem?_toArray, List.getElem?_cons_succ, List.getElem?_cons_zero]; rfl
  case hy6 => exact Or.inl ⟨by rfl, by (intro w hSw; (try dsimp only at hSw); go_simp) <;> with_reducible rfl⟩
  try simp only [Act.put, List.setIfInBounds_toArray, List.set_cons_zero, List.set_cons_succ]
  refine wpAnyH_take (i := 7) (oi := ?o7) (v := ?v7) ?hi7 (by kernel_rfl) (by kernel_rfl) (by kernel_rfl) (fun _ _ _ h => h) ?hy7 (by assumption) ?r7
  case hi7 => simp only [List.getElem?_toArray, List.getElem?_cons_succ, List.getElem?_cons_zero]; rfl
  case hy7 => exact Or.inl ⟨by rfl, by (intro w hSw; (try dsimp only at hSw); go_simp) <;> with_reducible rfl⟩
  try simp only [Act.put, List.setIfInBounds_toArray, List.set_cons_zero, List.set_cons_succ]
  refine wpAnyH_take (i := 8) (oi := ?o8) (v := ?v8) ?hi8 (by kernel_rfl) (by kernel_rfl) (by kernel_rfl) (fun _ _ _ h => h) ?hy8 (by assumption) ?r8
  case hi8 => simp only [List.getElem?_toArray, List.getElem?_cons_succ, List.getElem?_cons_zero]; rfl
  case hy8 => exact Or.inl ⟨by rfl, by (intro w hSw; (try dsimp only at hSw); go_simp) <;> with_reducible rfl⟩
  try simp only [Act.put, List.setIfInBounds_toArray, List.set_cons_zero, List.set_cons_succ]
  refine wpAnyH_take (i := 9) (oi := ?o9) (v := ?v9) ?hi9 (by kernel_rfl) (by kernel_rfl) (by kernel_rfl) (fun _ _ _ h => h) ?hy9 (by assumption) ?r9
  case hi9 => simp only [List.getElem?_toArray, List.getElem?_cons_succ, List.getElem?_cons_zero]; rfl
  case hy9 => exact Or.inl ⟨by rfl, by (intro w hSw; (try dsimp only at hSw); go_simp) <;> with_reducible rfl⟩
  try simp only [Act.put, List.setIfInBounds_toArray, List.set_cons_zero, List.set_cons_succ]
  refine wpAnyH_done (by kernel_rfl) ?_ _
  refine NoPanic.normal ?_
  go_wp2
  go_ret
  exact ⟨rfl, hHeld.2.2.2⟩
set_option maxHeartbeats 1000000 in
theorem setClasses_gt (s : ByteArray) (hle : 100 < s.size) (w : World) (hg : 0 < w.heap.size) (hT : Tab w) :
    Calls Tryd.prog 3 #[.string s] w fun e w' => e = .returned (.bool true) ∧ Below w.heap.size w w' := by
  have HT := Lib.hid hT
  clear hT
  have CSH := fun W h1 h2 => shown_any W h1 h2
  have hI : (100 : Int) < (s.size : Int) := by omega
  go_enter Tryd.func3, Tryd.ntmps3
  go_wp2_with (first
    | (go_at_call 10; refine (CSH _ hg HT.out).mono ?_; rintro e w1 ⟨rfl, hb1⟩))
  go_ret
  exact ⟨rfl, hb1⟩
theorem setClasses_walk (s : ByteArray) (ws : s.size ≤ maxLen) (W : World) (hg : 0 < W.heap.size) (hT : Tab W) :
    Calls Tryd.prog 3 #[.string s] W fun e w' => e = .returned (.bool true) ∧ Below W.heap.size W w' := by
  by_cases hl : s.size ≤ 100
  · exact setClasses_le s hl W hg hT
  · exact setClasses_gt s (by omega) W hg hT
end Go.Proofs.YtmlgbjdohijlnaaDoor.St
