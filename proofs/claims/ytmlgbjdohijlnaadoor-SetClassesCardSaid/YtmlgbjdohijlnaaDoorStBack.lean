/- Of the bytes of a set, of what is not in it, and of two sets: plain facts for SetBack and SetOrs. -/
import Derived.Test.YtmlgbjdohijlnaaDoorStFold
namespace Go.Proofs.YtmlgbjdohijlnaaDoor.St
open Go.RowKit
set_option linter.unusedVariables false
set_option linter.unusedSimpArgs false
theorem not_not {s : List Nat} (h : Wf s) : notW (notW s) = s := by
  apply ext_mem (wf_notW (wf_notW h)) h
  intro c hc
  rw [mem_notW (wf_notW h) hc, mem_notW h hc, Bool.not_not]
theorem of_bytes {s : List Nat} (h : Wf s) : ofL (bytesL s) = s := by
  apply ext_mem (wf_ofL _) h
  intro c hc
  rw [mem_ofL, Bool.eq_iff_iff, List.any_eq_true]
  constructor
  · rintro ⟨d, hd, he⟩
    unfold bytesL at hd
    obtain ⟨n, hn, rfl⟩ := List.mem_map.1 hd
    have hn2 := bytesN_lt hn
    rw [ofNat_toNat hn2] at he
    obtain rfl : c = n := by simpa using he
    unfold bytesN at hn
    exact (List.mem_filter.1 hn).2
  · intro hm
    refine ⟨UInt8.ofNat c, ?_, by rw [ofNat_toNat hc]; simp⟩
    unfold bytesL bytesN
    exact List.mem_map.2 ⟨c, List.mem_filter.2 ⟨List.mem_range.2 hc, hm⟩, rfl⟩
theorem or_not {s : List Nat} (h : Wf s) : orL [s, notW s] = notW zeroW := by
  apply ext_mem (wf_orL (wf_two h (wf_notW h))) (wf_notW wf_zero)
  intro c hc
  rw [mem_orL (wf_two h (wf_notW h)) hc, mem_notW wf_zero hc, mem_zero]
  simp [mem_notW h hc]
theorem filter_sum (p : Nat → Bool) : ∀ l : List Nat, (l.filter p).length + (l.filter fun x => !p x).length = l.length
  | [] => rfl
  | x :: r => by
    have := filter_sum p r
    cases h : p x <;> simp [List.filter_cons, h] <;> omega
theorem size_not {s : List Nat} (h : Wf s) : sizeW s + sizeW (notW s) = 256 := by
  unfold sizeW bytesN
  have e : (List.range 256).filter (mem (notW s)) = (List.range 256).filter fun c => !mem s c := by
    apply List.filter_congr
    intro c hc
    exact mem_notW h (List.mem_range.1 hc)
  rw [e, filter_sum]; simp
theorem or_swap {s t : List Nat} (hs : Wf s) (ht : Wf t) : orL [s, t] = orL [t, s] := by
  apply ext_mem (wf_orL (wf_two hs ht)) (wf_orL (wf_two ht hs))
  intro c hc
  rw [mem_orL (wf_two hs ht) hc, mem_orL (wf_two ht hs) hc]
  simp [Bool.or_comm]
theorem or_again {s t : List Nat} (hs : Wf s) (ht : Wf t) : orL [orL [s, t], s] = orL [s, t] := by
  have hu := wf_orL (wf_two hs ht)
  apply ext_mem (wf_orL (wf_two hu hs)) hu
  intro c hc
  rw [mem_orL (wf_two hu hs) hc]
  simp only [List.any_cons, List.any_nil, Bool.or_false]
  rw [mem_orL (wf_two hs ht) hc]
  simp only [List.any_cons, List.any_nil, Bool.or_false]
  cases mem s c <;> cases mem t c <;> rfl
theorem mem_or {s t : List Nat} (hs : Wf s) (ht : Wf t) {c : Nat} (hc : c < 256) : mem (orL [s, t]) c = (mem s c || mem t c) := by
  rw [mem_orL (wf_two hs ht) hc]; simp
def bothW (s t : List Nat) : List Nat := notW (orL [notW s, notW t])
theorem size_or {s t : List Nat} (hs : Wf s) (ht : Wf t) : sizeW (orL [s, t]) + sizeW (bothW s t) = sizeW s + sizeW t := by
  unfold sizeW bytesN bothW
  have e1 : (List.range 256).filter (mem (orL [s, t])) = (List.range 256).filter fun c => mem s c || mem t c := by
    apply List.filter_congr; intro c hc; exact mem_or hs ht (List.mem_range.1 hc)
  have e2 : (List.range 256).filter (mem (notW (orL [notW s, notW t]))) = (List.range 256).filter fun c => mem s c && mem t c := by
    apply List.filter_congr; intro c hc
    have hc := List.mem_range.1 hc
    rw [mem_notW (wf_orL (wf_two (wf_notW hs) (wf_notW ht))) hc, mem_or (wf_notW hs) (wf_notW ht) hc, mem_notW hs hc, mem_notW ht hc]
    cases mem s c <;> cases mem t c <;> rfl
  rw [e1, e2]
  generalize List.range 256 = l
  induction l with
  | nil => rfl
  | cons x r ih => cases h : mem s x <;> cases h2 : mem t x <;> simp [List.filter_cons, h, h2] <;> omega
end Go.Proofs.YtmlgbjdohijlnaaDoor.St
