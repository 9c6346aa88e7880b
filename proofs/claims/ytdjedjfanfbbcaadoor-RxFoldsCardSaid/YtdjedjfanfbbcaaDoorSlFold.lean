/- What is in a folded set: plain facts. -/
import Derived.Test.YtdjedjfanfbbcaaDoorSl9
namespace Go.Proofs.YtdjedjfanfbbcaaDoor.St
open Go.RowKit
set_option linter.unusedVariables false
set_option linter.unusedSimpArgs false
def lowN (b : Nat) : Nat := b ||| 32
def upN (b : Nat) : Nat := (b ||| 32) &&& 223
def adds (b c : Nat) : Bool := decide (97 ≤ lowN b ∧ lowN b ≤ 122) && (c == lowN b || c == upN b)
theorem low_low : ∀ b, b < 256 → lowN (lowN b) = lowN b ∧ lowN (upN b) = lowN b ∧ lowN b < 256 ∧ upN b < 256 := by decide +kernel
theorem letter_low : ∀ b, b < 256 → 65 ≤ b → b ≤ 90 → lowN b = b + 32 ∧ lowN (b + 32) = b + 32 ∧ upN b = b ∧ upN (b + 32) = b := by decide +kernel
theorem adds_low {a b : Nat} (ha : a < 256) (h : adds a b = true) : lowN b = lowN a := by
  simp only [adds, Bool.and_eq_true, Bool.or_eq_true, beq_iff_eq] at h
  obtain ⟨_, rfl | rfl⟩ := h
  · exact (low_low a ha).1
  · exact (low_low a ha).2.1
theorem adds_of_low {a b c : Nat} (h : lowN a = lowN b) : adds a c = adds b c := by
  have : upN a = upN b := by unfold upN; unfold lowN at h; rw [h]
  unfold adds; rw [h, this]
theorem mem_step {s : List Nat} (h : Wf s) (b : UInt8) {c : Nat} (hc : c < 256) : mem (foldStep s b) c = (mem s c || adds b.toNat c) := by
  have e1 : (b ||| 32).toNat = lowN b.toNat := by rw [UInt8.toNat_or]; rfl
  have e2 : ((b ||| 32) &&& 223).toNat = upN b.toNat := by rw [UInt8.toNat_and, UInt8.toNat_or]; rfl
  unfold foldStep adds
  rw [e1]
  split
  · rename_i hl
    rw [mem_orL (wf_two h (wf_ofL _)) hc]
    simp only [List.any_cons, List.any_nil, Bool.or_false, mem_ofL, e1, e2, hl, and_self, decide_true, Bool.true_and]
  · rename_i hl
    simp [hl]
theorem mem_fold : ∀ (l : List UInt8) {s : List Nat}, Wf s → ∀ {c : Nat}, c < 256 → mem (l.foldl foldStep s) c = (mem s c || l.any fun b => adds b.toNat c)
  | [], _, _, _, _ => by simp
  | b :: r, s, h, c, hc => by
    simp only [List.foldl_cons, List.any_cons]
    rw [mem_fold r (wf_foldStep h b) hc, mem_step h b hc, Bool.or_assoc]
theorem mem_foldW {s : List Nat} (h : Wf s) {c : Nat} (hc : c < 256) : mem (foldW s) c = true ↔ mem s c = true ∨ ∃ b, b < 256 ∧ mem s b = true ∧ adds b c = true := by
  unfold foldW
  rw [mem_fold _ h hc, Bool.or_eq_true, List.any_eq_true]
  constructor
  · rintro (h1 | ⟨b, hb, h1⟩)
    · exact Or.inl h1
    · refine Or.inr ⟨b.toNat, UInt8.toNat_lt b, ?_, h1⟩
      unfold bytesL at hb
      obtain ⟨n, hn, rfl⟩ := List.mem_map.1 hb
      rw [ofNat_toNat (bytesN_lt hn)]
      unfold bytesN at hn
      exact (List.mem_filter.1 hn).2
  · rintro (h1 | ⟨b, hb, h1, h2⟩)
    · exact Or.inl h1
    · refine Or.inr ⟨UInt8.ofNat b, ?_, by rw [ofNat_toNat hb]; exact h2⟩
      unfold bytesL bytesN
      exact List.mem_map.2 ⟨b, List.mem_filter.2 ⟨List.mem_range.2 hb, h1⟩, rfl⟩
theorem wf_foldW' {ws : List Nat} (h : Wf ws) : Wf (foldW ws) := wf_foldl _ h
theorem foldW_again {s : List Nat} (h : Wf s) : foldW (foldW s) = foldW s := by
  apply ext_mem (wf_foldW' (wf_foldW' h)) (wf_foldW' h)
  intro c hc
  rw [Bool.eq_iff_iff, mem_foldW (wf_foldW' h) hc]
  constructor
  · rintro (h1 | ⟨b, hb, h1, h2⟩)
    · exact h1
    · rw [mem_foldW h hb] at h1
      rw [mem_foldW h hc]
      rcases h1 with h1 | ⟨a, ha, h1, h3⟩
      · exact Or.inr ⟨b, hb, h1, h2⟩
      · exact Or.inr ⟨a, ha, h1, by rw [← adds_of_low (adds_low ha h3)]; exact h2⟩
  · exact Or.inl
theorem or_fold {s : List Nat} (h : Wf s) : orL [s, foldW s] = foldW s := by
  apply ext_mem (wf_orL (wf_two h (wf_foldW' h))) (wf_foldW' h)
  intro c hc
  rw [mem_orL (wf_two h (wf_foldW' h)) hc, Bool.eq_iff_iff]
  simp only [List.any_cons, List.any_nil, Bool.or_false, Bool.or_eq_true]
  constructor
  · rintro (h1 | h1)
    · rw [mem_foldW h hc]; exact Or.inl h1
    · exact h1
  · exact Or.inr
theorem fold_letter {s : List Nat} (h : Wf s) {b : Nat} (h1 : 65 ≤ b) (h2 : b ≤ 90) : mem (foldW s) b = mem (foldW s) (b + 32) := by
  obtain ⟨e1, e2, e3, e4⟩ := letter_low b (by omega) h1 h2
  have hb : adds b b = true ∧ adds b (b + 32) = true := by
    constructor <;> simp [adds, e1, e3] <;> omega
  have hb' : adds (b + 32) b = true ∧ adds (b + 32) (b + 32) = true := by
    constructor <;> simp [adds, e2, e4] <;> omega
  rw [Bool.eq_iff_iff, mem_foldW h (by omega), mem_foldW h (by omega)]
  constructor
  · rintro (h1 | ⟨a, ha, h1, h3⟩)
    · exact Or.inr ⟨b, by omega, h1, hb.2⟩
    · exact Or.inr ⟨a, ha, h1, by rw [← adds_of_low (adds_low ha h3)]; exact hb.2⟩
  · rintro (h1 | ⟨a, ha, h1, h3⟩)
    · exact Or.inr ⟨b + 32, by omega, h1, hb'.1⟩
    · exact Or.inr ⟨a, ha, h1, by rw [← adds_of_low (adds_low ha h3)]; exact hb'.1⟩
end Go.Proofs.YtdjedjfanfbbcaaDoor.St
