/- The reference's Parse: all of it. -/
import Derived.Test.YtcijhfdccbgcpaaDoorAdRPb
import Derived.Test.YtcijhfdccbgcpaaDoorAdRPp
namespace Go.Proofs.YtcijhfdccbgcpaaDoor.Ad
open Go.RowKit Go.Shelf
set_option linter.unusedVariables false
set_option linter.unusedSimpArgs false
theorem rparse_any (s : List UInt8) (w : World) (hl : s.length ≤ 1000) :
    Calls Tryd.prog 17 #[S s] w fun e w' => e = .returned (PV (parseR s)) ∧ Below w.heap.size w w' := by
  rcases List.eq_nil_or_concat s with rfl | ⟨l, z, rfl⟩
  · cases ha : readR (cutB 44 []).1 with
    | mk a ya =>
      cases hb : readR (cutB 44 []).2.1 with
      | mk b yb =>
        cases ya with
        | false => exact rparse_e_na _ _ _ _ yb _ a b w hl rfl ha hb rfl trivial
        | true =>
          cases yb with
          | false => exact rparse_e_nb _ _ _ _ _ a b w hl rfl ha hb rfl trivial
          | true =>
            by_cases hm : May a b
            · by_cases hu : textA a ++ tailB b ++ tailN false = []
              · exact rparse_e_ok _ _ _ _ a b w hl rfl ha hb (by unfold printR; rw [if_pos hm]) hu
              · exact rparse_e_nu _ _ _ _ a b w hl rfl ha hb (by unfold printR; rw [if_pos hm]) hu
            · exact rparse_e_ne _ _ _ _ a b w hl rfl ha hb (by unfold printR; rw [if_neg hm]) trivial
  · rw [List.concat_eq_append] at hl ⊢
    by_cases hz : z = 33
    · subst hz
      cases ha : readR (cutB 44 l).1 with
      | mk a ya =>
        cases hb : readR (cutB 44 l).2.1 with
        | mk b yb =>
          cases ya with
          | false => exact rparse_b_na l _ _ _ _ _ yb _ a b w rfl hl rfl ha hb rfl trivial
          | true =>
            cases yb with
            | false => exact rparse_b_nb l _ _ _ _ _ _ a b w rfl hl rfl ha hb rfl trivial
            | true =>
              by_cases hm : May a b
              · by_cases hu : textA a ++ tailB b ++ tailN true = (l ++ [33])
                · exact rparse_b_ok l _ _ _ _ _ a b w rfl hl rfl ha hb (by unfold printR; rw [if_pos hm]) hu
                · exact rparse_b_nu l _ _ _ _ _ a b w rfl hl rfl ha hb (by unfold printR; rw [if_pos hm]) hu
              · exact rparse_b_ne l _ _ _ _ _ a b w rfl hl rfl ha hb (by unfold printR; rw [if_neg hm]) trivial
    · cases ha : readR (cutB 44 (l ++ [z])).1 with
      | mk a ya =>
        cases hb : readR (cutB 44 (l ++ [z])).2.1 with
        | mk b yb =>
          cases ya with
          | false => exact rparse_p_na l _ z _ _ _ _ yb _ a b w rfl hz hl rfl ha hb rfl trivial
          | true =>
            cases yb with
            | false => exact rparse_p_nb l _ z _ _ _ _ _ a b w rfl hz hl rfl ha hb rfl trivial
            | true =>
              by_cases hm : May a b
              · by_cases hu : textA a ++ tailB b ++ tailN false = (l ++ [z])
                · exact rparse_p_ok l _ z _ _ _ _ a b w rfl hz hl rfl ha hb (by unfold printR; rw [if_pos hm]) hu
                · exact rparse_p_nu l _ z _ _ _ _ a b w rfl hz hl rfl ha hb (by unfold printR; rw [if_pos hm]) hu
              · exact rparse_p_ne l _ z _ _ _ _ a b w rfl hz hl rfl ha hb (by unfold printR; rw [if_neg hm]) trivial
end Go.Proofs.YtcijhfdccbgcpaaDoor.Ad
