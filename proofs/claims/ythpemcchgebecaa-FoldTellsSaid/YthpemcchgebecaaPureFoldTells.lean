/- FoldTells: whatever code point, and whatever text: letter, mark, fold and text are the document's. -/
import Derived.Test.YthpemcchgebecaaPFoldTellsx1
import Derived.Test.YthpemcchgebecaaFoldL
namespace Go.Proofs.Ythpemcchgebecaa.Pure
open Go.RowKit Go.Proofs.YthpemcchgebecaaW.PrintWords Go.Proofs.YthpemcchgebecaaW.PrintLast Go.Proofs.Ythpemcchgebecaa.PFoldTells Go.Proofs.Ythpemcchgebecaa.PFold Go.Proofs.Ythpemcchgebecaa.PSh05 Go.Proofs.Ythpemcchgebecaa.K Go.Proofs.Ythpemcchgebecaa
theorem FoldTells : manteletlaw05_FoldTells.Pure := by
  intro a0 a1 _ _
  refine ⟨8 + 7 + (Utf.runesZ a1).length, ?_⟩
  unfold manteletlaw05_FoldTells.f
  rw [shown_true _ (by omega)]
  simp only [Option.bind_some]
  by_cases h : (a1.size : Int) > 20000
  · rw [if_pos h]
  · rw [if_neg h, if_pos trivial, ref_Letter_eq]
    have e1 : fold_Letter.f a0 = some (isLetter a0) := rfl
    rw [e1, fold_Fold_eq _ (by omega), mark_same, mark_of, text_of _ (by omega), refText_eq _ (by omega)]
    rw [show 8 + 7 + (Utf.runesZ a1).length = (9 + (Utf.runesZ a1).length) + 6 by omega, ref_Fold_at]
    simp
end Go.Proofs.Ythpemcchgebecaa.Pure
