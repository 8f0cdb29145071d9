/- FoldTwice: whatever code point: folded twice is folded once; letters stay letters; others stay; no mark is a letter. -/
import Derived.Test.YthpemcchgebecaaPFoldTwicex1
import Derived.Test.YthpemcchgebecaaFoldL
namespace Go.Proofs.Ythpemcchgebecaa.Pure
open Go.RowKit Go.Proofs.YthpemcchgebecaaW.PrintWords Go.Proofs.YthpemcchgebecaaW.PrintLast Go.Proofs.Ythpemcchgebecaa.PFoldTwice Go.Proofs.Ythpemcchgebecaa.PFold Go.Proofs.Ythpemcchgebecaa.PSh05 Go.Proofs.Ythpemcchgebecaa.K Go.Proofs.Ythpemcchgebecaa
theorem FoldTwice : manteletlaw05_FoldTwice.Pure := by
  intro a0 _
  refine ⟨20, ?_⟩
  unfold manteletlaw05_FoldTwice.f
  have e1 : ∀ c, fold_Letter.f c = some (isLetter c) := fun _ => rfl
  rw [shown_true _ (by omega), fold_Fold_eq _ (by omega)]
  simp only [Option.bind_some, e1]
  rw [if_pos trivial, fold_Fold_eq _ (by omega), fold_twice, fold_letter]
  simp only [Option.bind_some]
  rw [if_pos trivial, mark_of]
  simp only [Option.bind_some, beq_self_eq_true, if_true]
  rcases hl : isLetter a0 with _ | _
  · rcases fold_other a0 with h | h
    · rw [hl] at h; cases h
    · simp [h]
  · have hm : ¬ (a0 = 39 ∨ a0 = 8217) := fun h => by rw [fold_mark a0 h] at hl; cases hl
    simp [hm]
end Go.Proofs.Ythpemcchgebecaa.Pure
