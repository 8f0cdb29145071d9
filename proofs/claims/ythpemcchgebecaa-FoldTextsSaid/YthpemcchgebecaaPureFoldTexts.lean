/- FoldTexts: whatever two texts of at most 2000 runes: a folded text is folded no more; folding two, one behind the other, is folding each; as many runes stay. -/
import Derived.Test.YthpemcchgebecaaPFoldTextsx1
import Derived.Test.YthpemcchgebecaaFoldL
namespace Go.Proofs.Ythpemcchgebecaa.Pure
open Go.RowKit Go.Proofs.YthpemcchgebecaaW.PrintWords Go.Proofs.YthpemcchgebecaaW.PrintLast Go.Proofs.Ythpemcchgebecaa.PFoldTexts Go.Proofs.Ythpemcchgebecaa.PFold Go.Proofs.Ythpemcchgebecaa.PSh05 Go.Proofs.Ythpemcchgebecaa.K Go.Proofs.Ythpemcchgebecaa
theorem FoldTexts : manteletlaw05_FoldTexts.Pure := by
  intro l0 l1 _ _ _ _ _ _
  refine ⟨20, ?_⟩
  unfold manteletlaw05_FoldTexts.f
  rw [shown_true _ (by omega)]
  simp only [Option.bind_some]
  by_cases h0 : (l0.length : Int) > 2000
  · rw [if_pos h0, manteletlaw05_FoldTexts.j0, if_pos rfl]
  · rw [if_neg h0]
    by_cases h1 : (l1.length : Int) > 2000
    · rw [decide_eq_true h1, manteletlaw05_FoldTexts.j0, if_pos rfl]
    · rw [decide_eq_false h1, manteletlaw05_FoldTexts.j0, if_neg (by decide), text_runes l0 (by omega), text_runes l1 (by omega)]
      simp only [Option.bind_some]
      have es : ∀ l : List Int, ((l.map Utf.sane).map foldZ).map Utf.sane = (l.map Utf.sane).map foldZ := by
        intro l
        simp only [List.map_map]
        apply List.map_congr_left
        intro c _
        exact sane_fold c
      have ef : ∀ l : List Int, ((l.map Utf.sane).map foldZ).map foldZ = (l.map Utf.sane).map foldZ := by
        intro l
        simp only [List.map_map]
        apply List.map_congr_left
        intro c _
        exact fold_twice _
      have hsz := Utf.size_bytes ((l0.map Utf.sane).map foldZ)
      have hsz1 := Utf.size_bytes ((l1.map Utf.sane).map foldZ)
      have hsz2 := Utf.size_bytes l0
      have hsz3 := Utf.size_bytes l1
      simp only [List.length_map] at hsz hsz1
      rw [if_pos trivial, text_runes _ (by simp; omega), es, ef]
      simp only [Option.bind_some]
      rw [if_pos trivial, if_pos (by omega), ← Utf.runesBytes_append, text_runes _ (by simp; omega)]
      simp only [Option.bind_some]
      rw [if_pos (by omega), if_pos (by rw [List.map_append, List.map_append, Utf.runesBytes_append]), if_pos (by omega), Utf.runesZ_bytes]
      simp
end Go.Proofs.Ythpemcchgebecaa.Pure
