/- FuzzyDists: whatever two texts, of 100 bytes at most, their distance is the reference's. -/
import Derived.Test.YtbnjakihgmhpdaaPFuzzyDistsx1
import Derived.Test.YtbnjakihgmhpdaaFuzL
namespace Go.Proofs.Ytbnjakihgmhpdaa.Pure
open Go.RowKit Go.Proofs.YtbnjakihgmhpdaaW.PrintWords Go.Proofs.YtbnjakihgmhpdaaW.PrintLast Go.Proofs.Ytbnjakihgmhpdaa.PFuzzyDists Go.Proofs.Ytbnjakihgmhpdaa.PSh18 Go.Proofs.Ytbnjakihgmhpdaa.PFr Go.Proofs.Ytbnjakihgmhpdaa.K Go.Proofs.Ytbnjakihgmhpdaa
theorem FuzzyDists : manteletlaw18_FuzzyDists.Pure := by
  intro a b _ _
  by_cases h0 : (a.size : Int) > 100
  · refine ⟨1, ?_⟩
    unfold manteletlaw18_FuzzyDists.f
    rw [shown18]; simp only [Option.bind_some]
    rw [if_pos h0]; simp [manteletlaw18_FuzzyDists.j0]
  by_cases h1 : (b.size : Int) > 100
  · refine ⟨1, ?_⟩
    unfold manteletlaw18_FuzzyDists.f
    rw [shown18]; simp only [Option.bind_some]
    rw [if_neg h0, decide_eq_true h1]; simp [manteletlaw18_FuzzyDists.j0]
  obtain ⟨k0, hk⟩ := refDist_eq a b (by omega) (by omega)
  refine ⟨k0 + 1, ?_⟩
  unfold manteletlaw18_FuzzyDists.f
  rw [shown18]; simp only [Option.bind_some]
  rw [if_neg h0, decide_eq_false h1, manteletlaw18_FuzzyDists.j0, if_neg (by simp), if_pos rfl, distF (by omega) (by omega), hk k0 (Nat.le_refl _)]
  simp
end Go.Proofs.Ytbnjakihgmhpdaa.Pure
