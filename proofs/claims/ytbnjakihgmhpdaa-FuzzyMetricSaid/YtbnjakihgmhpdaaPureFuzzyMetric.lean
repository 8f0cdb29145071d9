/- FuzzyMetric: whatever three texts, of 100 bytes at most: what fuzzy.Dist tells is a distance of their runes. -/
import Derived.Test.YtbnjakihgmhpdaaPFuzzyMetricx1
import Derived.Test.YtbnjakihgmhpdaaFuzL
namespace Go.Proofs.Ytbnjakihgmhpdaa.Pure
open Go.RowKit Go.Proofs.YtbnjakihgmhpdaaW.PrintWords Go.Proofs.YtbnjakihgmhpdaaW.PrintLast Go.Proofs.Ytbnjakihgmhpdaa.PFuzzyMetric Go.Proofs.Ytbnjakihgmhpdaa.PSh18 Go.Proofs.Ytbnjakihgmhpdaa.K Go.Proofs.Ytbnjakihgmhpdaa
theorem FuzzyMetric : manteletlaw18_FuzzyMetric.Pure := by
  intro a b c _ _ _
  refine ⟨1, ?_⟩
  unfold manteletlaw18_FuzzyMetric.f
  rw [shown18]; simp only [Option.bind_some]
  by_cases h0 : (a.size : Int) > 100
  · rw [if_pos h0]; simp [manteletlaw18_FuzzyMetric.j0]
  rw [if_neg h0]
  by_cases h1 : (b.size : Int) > 100
  · rw [if_pos h1]; simp [manteletlaw18_FuzzyMetric.j0]
  rw [if_neg h1]
  by_cases h2 : (c.size : Int) > 100
  · rw [decide_eq_true h2]; simp [manteletlaw18_FuzzyMetric.j0]
  rw [decide_eq_false h2, manteletlaw18_FuzzyMetric.j0, if_neg (by simp), distF (by omega) (by omega), distF (by omega) (by omega), distF (by omega) (by omega), distF (by omega) (by omega)]
  simp only [Option.bind_some]
  rw [if_pos (by omega), if_pos (by omega), if_pos trivial]
  have hla := runesZ_le a
  have hlb := runesZ_le b
  have heq : ((((Lev.dist (Utf.runesZ a) (Utf.runesZ b) : Nat) : Int) == 0) == ((runesBytes (Utf.runesZ a)).toList == (runesBytes (Utf.runesZ b)).toList)) = true := by
    by_cases h : Utf.runesZ a = Utf.runesZ b
    · rw [h, Lev.dist_self]; simp
    · have hd : Lev.dist (Utf.runesZ a) (Utf.runesZ b) ≠ 0 := fun hd => h (Lev.dist_eq_zero.1 hd)
      have hb : (runesBytes (Utf.runesZ a)).toList ≠ (runesBytes (Utf.runesZ b)).toList := fun hb => h (Utf.bytes_inj (by
        rw [ByteArray.toList_eq, ByteArray.toList_eq] at hb
        exact ByteArray.ext (Array.toList_inj.1 hb)))
      rw [beq_eq_false_iff_ne.2 (show ((Lev.dist (Utf.runesZ a) (Utf.runesZ b) : Nat) : Int) ≠ 0 from fun hz => hd (Int.ofNat_eq_zero.1 hz)), beq_eq_false_iff_ne.2 hb]
      rfl
  rw [if_pos heq, Lev.dist_comm (Utf.runesZ b) (Utf.runesZ a), if_pos rfl]
  clear heq
  have ht := Lev.dist_tri (Utf.runesZ a) (Utf.runesZ b) (Utf.runesZ c)
  have hm := Lev.dist_max (Utf.runesZ a) (Utf.runesZ b)
  have hm2 := Lev.dist_max (Utf.runesZ b) (Utf.runesZ c)
  have hl := Lev.dist_len (Utf.runesZ a) (Utf.runesZ b)
  have hlc := runesZ_le c
  generalize Lev.dist (Utf.runesZ a) (Utf.runesZ b) = x at *
  generalize Lev.dist (Utf.runesZ a) (Utf.runesZ c) = y at *
  generalize Lev.dist (Utf.runesZ b) (Utf.runesZ c) = z at *
  generalize (Utf.runesZ a).length = n at *
  generalize (Utf.runesZ b).length = m at *
  generalize (Utf.runesZ c).length = q at *
  have e1 : wrap64 ((x : Int) + (z : Int)) = (x : Int) + z := w64 _ (by omega) (by omega)
  have e2 : wrap64 ((n : Int) - (m : Int)) = (n : Int) - m := by unfold wrap64; omega
  have e3 : wrap64 ((m : Int) - (n : Int)) = (m : Int) - n := by unfold wrap64; omega
  rw [e1, e2, e3]
  clear e1 e2 e3
  rw [if_pos (by omega), if_pos (by unfold mx; split <;> omega), decide_eq_true (show (x : Int) ≥ mx ((n : Int) - m) ((m : Int) - n) by unfold mx; split <;> omega)]
end Go.Proofs.Ytbnjakihgmhpdaa.Pure
