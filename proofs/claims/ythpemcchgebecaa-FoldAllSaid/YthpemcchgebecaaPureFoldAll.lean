/- FoldAll: whatever code point to begin with: 700 of them are told as the document tells them. -/
import Derived.Test.YthpemcchgebecaaPFoldAllx1
import Derived.Test.YthpemcchgebecaaFoldL
namespace Go.Proofs.Ythpemcchgebecaa.Pure
open Go.RowKit Go.Proofs.YthpemcchgebecaaW.PrintWords Go.Proofs.YthpemcchgebecaaW.PrintLast Go.Proofs.Ythpemcchgebecaa.PFoldAll Go.Proofs.Ythpemcchgebecaa.PFold Go.Proofs.Ythpemcchgebecaa.PSh05 Go.Proofs.Ythpemcchgebecaa.K Go.Proofs.Ythpemcchgebecaa
theorem run (x0 : Int) : ∀ (d i k : Nat), d + i = 700 → manteletlaw05_FoldAll.l0 (k + 20 + d) x0 true (i : Int) = some true := by
  intro d
  induction d with
  | zero =>
    intro i k hi
    rw [manteletlaw05_FoldAll.l0, if_neg (by omega)]
  | succ d ih =>
    intro i k hi
    rw [show k + 20 + (d + 1) = (k + 20 + d) + 1 by omega, manteletlaw05_FoldAll.l0, if_pos (by omega)]
    generalize wrap32 (wrap32 x0 + wrap32 (i : Int)) = c
    have e1 : fold_Letter.f c = some (isLetter c) := rfl
    rw [e1, ref_Letter_eq, fold_Fold_eq _ (by omega), mark_same, mark_of, show k + 20 + d = (k + 14 + d) + 6 by omega, ref_Fold_at]
    simp only [Option.bind_some, bne_self_eq_false, Bool.false_eq_true, if_false, if_true]
    rw [show wrap64 ((i : Int) + 1) = ((i + 1 : Nat) : Int) by unfold wrap64; omega, show k + 14 + d + 6 = k + 20 + d by omega]
    exact ih (i + 1) k (by omega)
theorem fin (K : Nat) (a0 : Int) (hK : 14 < K) (h : manteletlaw05_FoldAll.l0 K a0 true ((0 : Nat) : Int) = some true) : manteletlaw05_FoldAll.f K a0 = some true := by
  unfold manteletlaw05_FoldAll.f
  rw [shown_true K hK]
  exact h
theorem FoldAll : manteletlaw05_FoldAll.Pure := fun a0 _ => ⟨0 + 20 + 700, fin (0 + 20 + 700) a0 (by omega) (run a0 700 0 0 (by omega))⟩
end Go.Proofs.Ythpemcchgebecaa.Pure
