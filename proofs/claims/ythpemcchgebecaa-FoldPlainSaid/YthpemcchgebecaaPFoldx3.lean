-- Written by xprint.py of this repo, over the kit's printer and contracts proved by hand.
import Derived.Test.YthpemcchgebecaaPFoldx0
namespace Go.Proofs.Ythpemcchgebecaa.PFold
open Go.RowKit Go.Proofs.YthpemcchgebecaaW.PrintWords Go.Proofs.YthpemcchgebecaaW.PrintLast Go.Proofs.YthpemcchgebecaaW.PrintMore Go.Proofs.Ythpemcchgebecaa.K
attribute [local go_sem] max2_int min2_int max_two min_two max_three min_three max_four min_four   -- for this text's walks alone
set_option linter.unusedVariables false
set_option linter.unusedSimpArgs false

/-! ### manteletref05_Mark: function 15 -/
def manteletref05_Mark.f (a0 : Int) : Option (Bool) := if a0 = 39 then (some true) else (some (a0 == 8217))
set_option maxHeartbeats 8000000 in
set_option maxRecDepth 100000 in
theorem manteletref05_Mark.calls (a0 : Int) (r : Bool) (w : World) (h : manteletref05_Mark.f a0 = some r) :
    Calls Try.prog 15 #[.int .i32 a0] w fun e w' => e = .returned (.bool r) ∧ Drawn0 w w' := by
  have H : (if a0 = 39 then (some true) else (some (a0 == 8217))) = some r := h
  clear h
  by_cases c2 : a0 = 39
  · rw [if_pos c2] at H
    have c2b0 : (a0 == 39) = true := beq_iff_eq.mpr c2
    have c2b1 : (a0 != 39) = false := bne_eq_false_iff_eq.mpr c2
    clear c2
    obtain rfl := Option.some.inj H
    go_enter Try.func15, Try.ntmps15
    go_wp2
    go_ret
    exact ⟨by first | rfl | (simp; done) | (simp [*]; done), by repeat (first | exact Drawn0.refl _ | apply Drawn0.step)⟩
  · rw [if_neg c2] at H
    have c2b0 : (a0 == 39) = false := beq_eq_false_iff_ne.mpr c2
    have c2b1 : (a0 != 39) = true := bne_iff_ne.mpr c2
    obtain rfl := Option.some.inj H
    go_enter Try.func15, Try.ntmps15
    go_wp2
    go_ret
    exact ⟨by first | rfl | (simp; done) | (simp [*]; done), by repeat (first | exact Drawn0.refl _ | apply Drawn0.step)⟩

end Go.Proofs.Ythpemcchgebecaa.PFold
