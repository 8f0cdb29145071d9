/- TokenAll: whatever bytes (5000 at most): the words told are the document's. (The texts that the proof is made of, one behind the other: part 5 of 13.) -/
import Derived.Test.YthpemcchgebecaaZTokenAlla
import Derived.Test.YthpemcchgebecaaZTokenAllb
import Derived.Test.YthpemcchgebecaaZTokenAllc
import Derived.Test.YthpemcchgebecaaZTokenAlld
namespace Go.Proofs.Ythpemcchgebecaa.PFold
open Go.RowKit Go.Proofs.YthpemcchgebecaaW.PrintWords Go.Proofs.YthpemcchgebecaaW.PrintLast Go.Proofs.YthpemcchgebecaaW.PrintMore Go.Proofs.Ythpemcchgebecaa.K
attribute [local go_sem] max2_int min2_int max_two min_two max_three min_three max_four min_four   -- for this text's walks alone
set_option linter.unusedVariables false
set_option linter.unusedSimpArgs false

def manteletref05_Letter.f (a0 : Int) : Option (Bool) := if a0 ≥ 65 then (if a0 ≤ 90 then (if a0 ≥ 192 then (if a0 ≤ 383 then (if a0 = 215 then (if a0 ≥ 913 then (if a0 ≤ 974 then (some true) else (some true)) else (some true)) else (if a0 ≥ 913 then (if a0 ≤ 974 then (some true) else (some true)) else (some true))) else (if a0 ≥ 913 then (if a0 ≤ 974 then (some true) else (some true)) else (some true))) else (if a0 ≥ 913 then (if a0 ≤ 974 then (some true) else (some true)) else (some true))) else (if a0 ≥ 97 then (if a0 ≥ 192 then (if a0 ≤ 383 then (if a0 = 215 then (if a0 ≥ 913 then (if a0 ≤ 974 then (if a0 ≤ 122 then (some true) else (if a0 = 930 then (if a0 ≥ 1024 then (some (decide (a0 ≤ 1119))) else (some false)) else (some true))) else (if a0 ≤ 122 then (some true) else (if a0 ≥ 1024 then (some (decide (a0 ≤ 1119))) else (some false)))) else (if a0 ≤ 122 then (some true) else (if a0 ≥ 1024 then (some (decide (a0 ≤ 1119))) else (some false)))) else (if a0 ≥ 913 then (if a0 ≤ 974 then (if a0 ≤ 122 then (some true) else (if a0 = 247 then (if a0 = 930 then (if a0 ≥ 1024 then (some (decide (a0 ≤ 1119))) else (some false)) else (some true)) else (some true))) else (if a0 ≤ 122 then (some true) else (if a0 = 247 then (if a0 ≥ 1024 then (some (decide (a0 ≤ 1119))) else (some false)) else (some true)))) else (if a0 ≤ 122 then (some true) else (if a0 = 247 then (if a0 ≥ 1024 then (some (decide (a0 ≤ 1119))) else (some false)) else (some true))))) else (if a0 ≥ 913 then (if a0 ≤ 974 then (if a0 ≤ 122 then (some true) else (if a0 = 930 then (if a0 ≥ 1024 then (some (decide (a0 ≤ 1119))) else (some false)) else (some true))) else (if a0 ≤ 122 then (some true) else (if a0 ≥ 1024 then (some (decide (a0 ≤ 1119))) else (some false)))) else (if a0 ≤ 122 then (some true) else (if a0 ≥ 1024 then (some (decide (a0 ≤ 1119))) else (some false))))) else (if a0 ≥ 913 then (if a0 ≤ 974 then (if a0 ≤ 122 then (some true) else (if a0 = 930 then (if a0 ≥ 1024 then (some (decide (a0 ≤ 1119))) else (some false)) else (some true))) else (if a0 ≤ 122 then (some true) else (if a0 ≥ 1024 then (some (decide (a0 ≤ 1119))) else (some false)))) else (if a0 ≤ 122 then (some true) else (if a0 ≥ 1024 then (some (decide (a0 ≤ 1119))) else (some false))))) else (if a0 ≥ 192 then (if a0 ≤ 383 then (if a0 = 215 then (if a0 ≥ 913 then (if a0 ≤ 974 then (if a0 = 930 then (if a0 ≥ 1024 then (some (decide (a0 ≤ 1119))) else (some false)) else (some true)) else (if a0 ≥ 1024 then (some (decide (a0 ≤ 1119))) else (some false))) else (if a0 ≥ 1024 then (some (decide (a0 ≤ 1119))) else (some false))) else (if a0 ≥ 913 then (if a0 ≤ 974 then (if a0 = 247 then (if a0 = 930 then (if a0 ≥ 1024 then (some (decide (a0 ≤ 1119))) else (some false)) else (some true)) else (some true)) else (if a0 = 247 then (if a0 ≥ 1024 then (some (decide (a0 ≤ 1119))) else (some false)) else (some true))) else (if a0 = 247 then (if a0 ≥ 1024 then (some (decide (a0 ≤ 1119))) else (some false)) else (some true)))) else (if a0 ≥ 913 then (if a0 ≤ 974 then (if a0 = 930 then (if a0 ≥ 1024 then (some (decide (a0 ≤ 1119))) else (some false)) else (some true)) else (if a0 ≥ 1024 then (some (decide (a0 ≤ 1119))) else (some false))) else (if a0 ≥ 1024 then (some (decide (a0 ≤ 1119))) else (some false)))) else (if a0 ≥ 913 then (if a0 ≤ 974 then (if a0 = 930 then (if a0 ≥ 1024 then (some (decide (a0 ≤ 1119))) else (some false)) else (some true)) else (if a0 ≥ 1024 then (some (decide (a0 ≤ 1119))) else (some false))) else (if a0 ≥ 1024 then (some (decide (a0 ≤ 1119))) else (some false)))))) else (if a0 ≥ 97 then (if a0 ≥ 192 then (if a0 ≤ 383 then (if a0 = 215 then (if a0 ≥ 913 then (if a0 ≤ 974 then (if a0 ≤ 122 then (some true) else (if a0 = 930 then (if a0 ≥ 1024 then (some (decide (a0 ≤ 1119))) else (some false)) else (some true))) else (if a0 ≤ 122 then (some true) else (if a0 ≥ 1024 then (some (decide (a0 ≤ 1119))) else (some false)))) else (if a0 ≤ 122 then (some true) else (if a0 ≥ 1024 then (some (decide (a0 ≤ 1119))) else (some false)))) else (if a0 ≥ 913 then (if a0 ≤ 974 then (if a0 ≤ 122 then (some true) else (if a0 = 247 then (if a0 = 930 then (if a0 ≥ 1024 then (some (decide (a0 ≤ 1119))) else (some false)) else (some true)) else (some true))) else (if a0 ≤ 122 then (some true) else (if a0 = 247 then (if a0 ≥ 1024 then (some (decide (a0 ≤ 1119))) else (some false)) else (some true)))) else (if a0 ≤ 122 then (some true) else (if a0 = 247 then (if a0 ≥ 1024 then (some (decide (a0 ≤ 1119))) else (some false)) else (some true))))) else (if a0 ≥ 913 then (if a0 ≤ 974 then (if a0 ≤ 122 then (some true) else (if a0 = 930 then (if a0 ≥ 1024 then (some (decide (a0 ≤ 1119))) else (some false)) else (some true))) else (if a0 ≤ 122 then (some true) else (if a0 ≥ 1024 then (some (decide (a0 ≤ 1119))) else (some false)))) else (if a0 ≤ 122 then (some true) else (if a0 ≥ 1024 then (some (decide (a0 ≤ 1119))) else (some false))))) else (if a0 ≥ 913 then (if a0 ≤ 974 then (if a0 ≤ 122 then (some true) else (if a0 = 930 then (if a0 ≥ 1024 then (some (decide (a0 ≤ 1119))) else (some false)) else (some true))) else (if a0 ≤ 122 then (some true) else (if a0 ≥ 1024 then (some (decide (a0 ≤ 1119))) else (some false)))) else (if a0 ≤ 122 then (some true) else (if a0 ≥ 1024 then (some (decide (a0 ≤ 1119))) else (some false))))) else (if a0 ≥ 192 then (if a0 ≤ 383 then (if a0 = 215 then (if a0 ≥ 913 then (if a0 ≤ 974 then (if a0 = 930 then (if a0 ≥ 1024 then (some (decide (a0 ≤ 1119))) else (some false)) else (some true)) else (if a0 ≥ 1024 then (some (decide (a0 ≤ 1119))) else (some false))) else (if a0 ≥ 1024 then (some (decide (a0 ≤ 1119))) else (some false))) else (if a0 ≥ 913 then (if a0 ≤ 974 then (if a0 = 247 then (if a0 = 930 then (if a0 ≥ 1024 then (some (decide (a0 ≤ 1119))) else (some false)) else (some true)) else (some true)) else (if a0 = 247 then (if a0 ≥ 1024 then (some (decide (a0 ≤ 1119))) else (some false)) else (some true))) else (if a0 = 247 then (if a0 ≥ 1024 then (some (decide (a0 ≤ 1119))) else (some false)) else (some true)))) else (if a0 ≥ 913 then (if a0 ≤ 974 then (if a0 = 930 then (if a0 ≥ 1024 then (some (decide (a0 ≤ 1119))) else (some false)) else (some true)) else (if a0 ≥ 1024 then (some (decide (a0 ≤ 1119))) else (some false))) else (if a0 ≥ 1024 then (some (decide (a0 ≤ 1119))) else (some false)))) else (if a0 ≥ 913 then (if a0 ≤ 974 then (if a0 = 930 then (if a0 ≥ 1024 then (some (decide (a0 ≤ 1119))) else (some false)) else (some true)) else (if a0 ≥ 1024 then (some (decide (a0 ≤ 1119))) else (some false))) else (if a0 ≥ 1024 then (some (decide (a0 ≤ 1119))) else (some false)))))
set_option maxHeartbeats 8000000 in
set_option maxRecDepth 100000 in
theorem manteletref05_Letter.calls (a0 : Int) (r : Bool) (w : World) (h : manteletref05_Letter.f a0 = some r) :
    Calls Try.prog 13 #[.int .i32 a0] w fun e w' => e = .returned (.bool r) ∧ Drawn0 w w' := by
  have H : (if a0 ≥ 65 then (if a0 ≤ 90 then (if a0 ≥ 192 then (if a0 ≤ 383 then (if a0 = 215 then (if a0 ≥ 913 then (if a0 ≤ 974 then (some true) else (some true)) else (some true)) else (if a0 ≥ 913 then (if a0 ≤ 974 then (some true) else (some true)) else (some true))) else (if a0 ≥ 913 then (if a0 ≤ 974 then (some true) else (some true)) else (some true))) else (if a0 ≥ 913 then (if a0 ≤ 974 then (some true) else (some true)) else (some true))) else (if a0 ≥ 97 then (if a0 ≥ 192 then (if a0 ≤ 383 then (if a0 = 215 then (if a0 ≥ 913 then (if a0 ≤ 974 then (if a0 ≤ 122 then (some true) else (if a0 = 930 then (if a0 ≥ 1024 then (some (decide (a0 ≤ 1119))) else (some false)) else (some true))) else (if a0 ≤ 122 then (some true) else (if a0 ≥ 1024 then (some (decide (a0 ≤ 1119))) else (some false)))) else (if a0 ≤ 122 then (some true) else (if a0 ≥ 1024 then (some (decide (a0 ≤ 1119))) else (some false)))) else (if a0 ≥ 913 then (if a0 ≤ 974 then (if a0 ≤ 122 then (some true) else (if a0 = 247 then (if a0 = 930 then (if a0 ≥ 1024 then (some (decide (a0 ≤ 1119))) else (some false)) else (some true)) else (some true))) else (if a0 ≤ 122 then (some true) else (if a0 = 247 then (if a0 ≥ 1024 then (some (decide (a0 ≤ 1119))) else (some false)) else (some true)))) else (if a0 ≤ 122 then (some true) else (if a0 = 247 then (if a0 ≥ 1024 then (some (decide (a0 ≤ 1119))) else (some false)) else (some true))))) else (if a0 ≥ 913 then (if a0 ≤ 974 then (if a0 ≤ 122 then (some true) else (if a0 = 930 then (if a0 ≥ 1024 then (some (decide (a0 ≤ 1119))) else (some false)) else (some true))) else (if a0 ≤ 122 then (some true) else (if a0 ≥ 1024 then (some (decide (a0 ≤ 1119))) else (some false)))) else (if a0 ≤ 122 then (some true) else (if a0 ≥ 1024 then (some (decide (a0 ≤ 1119))) else (some false))))) else (if a0 ≥ 913 then (if a0 ≤ 974 then (if a0 ≤ 122 then (some true) else (if a0 = 930 then (if a0 ≥ 1024 then (some (decide (a0 ≤ 1119))) else (some false)) else (some true))) else (if a0 ≤ 122 then (some true) else (if a0 ≥ 1024 then (some (decide (a0 ≤ 1119))) else (some false)))) else (if a0 ≤ 122 then (some true) else (if a0 ≥ 1024 then (some (decide (a0 ≤ 1119))) else (some false))))) else (if a0 ≥ 192 then (if a0 ≤ 383 then (if a0 = 215 then (if a0 ≥ 913 then (if a0 ≤ 974 then (if a0 = 930 then (if a0 ≥ 1024 then (some (decide (a0 ≤ 1119))) else (some false)) else (some true)) else (if a0 ≥ 1024 then (some (decide (a0 ≤ 1119))) else (some false))) else (if a0 ≥ 1024 then (some (decide (a0 ≤ 1119))) else (some false))) else (if a0 ≥ 913 then (if a0 ≤ 974 then (if a0 = 247 then (if a0 = 930 then (if a0 ≥ 1024 then (some (decide (a0 ≤ 1119))) else (some false)) else (some true)) else (some true)) else (if a0 = 247 then (if a0 ≥ 1024 then (some (decide (a0 ≤ 1119))) else (some false)) else (some true))) else (if a0 = 247 then (if a0 ≥ 1024 then (some (decide (a0 ≤ 1119))) else (some false)) else (some true)))) else (if a0 ≥ 913 then (if a0 ≤ 974 then (if a0 = 930 then (if a0 ≥ 1024 then (some (decide (a0 ≤ 1119))) else (some false)) else (some true)) else (if a0 ≥ 1024 then (some (decide (a0 ≤ 1119))) else (some false))) else (if a0 ≥ 1024 then (some (decide (a0 ≤ 1119))) else (some false)))) else (if a0 ≥ 913 then (if a0 ≤ 974 then (if a0 = 930 then (if a0 ≥ 1024 then (some (decide (a0 ≤ 1119))) else (some false)) else (some true)) else (if a0 ≥ 1024 then (some (decide (a0 ≤ 1119))) else (some false))) else (if a0 ≥ 1024 then (some (decide (a0 ≤ 1119))) else (some false)))))) else (if a0 ≥ 97 then (if a0 ≥ 192 then (if a0 ≤ 383 then (if a0 = 215 then (if a0 ≥ 913 then (if a0 ≤ 974 then (if a0 ≤ 122 then (some true) else (if a0 = 930 then (if a0 ≥ 1024 then (some (decide (a0 ≤ 1119))) else (some false)) else (some true))) else (if a0 ≤ 122 then (some true) else (if a0 ≥ 1024 then (some (decide (a0 ≤ 1119))) else (some false)))) else (if a0 ≤ 122 then (some true) else (if a0 ≥ 1024 then (some (decide (a0 ≤ 1119))) else (some false)))) else (if a0 ≥ 913 then (if a0 ≤ 974 then (if a0 ≤ 122 then (some true) else (if a0 = 247 then (if a0 = 930 then (if a0 ≥ 1024 then (some (decide (a0 ≤ 1119))) else (some false)) else (some true)) else (some true))) else (if a0 ≤ 122 then (some true) else (if a0 = 247 then (if a0 ≥ 1024 then (some (decide (a0 ≤ 1119))) else (some false)) else (some true)))) else (if a0 ≤ 122 then (some true) else (if a0 = 247 then (if a0 ≥ 1024 then (some (decide (a0 ≤ 1119))) else (some false)) else (some true))))) else (if a0 ≥ 913 then (if a0 ≤ 974 then (if a0 ≤ 122 then (some true) else (if a0 = 930 then (if a0 ≥ 1024 then (some (decide (a0 ≤ 1119))) else (some false)) else (some true))) else (if a0 ≤ 122 then (some true) else (if a0 ≥ 1024 then (some (decide (a0 ≤ 1119))) else (some false)))) else (if a0 ≤ 122 then (some true) else (if a0 ≥ 1024 then (some (decide (a0 ≤ 1119))) else (some false))))) else (if a0 ≥ 913 then (if a0 ≤ 974 then (if a0 ≤ 122 then (some true) else (if a0 = 930 then (if a0 ≥ 1024 then (some (decide (a0 ≤ 1119))) else (some false)) else (some true))) else (if a0 ≤ 122 then (some true) else (if a0 ≥ 1024 then (some (decide (a0 ≤ 1119))) else (some false)))) else (if a0 ≤ 122 then (some true) else (if a0 ≥ 1024 then (some (decide (a0 ≤ 1119))) else (some false))))) else (if a0 ≥ 192 then (if a0 ≤ 383 then (if a0 = 215 then (if a0 ≥ 913 then (if a0 ≤ 974 then (if a0 = 930 then (if a0 ≥ 1024 then (some (decide (a0 ≤ 1119))) else (some false)) else (some true)) else (if a0 ≥ 1024 then (some (decide (a0 ≤ 1119))) else (some false))) else (if a0 ≥ 1024 then (some (decide (a0 ≤ 1119))) else (some false))) else (if a0 ≥ 913 then (if a0 ≤ 974 then (if a0 = 247 then (if a0 = 930 then (if a0 ≥ 1024 then (some (decide (a0 ≤ 1119))) else (some false)) else (some true)) else (some true)) else (if a0 = 247 then (if a0 ≥ 1024 then (some (decide (a0 ≤ 1119))) else (some false)) else (some true))) else (if a0 = 247 then (if a0 ≥ 1024 then (some (decide (a0 ≤ 1119))) else (some false)) else (some true)))) else (if a0 ≥ 913 then (if a0 ≤ 974 then (if a0 = 930 then (if a0 ≥ 1024 then (some (decide (a0 ≤ 1119))) else (some false)) else (some true)) else (if a0 ≥ 1024 then (some (decide (a0 ≤ 1119))) else (some false))) else (if a0 ≥ 1024 then (some (decide (a0 ≤ 1119))) else (some false)))) else (if a0 ≥ 913 then (if a0 ≤ 974 then (if a0 = 930 then (if a0 ≥ 1024 then (some (decide (a0 ≤ 1119))) else (some false)) else (some true)) else (if a0 ≥ 1024 then (some (decide (a0 ≤ 1119))) else (some false))) else (if a0 ≥ 1024 then (some (decide (a0 ≤ 1119))) else (some false)))))) = some r := h
  clear h
  by_cases c2 : a0 ≥ 65
  · rw [if_pos c2] at H
    have c2b0 : decide (65 ≤ a0) = true := decide_eq_true c2
    clear c2
    by_cases c3 : a0 ≤ 90
    · rw [if_pos c3] at H
      have c3b0 : decide (a0 ≤ 90) = true := decide_eq_true c3
      clear c3
      by_cases c4 : a0 ≥ 192
      · rw [if_pos c4] at H
        have c4b0 : decide (192 ≤ a0) = true := decide_eq_true c4
        clear c4
        by_cases c5 : a0 ≤ 383
        · rw [if_pos c5] at H
          have c5b0 : decide (a0 ≤ 383) = true := decide_eq_true c5
          clear c5
          by_cases c6 : a0 = 215
          · rw [if_pos c6] at H
            have c6b0 : (a0 == 215) = true := beq_iff_eq.mpr c6
            have c6b1 : (a0 != 215) = false := bne_eq_false_iff_eq.mpr c6
            clear c6
            by_cases c7 : a0 ≥ 913
            · rw [if_pos c7] at H
              have c7b0 : decide (913 ≤ a0) = true := decide_eq_true c7
              clear c7
              by_cases c8 : a0 ≤ 974
              · rw [if_pos c8] at H
                have c8b0 : decide (a0 ≤ 974) = true := decide_eq_true c8
                clear c8
                obtain rfl := Option.some.inj H
                go_enter Try.func13, Try.ntmps13
                go_wp2
                go_ret
                exact ⟨by first | rfl | (simp; done) | (simp [*]; done), by repeat (first | exact Drawn0.refl _ | apply Drawn0.step)⟩
              · rw [if_neg c8] at H
                have c8b0 : decide (a0 ≤ 974) = false := decide_eq_false c8
                clear c8
                obtain rfl := Option.some.inj H
                go_enter Try.func13, Try.ntmps13
                go_wp2
                go_ret
                exact ⟨by first | rfl | (simp; done) | (simp [*]; done), by repeat (first | exact Drawn0.refl _ | apply Drawn0.step)⟩
            · rw [if_neg c7] at H
              have c7b0 : decide (913 ≤ a0) = false := decide_eq_false c7
              clear c7
              obtain rfl := Option.some.inj H
              go_enter Try.func13, Try.ntmps13
              go_wp2
              go_ret
              exact ⟨by first | rfl | (simp; done) | (simp [*]; done), by repeat (first | exact Drawn0.refl _ | apply Drawn0.step)⟩
          · rw [if_neg c6] at H
            have c6b0 : (a0 == 215) = false := beq_eq_false_iff_ne.mpr c6
            have c6b1 : (a0 != 215) = true := bne_iff_ne.mpr c6
            by_cases c9 : a0 ≥ 913
            · rw [if_pos c9] at H
              have c9b0 : decide (913 ≤ a0) = true := decide_eq_true c9
              clear c9
              by_cases c10 : a0 ≤ 974
              · rw [if_pos c10] at H
                have c10b0 : decide (a0 ≤ 974) = true := decide_eq_true c10
                clear c10
                obtain rfl := Option.some.inj H
                go_enter Try.func13, Try.ntmps13
                go_wp2
                go_ret
                exact ⟨by first | rfl | (simp; done) | (simp [*]; done), by repeat (first | exact Drawn0.refl _ | apply Drawn0.step)⟩
              · rw [if_neg c10] at H
                have c10b0 : decide (a0 ≤ 974) = false := decide_eq_false c10
                clear c10
                obtain rfl := Option.some.inj H
                go_enter Try.func13, Try.ntmps13
                go_wp2
                go_ret
                exact ⟨by first | rfl | (simp; done) | (simp [*]; done), by repeat (first | exact Drawn0.refl _ | apply Drawn0.step)⟩
            · rw [if_neg c9] at H
              have c9b0 : decide (913 ≤ a0) = false := decide_eq_false c9
              clear c9
              obtain rfl := Option.some.inj H
              go_enter Try.func13, Try.ntmps13
              go_wp2
              go_ret
              exact ⟨by first | rfl | (simp; done) | (simp [*]; done), by repeat (first | exact Drawn0.refl _ | apply Drawn0.step)⟩
        · rw [if_neg c5] at H
          have c5b0 : decide (a0 ≤ 383) = false := decide_eq_false c5
          clear c5
          by_cases c11 : a0 ≥ 913
          · rw [if_pos c11] at H
            have c11b0 : decide (913 ≤ a0) = true := decide_eq_true c11
            clear c11
            by_cases c12 : a0 ≤ 974
            · rw [if_pos c12] at H
              have c12b0 : decide (a0 ≤ 974) = true := decide_eq_true c12
              clear c12
              obtain rfl := Option.some.inj H
              go_enter Try.func13, Try.ntmps13
              go_wp2
              go_ret
              exact ⟨by first | rfl | (simp; done) | (simp [*]; done), by repeat (first | exact Drawn0.refl _ | apply Drawn0.step)⟩
            · rw [if_neg c12] at H
              have c12b0 : decide (a0 ≤ 974) = false := decide_eq_false c12
              clear c12
              obtain rfl := Option.some.inj H
              go_enter Try.func13, Try.ntmps13
              go_wp2
              go_ret
              exact ⟨by first | rfl | (simp; done) | (simp [*]; done), by repeat (first | exact Drawn0.refl _ | apply Drawn0.step)⟩
          · rw [if_neg c11] at H
            have c11b0 : decide (913 ≤ a0) = false := decide_eq_false c11
            clear c11
            obtain rfl := Option.some.inj H
            go_enter Try.func13, Try.ntmps13
            go_wp2
            go_ret
            exact ⟨by first | rfl | (simp; done) | (simp [*]; done), by repeat (first | exact Drawn0.refl _ | apply Drawn0.step)⟩
      · rw [if_neg c4] at H
        have c4b0 : decide (192 ≤ a0) = false := decide_eq_false c4
        clear c4
        by_cases c13 : a0 ≥ 913
        · rw [if_pos c13] at H
          have c13b0 : decide (913 ≤ a0) = true := decide_eq_true c13
          clear c13
          by_cases c14 : a0 ≤ 974
          · rw [if_pos c14] at H
            have c14b0 : decide (a0 ≤ 974) = true := decide_eq_true c14
            clear c14
            obtain rfl := Option.some.inj H
            go_enter Try.func13, Try.ntmps13
            go_wp2
            go_ret
            exact ⟨by first | rfl | (simp; done) | (simp [*]; done), by repeat (first | exact Drawn0.refl _ | apply Drawn0.step)⟩
          · rw [if_neg c14] at H
            have c14b0 : decide (a0 ≤ 974) = false := decide_eq_false c14
            clear c14
            obtain rfl := Option.some.inj H
            go_enter Try.func13, Try.ntmps13
            go_wp2
            go_ret
            exact ⟨by first | rfl | (simp; done) | (simp [*]; done), by repeat (first | exact Drawn0.refl _ | apply Drawn0.step)⟩
        · rw [if_neg c13] at H
          have c13b0 : decide (913 ≤ a0) = false := decide_eq_false c13
          clear c13
          obtain rfl := Option.some.inj H
          go_enter Try.func13, Try.ntmps13
          go_wp2
          go_ret
          exact ⟨by first | rfl | (simp; done) | (simp [*]; done), by repeat (first | exact Drawn0.refl _ | apply Drawn0.step)⟩
    · rw [if_neg c3] at H
      have c3b0 : decide (a0 ≤ 90) = false := decide_eq_false c3
      clear c3
      by_cases c15 : a0 ≥ 97
      · rw [if_pos c15] at H
        have c15b0 : decide (97 ≤ a0) = true := decide_eq_true c15
        clear c15
        by_cases c16 : a0 ≥ 192
        · rw [if_pos c16] at H
          have c16b0 : decide (192 ≤ a0) = true := decide_eq_true c16
          clear c16
          by_cases c17 : a0 ≤ 383
          · rw [if_pos c17] at H
            have c17b0 : decide (a0 ≤ 383) = true := decide_eq_true c17
            clear c17
            by_cases c18 : a0 = 215
            · rw [if_pos c18] at H
              have c18b0 : (a0 == 215) = true := beq_iff_eq.mpr c18
              have c18b1 : (a0 != 215) = false := bne_eq_false_iff_eq.mpr c18
              clear c18
              by_cases c19 : a0 ≥ 913
              · rw [if_pos c19] at H
                have c19b0 : decide (913 ≤ a0) = true := decide_eq_true c19
                clear c19
                by_cases c20 : a0 ≤ 974
                · rw [if_pos c20] at H
                  have c20b0 : decide (a0 ≤ 974) = true := decide_eq_true c20
                  clear c20
                  by_cases c21 : a0 ≤ 122
                  · rw [if_pos c21] at H
                    have c21b0 : decide (a0 ≤ 122) = true := decide_eq_true c21
                    clear c21
                    obtain rfl := Option.some.inj H
                    go_enter Try.func13, Try.ntmps13
                    go_wp2
                    go_ret
                    exact ⟨by first | rfl | (simp; done) | (simp [*]; done), by repeat (first | exact Drawn0.refl _ | apply Drawn0.step)⟩
                  · rw [if_neg c21] at H
                    have c21b0 : decide (a0 ≤ 122) = false := decide_eq_false c21
                    clear c21
                    by_cases c22 : a0 = 930
                    · rw [if_pos c22] at H
                      have c22b0 : (a0 == 930) = true := beq_iff_eq.mpr c22
                      have c22b1 : (a0 != 930) = false := bne_eq_false_iff_eq.mpr c22
                      clear c22
                      by_cases c23 : a0 ≥ 1024
                      · rw [if_pos c23] at H
                        have c23b0 : decide (1024 ≤ a0) = true := decide_eq_true c23
                        clear c23
                        obtain rfl := Option.some.inj H
                        go_enter Try.func13, Try.ntmps13
                        go_wp2
                        go_ret
                        exact ⟨by first | rfl | (simp; done) | (simp [*]; done), by repeat (first | exact Drawn0.refl _ | apply Drawn0.step)⟩
                      · rw [if_neg c23] at H
                        have c23b0 : decide (1024 ≤ a0) = false := decide_eq_false c23
                        clear c23
                        obtain rfl := Option.some.inj H
                        go_enter Try.func13, Try.ntmps13
                        go_wp2
                        go_ret
                        exact ⟨by first | rfl | (simp; done) | (simp [*]; done), by repeat (first | exact Drawn0.refl _ | apply Drawn0.step)⟩
                    · rw [if_neg c22] at H
                      have c22b0 : (a0 == 930) = false := beq_eq_false_iff_ne.mpr c22
                      have c22b1 : (a0 != 930) = true := bne_iff_ne.mpr c22
                      obtain rfl := Option.some.inj H
                      go_enter Try.func13, Try.ntmps13
                      go_wp2
                      go_ret
                      exact ⟨by first | rfl | (simp; done) | (simp [*]; done), by repeat (first | exact Drawn0.refl _ | apply Drawn0.step)⟩
                · rw [if_neg c20] at H
                  have c20b0 : decide (a0 ≤ 974) = false := decide_eq_false c20
                  clear c20
                  by_cases c24 : a0 ≤ 122
                  · rw [if_pos c24] at H
                    have c24b0 : decide (a0 ≤ 122) = true := decide_eq_true c24
                    clear c24
                    obtain rfl := Option.some.inj H
                    go_enter Try.func13, Try.ntmps13
                    go_wp2
                    go_ret
                    exact ⟨by first | rfl | (simp; done) | (simp [*]; done), by repeat (first | exact Drawn0.refl _ | apply Drawn0.step)⟩
                  · rw [if_neg c24] at H
                    have c24b0 : decide (a0 ≤ 122) = false := decide_eq_false c24
                    clear c24
                    by_cases c25 : a0 ≥ 1024
                    · rw [if_pos c25] at H
                      have c25b0 : decide (1024 ≤ a0) = true := decide_eq_true c25
                      clear c25
                      obtain rfl := Option.some.inj H
                      go_enter Try.func13, Try.ntmps13
                      go_wp2
                      go_ret
                      exact ⟨by first | rfl | (simp; done) | (simp [*]; done), by repeat (first | exact Drawn0.refl _ | apply Drawn0.step)⟩
                    · rw [if_neg c25] at H
                      have c25b0 : decide (1024 ≤ a0) = false := decide_eq_false c25
                      clear c25
                      obtain rfl := Option.some.inj H
                      go_enter Try.func13, Try.ntmps13
                      go_wp2
                      go_ret
                      exact ⟨by first | rfl | (simp; done) | (simp [*]; done), by repeat (first | exact Drawn0.refl _ | apply Drawn0.step)⟩
              · rw [if_neg c19] at H
                have c19b0 : decide (913 ≤ a0) = false := decide_eq_false c19
                clear c19
                by_cases c26 : a0 ≤ 122
                · rw [if_pos c26] at H
                  have c26b0 : decide (a0 ≤ 122) = true := decide_eq_true c26
                  clear c26
                  obtain rfl := Option.some.inj H
                  go_enter Try.func13, Try.ntmps13
                  go_wp2
                  go_ret
                  exact ⟨by first | rfl | (simp; done) | (simp [*]; done), by repeat (first | exact Drawn0.refl _ | apply Drawn0.step)⟩
                · rw [if_neg c26] at H
                  have c26b0 : decide (a0 ≤ 122) = false := decide_eq_false c26
                  clear c26
                  by_cases c27 : a0 ≥ 1024
                  · rw [if_pos c27] at H
                    have c27b0 : decide (1024 ≤ a0) = true := decide_eq_true c27
                    clear c27
                    obtain rfl := Option.some.inj H
                    go_enter Try.func13, Try.ntmps13
                    go_wp2
                    go_ret
                    exact ⟨by first | rfl | (simp; done) | (simp [*]; done), by repeat (first | exact Drawn0.refl _ | apply Drawn0.step)⟩
                  · rw [if_neg c27] at H
                    have c27b0 : decide (1024 ≤ a0) = false := decide_eq_false c27
                    clear c27
                    obtain rfl := Option.some.inj H
                    go_enter Try.func13, Try.ntmps13
                    go_wp2
                    go_ret
                    exact ⟨by first | rfl | (simp; done) | (simp [*]; done), by repeat (first | exact Drawn0.refl _ | apply Drawn0.step)⟩
            · rw [if_neg c18] at H
              have c18b0 : (a0 == 215) = false := beq_eq_false_iff_ne.mpr c18
              have c18b1 : (a0 != 215) = true := bne_iff_ne.mpr c18
              by_cases c28 : a0 ≥ 913
              · rw [if_pos c28] at H
                have c28b0 : decide (913 ≤ a0) = true := decide_eq_true c28
                clear c28
                by_cases c29 : a0 ≤ 974
                · rw [if_pos c29] at H
                  have c29b0 : decide (a0 ≤ 974) = true := decide_eq_true c29
                  clear c29
                  by_cases c30 : a0 ≤ 122
                  · rw [if_pos c30] at H
                    have c30b0 : decide (a0 ≤ 122) = true := decide_eq_true c30
                    clear c30
                    obtain rfl := Option.some.inj H
                    go_enter Try.func13, Try.ntmps13
                    go_wp2
                    go_ret
                    exact ⟨by first | rfl | (simp; done) | (simp [*]; done), by repeat (first | exact Drawn0.refl _ | apply Drawn0.step)⟩
                  · rw [if_neg c30] at H
                    have c30b0 : decide (a0 ≤ 122) = false := decide_eq_false c30
                    clear c30
                    by_cases c31 : a0 = 247
                    · rw [if_pos c31] at H
                      have c31b0 : (a0 == 247) = true := beq_iff_eq.mpr c31
                      have c31b1 : (a0 != 247) = false := bne_eq_false_iff_eq.mpr c31
                      clear c31
                      by_cases c32 : a0 = 930
                      · rw [if_pos c32] at H
                        have c32b0 : (a0 == 930) = true := beq_iff_eq.mpr c32
                        have c32b1 : (a0 != 930) = false := bne_eq_false_iff_eq.mpr c32
                        clear c32
                        by_cases c33 : a0 ≥ 1024
                        · rw [if_pos c33] at H
                          have c33b0 : decide (1024 ≤ a0) = true := decide_eq_true c33
                          clear c33
                          obtain rfl := Option.some.inj H
                          go_enter Try.func13, Try.ntmps13
                          go_wp2
                          go_ret
                          exact ⟨by first | rfl | (simp; done) | (simp [*]; done), by repeat (first | exact Drawn0.refl _ | apply Drawn0.step)⟩
                        · rw [if_neg c33] at H
                          have c33b0 : decide (1024 ≤ a0) = false := decide_eq_false c33
                          clear c33
                          obtain rfl := Option.some.inj H
                          go_enter Try.func13, Try.ntmps13
                          go_wp2
                          go_ret
                          exact ⟨by first | rfl | (simp; done) | (simp [*]; done), by repeat (first | exact Drawn0.refl _ | apply Drawn0.step)⟩
                      · rw [if_neg c32] at H
                        have c32b0 : (a0 == 930) = false := beq_eq_false_iff_ne.mpr c32
                        have c32b1 : (a0 != 930) = true := bne_iff_ne.mpr c32
                        obtain rfl := Option.some.inj H
                        go_enter Try.func13, Try.ntmps13
                        go_wp2
                        go_ret
                        exact ⟨by first | rfl | (simp; done) | (simp [*]; done), by repeat (first | exact Drawn0.refl _ | apply Drawn0.step)⟩
                    · rw [if_neg c31] at H
                      have c31b0 : (a0 == 247) = false := beq_eq_false_iff_ne.mpr c31
                      have c31b1 : (a0 != 247) = true := bne_iff_ne.mpr c31
                      obtain rfl := Option.some.inj H
                      go_enter Try.func13, Try.ntmps13
                      go_wp2
                      go_ret
                      exact ⟨by first | rfl | (simp; done) | (simp [*]; done), by repeat (first | exact Drawn0.refl _ | apply Drawn0.step)⟩
                · rw [if_neg c29] at H
                  have c29b0 : decide (a0 ≤ 974) = false := decide_eq_false c29
                  clear c29
                  by_cases c34 : a0 ≤ 122
                  · rw [if_pos c34] at H
                    have c34b0 : decide (a0 ≤ 122) = true := decide_eq_true c34
                    clear c34
                    obtain rfl := Option.some.inj H
                    go_enter Try.func13, Try.ntmps13
                    go_wp2
                    go_ret
                    exact ⟨by first | rfl | (simp; done) | (simp [*]; done), by repeat (first | exact Drawn0.refl _ | apply Drawn0.step)⟩
                  · rw [if_neg c34] at H
                    have c34b0 : decide (a0 ≤ 122) = false := decide_eq_false c34
                    clear c34
                    by_cases c35 : a0 = 247
                    · rw [if_pos c35] at H
                      have c35b0 : (a0 == 247) = true := beq_iff_eq.mpr c35
                      have c35b1 : (a0 != 247) = false := bne_eq_false_iff_eq.mpr c35
                      clear c35
                      by_cases c36 : a0 ≥ 1024
                      · rw [if_pos c36] at H
                        have c36b0 : decide (1024 ≤ a0) = true := decide_eq_true c36
                        clear c36
                        obtain rfl := Option.some.inj H
                        go_enter Try.func13, Try.ntmps13
                        go_wp2
                        go_ret
                        exact ⟨by first | rfl | (simp; done) | (simp [*]; done), by repeat (first | exact Drawn0.refl _ | apply Drawn0.step)⟩
                      · rw [if_neg c36] at H
                        have c36b0 : decide (1024 ≤ a0) = false := decide_eq_false c36
                        clear c36
                        obtain rfl := Option.some.inj H
                        go_enter Try.func13, Try.ntmps13
                        go_wp2
                        go_ret
                        exact ⟨by first | rfl | (simp; done) | (simp [*]; done), by repeat (first | exact Drawn0.refl _ | apply Drawn0.step)⟩
                    · rw [if_neg c35] at H
                      have c35b0 : (a0 == 247) = false := beq_eq_false_iff_ne.mpr c35
                      have c35b1 : (a0 != 247) = true := bne_iff_ne.mpr c35
                      obtain rfl := Option.some.inj H
                      go_enter Try.func13, Try.ntmps13
                      go_wp2
                      go_ret
                      exact ⟨by first | rfl | (simp; done) | (simp [*]; done), by repeat (first | exact Drawn0.refl _ | apply Drawn0.step)⟩
              · rw [if_neg c28] at H
                have c28b0 : decide (913 ≤ a0) = false := decide_eq_false c28
                clear c28
                by_cases c37 : a0 ≤ 122
                · rw [if_pos c37] at H
                  have c37b0 : decide (a0 ≤ 122) = true := decide_eq_true c37
                  clear c37
                  obtain rfl := Option.some.inj H
                  go_enter Try.func13, Try.ntmps13
                  go_wp2
                  go_ret
                  exact ⟨by first | rfl | (simp; done) | (simp [*]; done), by repeat (first | exact Drawn0.refl _ | apply Drawn0.step)⟩
                · rw [if_neg c37] at H
                  have c37b0 : decide (a0 ≤ 122) = false := decide_eq_false c37
                  clear c37
                  by_cases c38 : a0 = 247
                  · rw [if_pos c38] at H
                    have c38b0 : (a0 == 247) = true := beq_iff_eq.mpr c38
                    have c38b1 : (a0 != 247) = false := bne_eq_false_iff_eq.mpr c38
                    clear c38
                    by_cases c39 : a0 ≥ 1024
                    · rw [if_pos c39] at H
                      have c39b0 : decide (1024 ≤ a0) = true := decide_eq_true c39
                      clear c39
                      obtain rfl := Option.some.inj H
                      go_enter Try.func13, Try.ntmps13
                      go_wp2
                      go_ret
                      exact ⟨by first | rfl | (simp; done) | (simp [*]; done), by repeat (first | exact Drawn0.refl _ | apply Drawn0.step)⟩
                    · rw [if_neg c39] at H
                      have c39b0 : decide (1024 ≤ a0) = false := decide_eq_false c39
                      clear c39
                      obtain rfl := Option.some.inj H
                      go_enter Try.func13, Try.ntmps13
                      go_wp2
                      go_ret
                      exact ⟨by first | rfl | (simp; done) | (simp [*]; done), by repeat (first | exact Drawn0.refl _ | apply Drawn0.step)⟩
                  · rw [if_neg c38] at H
                    have c38b0 : (a0 == 247) = false := beq_eq_false_iff_ne.mpr c38
                    have c38b1 : (a0 != 247) = true := bne_iff_ne.mpr c38
                    obtain rfl := Option.some.inj H
                    go_enter Try.func13, Try.ntmps13
                    go_wp2
                    go_ret
                    exact ⟨by first | rfl | (simp; done) | (simp [*]; done), by repeat (first | exact Drawn0.refl _ | apply Drawn0.step)⟩
          · rw [if_neg c17] at H
            have c17b0 : decide (a0 ≤ 383) = false := decide_eq_false c17
            clear c17
            by_cases c40 : a0 ≥ 913
            · rw [if_pos c40] at H
              have c40b0 : decide (913 ≤ a0) = true := decide_eq_true c40
              clear c40
              by_cases c41 : a0 ≤ 974
              · rw [if_pos c41] at H
                have c41b0 : decide (a0 ≤ 974) = true := decide_eq_true c41
                clear c41
                by_cases c42 : a0 ≤ 122
                · rw [if_pos c42] at H
                  have c42b0 : decide (a0 ≤ 122) = true := decide_eq_true c42
                  clear c42
                  obtain rfl := Option.some.inj H
                  go_enter Try.func13, Try.ntmps13
                  go_wp2
                  go_ret
                  exact ⟨by first | rfl | (simp; done) | (simp [*]; done), by repeat (first | exact Drawn0.refl _ | apply Drawn0.step)⟩
                · rw [if_neg c42] at H
                  have c42b0 : decide (a0 ≤ 122) = false := decide_eq_false c42
                  clear c42
                  by_cases c43 : a0 = 930
                  · rw [if_pos c43] at H
                    have c43b0 : (a0 == 930) = true := beq_iff_eq.mpr c43
                    have c43b1 : (a0 != 930) = false := bne_eq_false_iff_eq.mpr c43
                    clear c43
                    by_cases c44 : a0 ≥ 1024
                    · rw [if_pos c44] at H
                      have c44b0 : decide (1024 ≤ a0) = true := decide_eq_true c44
                      clear c44
                      obtain rfl := Option.some.inj H
                      go_enter Try.func13, Try.ntmps13
                      go_wp2
                      go_ret
                      exact ⟨by first | rfl | (simp; done) | (simp [*]; done), by repeat (first | exact Drawn0.refl _ | apply Drawn0.step)⟩
                    · rw [if_neg c44] at H
                      have c44b0 : decide (1024 ≤ a0) = false := decide_eq_false c44
                      clear c44
                      obtain rfl := Option.some.inj H
                      go_enter Try.func13, Try.ntmps13
                      go_wp2
                      go_ret
                      exact ⟨by first | rfl | (simp; done) | (simp [*]; done), by repeat (first | exact Drawn0.refl _ | apply Drawn0.step)⟩
                  · rw [if_neg c43] at H
                    have c43b0 : (a0 == 930) = false := beq_eq_false_iff_ne.mpr c43
                    have c43b1 : (a0 != 930) = true := bne_iff_ne.mpr c43
                    obtain rfl := Option.some.inj H
                    go_enter Try.func13, Try.ntmps13
                    go_wp2
                    go_ret
                    exact ⟨by first | rfl | (simp; done) | (simp [*]; done), by repeat (first | exact Drawn0.refl _ | apply Drawn0.step)⟩
              · rw [if_neg c41] at H
                have c41b0 : decide (a0 ≤ 974) = false := decide_eq_false c41
                clear c41
                by_cases c45 : a0 ≤ 122
                · rw [if_pos c45] at H
                  have c45b0 : decide (a0 ≤ 122) = true := decide_eq_true c45
                  clear c45
                  obtain rfl := Option.some.inj H
                  go_enter Try.func13, Try.ntmps13
                  go_wp2
                  go_ret
                  exact ⟨by first | rfl | (simp; done) | (simp [*]; done), by repeat (first | exact Drawn0.refl _ | apply Drawn0.step)⟩
                · rw [if_neg c45] at H
                  have c45b0 : decide (a0 ≤ 122) = false := decide_eq_false c45
                  clear c45
                  by_cases c46 : a0 ≥ 1024
                  · rw [if_pos c46] at H
                    have c46b0 : decide (1024 ≤ a0) = true := decide_eq_true c46
                    clear c46
                    obtain rfl := Option.some.inj H
                    go_enter Try.func13, Try.ntmps13
                    go_wp2
                    go_ret
                    exact ⟨by first | rfl | (simp; done) | (simp [*]; done), by repeat (first | exact Drawn0.refl _ | apply Drawn0.step)⟩
                  · rw [if_neg c46] at H
                    have c46b0 : decide (1024 ≤ a0) = false := decide_eq_false c46
                    clear c46
                    obtain rfl := Option.some.inj H
                    go_enter Try.func13, Try.ntmps13
                    go_wp2
                    go_ret
                    exact ⟨by first | rfl | (simp; done) | (simp [*]; done), by repeat (first | exact Drawn0.refl _ | apply Drawn0.step)⟩
            · rw [if_neg c40] at H
              have c40b0 : decide (913 ≤ a0) = false := decide_eq_false c40
              clear c40
              by_cases c47 : a0 ≤ 122
              · rw [if_pos c47] at H
                have c47b0 : decide (a0 ≤ 122) = true := decide_eq_true c47
                clear c47
                obtain rfl := Option.some.inj H
                go_enter Try.func13, Try.ntmps13
                go_wp2
                go_ret
                exact ⟨by first | rfl | (simp; done) | (simp [*]; done), by repeat (first | exact Drawn0.refl _ | apply Drawn0.step)⟩
              · rw [if_neg c47] at H
                have c47b0 : decide (a0 ≤ 122) = false := decide_eq_false c47
                clear c47
                by_cases c48 : a0 ≥ 1024
                · rw [if_pos c48] at H
                  have c48b0 : decide (1024 ≤ a0) = true := decide_eq_true c48
                  clear c48
                  obtain rfl := Option.some.inj H
                  go_enter Try.func13, Try.ntmps13
                  go_wp2
                  go_ret
                  exact ⟨by first | rfl | (simp; done) | (simp [*]; done), by repeat (first | exact Drawn0.refl _ | apply Drawn0.step)⟩
                · rw [if_neg c48] at H
                  have c48b0 : decide (1024 ≤ a0) = false := decide_eq_false c48
                  clear c48
                  obtain rfl := Option.some.inj H
                  go_enter Try.func13, Try.ntmps13
                  go_wp2
                  go_ret
                  exact ⟨by first | rfl | (simp; done) | (simp [*]; done), by repeat (first | exact Drawn0.refl _ | apply Drawn0.step)⟩
        · rw [if_neg c16] at H
          have c16b0 : decide (192 ≤ a0) = false := decide_eq_false c16
          clear c16
          by_cases c49 : a0 ≥ 913
          · rw [if_pos c49] at H
            have c49b0 : decide (913 ≤ a0) = true := decide_eq_true c49
            clear c49
            by_cases c50 : a0 ≤ 974
            · rw [if_pos c50] at H
              have c50b0 : decide (a0 ≤ 974) = true := decide_eq_true c50
              clear c50
              by_cases c51 : a0 ≤ 122
              · rw [if_pos c51] at H
                have c51b0 : decide (a0 ≤ 122) = true := decide_eq_true c51
                clear c51
                obtain rfl := Option.some.inj H
                go_enter Try.func13, Try.ntmps13
                go_wp2
                go_ret
                exact ⟨by first | rfl | (simp; done) | (simp [*]; done), by repeat (first | exact Drawn0.refl _ | apply Drawn0.step)⟩
              · rw [if_neg c51] at H
                have c51b0 : decide (a0 ≤ 122) = false := decide_eq_false c51
                clear c51
                by_cases c52 : a0 = 930
                · rw [if_pos c52] at H
                  have c52b0 : (a0 == 930) = true := beq_iff_eq.mpr c52
                  have c52b1 : (a0 != 930) = false := bne_eq_false_iff_eq.mpr c52
                  clear c52
                  by_cases c53 : a0 ≥ 1024
                  · rw [if_pos c53] at H
                    have c53b0 : decide (1024 ≤ a0) = true := decide_eq_true c53
                    clear c53
                    obtain rfl := Option.some.inj H
                    go_enter Try.func13, Try.ntmps13
                    go_wp2
                    go_ret
                    exact ⟨by first | rfl | (simp; done) | (simp [*]; done), by repeat (first | exact Drawn0.refl _ | apply Drawn0.step)⟩
                  · rw [if_neg c53] at H
                    have c53b0 : decide (1024 ≤ a0) = false := decide_eq_false c53
                    clear c53
                    obtain rfl := Option.some.inj H
                    go_enter Try.func13, Try.ntmps13
                    go_wp2
                    go_ret
                    exact ⟨by first | rfl | (simp; done) | (simp [*]; done), by repeat (first | exact Drawn0.refl _ | apply Drawn0.step)⟩
                · rw [if_neg c52] at H
                  have c52b0 : (a0 == 930) = false := beq_eq_false_iff_ne.mpr c52
                  have c52b1 : (a0 != 930) = true := bne_iff_ne.mpr c52
                  obtain rfl := Option.some.inj H
                  go_enter Try.func13, Try.ntmps13
                  go_wp2
                  go_ret
                  exact ⟨by first | rfl | (simp; done) | (simp [*]; done), by repeat (first | exact Drawn0.refl _ | apply Drawn0.step)⟩
            · rw [if_neg c50] at H
              have c50b0 : decide (a0 ≤ 974) = false := decide_eq_false c50
              clear c50
              by_cases c54 : a0 ≤ 122
              · rw [if_pos c54] at H
                have c54b0 : decide (a0 ≤ 122) = true := decide_eq_true c54
                clear c54
                obtain rfl := Option.some.inj H
                go_enter Try.func13, Try.ntmps13
                go_wp2
                go_ret
                exact ⟨by first | rfl | (simp; done) | (simp [*]; done), by repeat (first | exact Drawn0.refl _ | apply Drawn0.step)⟩
              · rw [if_neg c54] at H
                have c54b0 : decide (a0 ≤ 122) = false := decide_eq_false c54
                clear c54
                by_cases c55 : a0 ≥ 1024
                · rw [if_pos c55] at H
                  have c55b0 : decide (1024 ≤ a0) = true := decide_eq_true c55
                  clear c55
                  obtain rfl := Option.some.inj H
                  go_enter Try.func13, Try.ntmps13
                  go_wp2
                  go_ret
                  exact ⟨by first | rfl | (simp; done) | (simp [*]; done), by repeat (first | exact Drawn0.refl _ | apply Drawn0.step)⟩
                · rw [if_neg c55] at H
                  have c55b0 : decide (1024 ≤ a0) = false := decide_eq_false c55
                  clear c55
                  obtain rfl := Option.some.inj H
                  go_enter Try.func13, Try.ntmps13
                  go_wp2
                  go_ret
                  exact ⟨by first | rfl | (simp; done) | (simp [*]; done), by repeat (first | exact Drawn0.refl _ | apply Drawn0.step)⟩
          · rw [if_neg c49] at H
            have c49b0 : decide (913 ≤ a0) = false := decide_eq_false c49
            clear c49
            by_cases c56 : a0 ≤ 122
            · rw [if_pos c56] at H
              have c56b0 : decide (a0 ≤ 122) = true := decide_eq_true c56
              clear c56
              obtain rfl := Option.some.inj H
              go_enter Try.func13, Try.ntmps13
              go_wp2
              go_ret
              exact ⟨by first | rfl | (simp; done) | (simp [*]; done), by repeat (first | exact Drawn0.refl _ | apply Drawn0.step)⟩
            · rw [if_neg c56] at H
              have c56b0 : decide (a0 ≤ 122) = false := decide_eq_false c56
              clear c56
              by_cases c57 : a0 ≥ 1024
              · rw [if_pos c57] at H
                have c57b0 : decide (1024 ≤ a0) = true := decide_eq_true c57
                clear c57
                obtain rfl := Option.some.inj H
                go_enter Try.func13, Try.ntmps13
                go_wp2
                go_ret
                exact ⟨by first | rfl | (simp; done) | (simp [*]; done), by repeat (first | exact Drawn0.refl _ | apply Drawn0.step)⟩
              · rw [if_neg c57] at H
                have c57b0 : decide (1024 ≤ a0) = false := decide_eq_false c57
                clear c57
                obtain rfl := Option.some.inj H
                go_enter Try.func13, Try.ntmps13
                go_wp2
                go_ret
                exact ⟨by first | rfl | (simp; done) | (simp [*]; done), by repeat (first | exact Drawn0.refl _ | apply Drawn0.step)⟩
      · rw [if_neg c15] at H
        have c15b0 : decide (97 ≤ a0) = false := decide_eq_false c15
        clear c15
        by_cases c58 : a0 ≥ 192
        · rw [if_pos c58] at H
          have c58b0 : decide (192 ≤ a0) = true := decide_eq_true c58
          clear c58
          by_cases c59 : a0 ≤ 383
          · rw [if_pos c59] at H
            have c59b0 : decide (a0 ≤ 383) = true := decide_eq_true c59
            clear c59
            by_cases c60 : a0 = 215
            · rw [if_pos c60] at H
              have c60b0 : (a0 == 215) = true := beq_iff_eq.mpr c60
              have c60b1 : (a0 != 215) = false := bne_eq_false_iff_eq.mpr c60
              clear c60
              by_cases c61 : a0 ≥ 913
              · rw [if_pos c61] at H
                have c61b0 : decide (913 ≤ a0) = true := decide_eq_true c61
                clear c61
                by_cases c62 : a0 ≤ 974
                · rw [if_pos c62] at H
                  have c62b0 : decide (a0 ≤ 974) = true := decide_eq_true c62
                  clear c62
                  by_cases c63 : a0 = 930
                  · rw [if_pos c63] at H
                    have c63b0 : (a0 == 930) = true := beq_iff_eq.mpr c63
                    have c63b1 : (a0 != 930) = false := bne_eq_false_iff_eq.mpr c63
                    clear c63
                    by_cases c64 : a0 ≥ 1024
                    · rw [if_pos c64] at H
                      have c64b0 : decide (1024 ≤ a0) = true := decide_eq_true c64
                      clear c64
                      obtain rfl := Option.some.inj H
                      go_enter Try.func13, Try.ntmps13
                      go_wp2
                      go_ret
                      exact ⟨by first | rfl | (simp; done) | (simp [*]; done), by repeat (first | exact Drawn0.refl _ | apply Drawn0.step)⟩
                    · rw [if_neg c64] at H
                      have c64b0 : decide (1024 ≤ a0) = false := decide_eq_false c64
                      clear c64
                      obtain rfl := Option.some.inj H
                      go_enter Try.func13, Try.ntmps13
                      go_wp2
                      go_ret
                      exact ⟨by first | rfl | (simp; done) | (simp [*]; done), by repeat (first | exact Drawn0.refl _ | apply Drawn0.step)⟩
                  · rw [if_neg c63] at H
                    have c63b0 : (a0 == 930) = false := beq_eq_false_iff_ne.mpr c63
                    have c63b1 : (a0 != 930) = true := bne_iff_ne.mpr c63
                    obtain rfl := Option.some.inj H
                    go_enter Try.func13, Try.ntmps13
                    go_wp2
                    go_ret
                    exact ⟨by first | rfl | (simp; done) | (simp [*]; done), by repeat (first | exact Drawn0.refl _ | apply Drawn0.step)⟩
                · rw [if_neg c62] at H
                  have c62b0 : decide (a0 ≤ 974) = false := decide_eq_false c62
                  clear c62
                  by_cases c65 : a0 ≥ 1024
                  · rw [if_pos c65] at H
                    have c65b0 : decide (1024 ≤ a0) = true := decide_eq_true c65
                    clear c65
                    obtain rfl := Option.some.inj H
                    go_enter Try.func13, Try.ntmps13
                    go_wp2
                    go_ret
                    exact ⟨by first | rfl | (simp; done) | (simp [*]; done), by repeat (first | exact Drawn0.refl _ | apply Drawn0.step)⟩
                  · rw [if_neg c65] at H
                    have c65b0 : decide (1024 ≤ a0) = false := decide_eq_false c65
                    clear c65
                    obtain rfl := Option.some.inj H
                    go_enter Try.func13, Try.ntmps13
                    go_wp2
                    go_ret
                    exact ⟨by first | rfl | (simp; done) | (simp [*]; done), by repeat (first | exact Drawn0.refl _ | apply Drawn0.step)⟩
              · rw [if_neg c61] at H
                have c61b0 : decide (913 ≤ a0) = false := decide_eq_false c61
                clear c61
                by_cases c66 : a0 ≥ 1024
                · rw [if_pos c66] at H
                  have c66b0 : decide (1024 ≤ a0) = true := decide_eq_true c66
                  clear c66
                  obtain rfl := Option.some.inj H
                  go_enter Try.func13, Try.ntmps13
                  go_wp2
                  go_ret
                  exact ⟨by first | rfl | (simp; done) | (simp [*]; done), by repeat (first | exact Drawn0.refl _ | apply Drawn0.step)⟩
                · rw [if_neg c66] at H
                  have c66b0 : decide (1024 ≤ a0) = false := decide_eq_false c66
                  clear c66
                  obtain rfl := Option.some.inj H
                  go_enter Try.func13, Try.ntmps13
                  go_wp2
                  go_ret
                  exact ⟨by first | rfl | (simp; done) | (simp [*]; done), by repeat (first | exact Drawn0.refl _ | apply Drawn0.step)⟩
            · rw [if_neg c60] at H
              have c60b0 : (a0 == 215) = false := beq_eq_false_iff_ne.mpr c60
              have c60b1 : (a0 != 215) = true := bne_iff_ne.mpr c60
              by_cases c67 : a0 ≥ 913
              · rw [if_pos c67] at H
                have c67b0 : decide (913 ≤ a0) = true := decide_eq_true c67
                clear c67
                by_cases c68 : a0 ≤ 974
                · rw [if_pos c68] at H
                  have c68b0 : decide (a0 ≤ 974) = true := decide_eq_true c68
                  clear c68
                  by_cases c69 : a0 = 247
                  · rw [if_pos c69] at H
                    have c69b0 : (a0 == 247) = true := beq_iff_eq.mpr c69
                    have c69b1 : (a0 != 247) = false := bne_eq_false_iff_eq.mpr c69
                    clear c69
                    by_cases c70 : a0 = 930
                    · rw [if_pos c70] at H
                      have c70b0 : (a0 == 930) = true := beq_iff_eq.mpr c70
                      have c70b1 : (a0 != 930) = false := bne_eq_false_iff_eq.mpr c70
                      clear c70
                      by_cases c71 : a0 ≥ 1024
                      · rw [if_pos c71] at H
                        have c71b0 : decide (1024 ≤ a0) = true := decide_eq_true c71
                        clear c71
                        obtain rfl := Option.some.inj H
                        go_enter Try.func13, Try.ntmps13
                        go_wp2
                        go_ret
                        exact ⟨by first | rfl | (simp; done) | (simp [*]; done), by repeat (first | exact Drawn0.refl _ | apply Drawn0.step)⟩
                      · rw [if_neg c71] at H
                        have c71b0 : decide (1024 ≤ a0) = false := decide_eq_false c71
                        clear c71
                        obtain rfl := Option.some.inj H
                        go_enter Try.func13, Try.ntmps13
                        go_wp2
                        go_ret
                        exact ⟨by first | rfl | (simp; done) | (simp [*]; done), by repeat (first | exact Drawn0.refl _ | apply Drawn0.step)⟩
                    · rw [if_neg c70] at H
                      have c70b0 : (a0 == 930) = false := beq_eq_false_iff_ne.mpr c70
                      have c70b1 : (a0 != 930) = true := bne_iff_ne.mpr c70
                      obtain rfl := Option.some.inj H
                      go_enter Try.func13, Try.ntmps13
                      go_wp2
                      go_ret
                      exact ⟨by first | rfl | (simp; done) | (simp [*]; done), by repeat (first | exact Drawn0.refl _ | apply Drawn0.step)⟩
                  · rw [if_neg c69] at H
                    have c69b0 : (a0 == 247) = false := beq_eq_false_iff_ne.mpr c69
                    have c69b1 : (a0 != 247) = true := bne_iff_ne.mpr c69
                    obtain rfl := Option.some.inj H
                    go_enter Try.func13, Try.ntmps13
                    go_wp2
                    go_ret
                    exact ⟨by first | rfl | (simp; done) | (simp [*]; done), by repeat (first | exact Drawn0.refl _ | apply Drawn0.step)⟩
                · rw [if_neg c68] at H
                  have c68b0 : decide (a0 ≤ 974) = false := decide_eq_false c68
                  clear c68
                  by_cases c72 : a0 = 247
                  · rw [if_pos c72] at H
                    have c72b0 : (a0 == 247) = true := beq_iff_eq.mpr c72
                    have c72b1 : (a0 != 247) = false := bne_eq_false_iff_eq.mpr c72
                    clear c72
                    by_cases c73 : a0 ≥ 1024
                    · rw [if_pos c73] at H
                      have c73b0 : decide (1024 ≤ a0) = true := decide_eq_true c73
                      clear c73
                      obtain rfl := Option.some.inj H
                      go_enter Try.func13, Try.ntmps13
                      go_wp2
                      go_ret
                      exact ⟨by first | rfl | (simp; done) | (simp [*]; done), by repeat (first | exact Drawn0.refl _ | apply Drawn0.step)⟩
                    · rw [if_neg c73] at H
                      have c73b0 : decide (1024 ≤ a0) = false := decide_eq_false c73
                      clear c73
                      obtain rfl := Option.some.inj H
                      go_enter Try.func13, Try.ntmps13
                      go_wp2
                      go_ret
                      exact ⟨by first | rfl | (simp; done) | (simp [*]; done), by repeat (first | exact Drawn0.refl _ | apply Drawn0.step)⟩
                  · rw [if_neg c72] at H
                    have c72b0 : (a0 == 247) = false := beq_eq_false_iff_ne.mpr c72
                    have c72b1 : (a0 != 247) = true := bne_iff_ne.mpr c72
                    obtain rfl := Option.some.inj H
                    go_enter Try.func13, Try.ntmps13
                    go_wp2
                    go_ret
                    exact ⟨by first | rfl | (simp; done) | (simp [*]; done), by repeat (first | exact Drawn0.refl _ | apply Drawn0.step)⟩
              · rw [if_neg c67] at H
                have c67b0 : decide (913 ≤ a0) = false := decide_eq_false c67
                clear c67
                by_cases c74 : a0 = 247
                · rw [if_pos c74] at H
                  have c74b0 : (a0 == 247) = true := beq_iff_eq.mpr c74
                  have c74b1 : (a0 != 247) = false := bne_eq_false_iff_eq.mpr c74
                  clear c74
                  by_cases c75 : a0 ≥ 1024
                  · rw [if_pos c75] at H
                    have c75b0 : decide (1024 ≤ a0) = true := decide_eq_true c75
                    clear c75
                    obtain rfl := Option.some.inj H
                    go_enter Try.func13, Try.ntmps13
                    go_wp2
                    go_ret
                    exact ⟨by first | rfl | (simp; done) | (simp [*]; done), by repeat (first | exact Drawn0.refl _ | apply Drawn0.step)⟩
                  · rw [if_neg c75] at H
                    have c75b0 : decide (1024 ≤ a0) = false := decide_eq_false c75
                    clear c75
                    obtain rfl := Option.some.inj H
                    go_enter Try.func13, Try.ntmps13
                    go_wp2
                    go_ret
                    exact ⟨by first | rfl | (simp; done) | (simp [*]; done), by repeat (first | exact Drawn0.refl _ | apply Drawn0.step)⟩
                · rw [if_neg c74] at H
                  have c74b0 : (a0 == 247) = false := beq_eq_false_iff_ne.mpr c74
                  have c74b1 : (a0 != 247) = true := bne_iff_ne.mpr c74
                  obtain rfl := Option.some.inj H
                  go_enter Try.func13, Try.ntmps13
                  go_wp2
                  go_ret
                  exact ⟨by first | rfl | (simp; done) | (simp [*]; done), by repeat (first | exact Drawn0.refl _ | apply Drawn0.step)⟩
          · rw [if_neg c59] at H
            have c59b0 : decide (a0 ≤ 383) = false := decide_eq_false c59
            clear c59
            by_cases c76 : a0 ≥ 913
            · rw [if_pos c76] at H
              have c76b0 : decide (913 ≤ a0) = true := decide_eq_true c76
              clear c76
              by_cases c77 : a0 ≤ 974
              · rw [if_pos c77] at H
                have c77b0 : decide (a0 ≤ 974) = true := decide_eq_true c77
                clear c77
                by_cases c78 : a0 = 930
                · rw [if_pos c78] at H
                  have c78b0 : (a0 == 930) = true := beq_iff_eq.mpr c78
                  have c78b1 : (a0 != 930) = false := bne_eq_false_iff_eq.mpr c78
                  clear c78
                  by_cases c79 : a0 ≥ 1024
                  · rw [if_pos c79] at H
                    have c79b0 : decide (1024 ≤ a0) = true := decide_eq_true c79
                    clear c79
                    obtain rfl := Option.some.inj H
                    go_enter Try.func13, Try.ntmps13
                    go_wp2
                    go_ret
                    exact ⟨by first | rfl | (simp; done) | (simp [*]; done), by repeat (first | exact Drawn0.refl _ | apply Drawn0.step)⟩
                  · rw [if_neg c79] at H
                    have c79b0 : decide (1024 ≤ a0) = false := decide_eq_false c79
                    clear c79
                    obtain rfl := Option.some.inj H
                    go_enter Try.func13, Try.ntmps13
                    go_wp2
                    go_ret
                    exact ⟨by first | rfl | (simp; done) | (simp [*]; done), by repeat (first | exact Drawn0.refl _ | apply Drawn0.step)⟩
                · rw [if_neg c78] at H
                  have c78b0 : (a0 == 930) = false := beq_eq_false_iff_ne.mpr c78
                  have c78b1 : (a0 != 930) = true := bne_iff_ne.mpr c78
                  obtain rfl := Option.some.inj H
                  go_enter Try.func13, Try.ntmps13
                  go_wp2
                  go_ret
                  exact ⟨by first | rfl | (simp; done) | (simp [*]; done), by repeat (first | exact Drawn0.refl _ | apply Drawn0.step)⟩
              · rw [if_neg c77] at H
                have c77b0 : decide (a0 ≤ 974) = false := decide_eq_false c77
                clear c77
                by_cases c80 : a0 ≥ 1024
                · rw [if_pos c80] at H
                  have c80b0 : decide (1024 ≤ a0) = true := decide_eq_true c80
                  clear c80
                  obtain rfl := Option.some.inj H
                  go_enter Try.func13, Try.ntmps13
                  go_wp2
                  go_ret
                  exact ⟨by first | rfl | (simp; done) | (simp [*]; done), by repeat (first | exact Drawn0.refl _ | apply Drawn0.step)⟩
                · rw [if_neg c80] at H
                  have c80b0 : decide (1024 ≤ a0) = false := decide_eq_false c80
                  clear c80
                  obtain rfl := Option.some.inj H
                  go_enter Try.func13, Try.ntmps13
                  go_wp2
                  go_ret
                  exact ⟨by first | rfl | (simp; done) | (simp [*]; done), by repeat (first | exact Drawn0.refl _ | apply Drawn0.step)⟩
            · rw [if_neg c76] at H
              have c76b0 : decide (913 ≤ a0) = false := decide_eq_false c76
              clear c76
              by_cases c81 : a0 ≥ 1024
              · rw [if_pos c81] at H
                have c81b0 : decide (1024 ≤ a0) = true := decide_eq_true c81
                clear c81
                obtain rfl := Option.some.inj H
                go_enter Try.func13, Try.ntmps13
                go_wp2
                go_ret
                exact ⟨by first | rfl | (simp; done) | (simp [*]; done), by repeat (first | exact Drawn0.refl _ | apply Drawn0.step)⟩
              · rw [if_neg c81] at H
                have c81b0 : decide (1024 ≤ a0) = false := decide_eq_false c81
                clear c81
                obtain rfl := Option.some.inj H
                go_enter Try.func13, Try.ntmps13
                go_wp2
                go_ret
                exact ⟨by first | rfl | (simp; done) | (simp [*]; done), by repeat (first | exact Drawn0.refl _ | apply Drawn0.step)⟩
        · rw [if_neg c58] at H
          have c58b0 : decide (192 ≤ a0) = false := decide_eq_false c58
          clear c58
          by_cases c82 : a0 ≥ 913
          · rw [if_pos c82] at H
            have c82b0 : decide (913 ≤ a0) = true := decide_eq_true c82
            clear c82
            by_cases c83 : a0 ≤ 974
            · rw [if_pos c83] at H
              have c83b0 : decide (a0 ≤ 974) = true := decide_eq_true c83
              clear c83
              by_cases c84 : a0 = 930
              · rw [if_pos c84] at H
                have c84b0 : (a0 == 930) = true := beq_iff_eq.mpr c84
                have c84b1 : (a0 != 930) = false := bne_eq_false_iff_eq.mpr c84
                clear c84
                by_cases c85 : a0 ≥ 1024
                · rw [if_pos c85] at H
                  have c85b0 : decide (1024 ≤ a0) = true := decide_eq_true c85
                  clear c85
                  obtain rfl := Option.some.inj H
                  go_enter Try.func13, Try.ntmps13
                  go_wp2
                  go_ret
                  exact ⟨by first | rfl | (simp; done) | (simp [*]; done), by repeat (first | exact Drawn0.refl _ | apply Drawn0.step)⟩
                · rw [if_neg c85] at H
                  have c85b0 : decide (1024 ≤ a0) = false := decide_eq_false c85
                  clear c85
                  obtain rfl := Option.some.inj H
                  go_enter Try.func13, Try.ntmps13
                  go_wp2
                  go_ret
                  exact ⟨by first | rfl | (simp; done) | (simp [*]; done), by repeat (first | exact Drawn0.refl _ | apply Drawn0.step)⟩
              · rw [if_neg c84] at H
                have c84b0 : (a0 == 930) = false := beq_eq_false_iff_ne.mpr c84
                have c84b1 : (a0 != 930) = true := bne_iff_ne.mpr c84
                obtain rfl := Option.some.inj H
                go_enter Try.func13, Try.ntmps13
                go_wp2
                go_ret
                exact ⟨by first | rfl | (simp; done) | (simp [*]; done), by repeat (first | exact Drawn0.refl _ | apply Drawn0.step)⟩
            · rw [if_neg c83] at H
              have c83b0 : decide (a0 ≤ 974) = false := decide_eq_false c83
              clear c83
              by_cases c86 : a0 ≥ 1024
              · rw [if_pos c86] at H
                have c86b0 : decide (1024 ≤ a0) = true := decide_eq_true c86
                clear c86
                obtain rfl := Option.some.inj H
                go_enter Try.func13, Try.ntmps13
                go_wp2
                go_ret
                exact ⟨by first | rfl | (simp; done) | (simp [*]; done), by repeat (first | exact Drawn0.refl _ | apply Drawn0.step)⟩
              · rw [if_neg c86] at H
                have c86b0 : decide (1024 ≤ a0) = false := decide_eq_false c86
                clear c86
                obtain rfl := Option.some.inj H
                go_enter Try.func13, Try.ntmps13
                go_wp2
                go_ret
                exact ⟨by first | rfl | (simp; done) | (simp [*]; done), by repeat (first | exact Drawn0.refl _ | apply Drawn0.step)⟩
          · rw [if_neg c82] at H
            have c82b0 : decide (913 ≤ a0) = false := decide_eq_false c82
            clear c82
            by_cases c87 : a0 ≥ 1024
            · rw [if_pos c87] at H
              have c87b0 : decide (1024 ≤ a0) = true := decide_eq_true c87
              clear c87
              obtain rfl := Option.some.inj H
              go_enter Try.func13, Try.ntmps13
              go_wp2
              go_ret
              exact ⟨by first | rfl | (simp; done) | (simp [*]; done), by repeat (first | exact Drawn0.refl _ | apply Drawn0.step)⟩
            · rw [if_neg c87] at H
              have c87b0 : decide (1024 ≤ a0) = false := decide_eq_false c87
              clear c87
              obtain rfl := Option.some.inj H
              go_enter Try.func13, Try.ntmps13
              go_wp2
              go_ret
              exact ⟨by first | rfl | (simp; done) | (simp [*]; done), by repeat (first | exact Drawn0.refl _ | apply Drawn0.step)⟩
  · rw [if_neg c2] at H
    have c2b0 : decide (65 ≤ a0) = false := decide_eq_false c2
    clear c2
    by_cases c88 : a0 ≥ 97
    · rw [if_pos c88] at H
      have c88b0 : decide (97 ≤ a0) = true := decide_eq_true c88
      clear c88
      by_cases c89 : a0 ≥ 192
      · rw [if_pos c89] at H
        have c89b0 : decide (192 ≤ a0) = true := decide_eq_true c89
        clear c89
        by_cases c90 : a0 ≤ 383
        · rw [if_pos c90] at H
          have c90b0 : decide (a0 ≤ 383) = true := decide_eq_true c90
          clear c90
          by_cases c91 : a0 = 215
          · rw [if_pos c91] at H
            have c91b0 : (a0 == 215) = true := beq_iff_eq.mpr c91
            have c91b1 : (a0 != 215) = false := bne_eq_false_iff_eq.mpr c91
            clear c91
            by_cases c92 : a0 ≥ 913
            · rw [if_pos c92] at H
              have c92b0 : decide (913 ≤ a0) = true := decide_eq_true c92
              clear c92
              by_cases c93 : a0 ≤ 974
              · rw [if_pos c93] at H
                have c93b0 : decide (a0 ≤ 974) = true := decide_eq_true c93
                clear c93
                by_cases c94 : a0 ≤ 122
                · rw [if_pos c94] at H
                  have c94b0 : decide (a0 ≤ 122) = true := decide_eq_true c94
                  clear c94
                  obtain rfl := Option.some.inj H
                  go_enter Try.func13, Try.ntmps13
                  go_wp2
                  go_ret
                  exact ⟨by first | rfl | (simp; done) | (simp [*]; done), by repeat (first | exact Drawn0.refl _ | apply Drawn0.step)⟩
                · rw [if_neg c94] at H
                  have c94b0 : decide (a0 ≤ 122) = false := decide_eq_false c94
                  clear c94
                  by_cases c95 : a0 = 930
                  · rw [if_pos c95] at H
                    have c95b0 : (a0 == 930) = true := beq_iff_eq.mpr c95
                    have c95b1 : (a0 != 930) = false := bne_eq_false_iff_eq.mpr c95
                    clear c95
                    by_cases c96 : a0 ≥ 1024
                    · rw [if_pos c96] at H
                      have c96b0 : decide (1024 ≤ a0) = true := decide_eq_true c96
                      clear c96
                      obtain rfl := Option.some.inj H
                      go_enter Try.func13, Try.ntmps13
                      go_wp2
                      go_ret
                      exact ⟨by first | rfl | (simp; done) | (simp [*]; done), by repeat (first | exact Drawn0.refl _ | apply Drawn0.step)⟩
                    · rw [if_neg c96] at H
                      have c96b0 : decide (1024 ≤ a0) = false := decide_eq_false c96
                      clear c96
                      obtain rfl := Option.some.inj H
                      go_enter Try.func13, Try.ntmps13
                      go_wp2
                      go_ret
                      exact ⟨by first | rfl | (simp; done) | (simp [*]; done), by repeat (first | exact Drawn0.refl _ | apply Drawn0.step)⟩
                  · rw [if_neg c95] at H
                    have c95b0 : (a0 == 930) = false := beq_eq_false_iff_ne.mpr c95
                    have c95b1 : (a0 != 930) = true := bne_iff_ne.mpr c95
                    obtain rfl := Option.some.inj H
                    go_enter Try.func13, Try.ntmps13
                    go_wp2
                    go_ret
                    exact ⟨by first | rfl | (simp; done) | (simp [*]; done), by repeat (first | exact Drawn0.refl _ | apply Drawn0.step)⟩
              · rw [if_neg c93] at H
                have c93b0 : decide (a0 ≤ 974) = false := decide_eq_false c93
                clear c93
                by_cases c97 : a0 ≤ 122
                · rw [if_pos c97] at H
                  have c97b0 : decide (a0 ≤ 122) = true := decide_eq_true c97
                  clear c97
                  obtain rfl := Option.some.inj H
                  go_enter Try.func13, Try.ntmps13
                  go_wp2
                  go_ret
                  exact ⟨by first | rfl | (simp; done) | (simp [*]; done), by repeat (first | exact Drawn0.refl _ | apply Drawn0.step)⟩
                · rw [if_neg c97] at H
                  have c97b0 : decide (a0 ≤ 122) = false := decide_eq_false c97
                  clear c97
                  by_cases c98 : a0 ≥ 1024
                  · rw [if_pos c98] at H
                    have c98b0 : decide (1024 ≤ a0) = true := decide_eq_true c98
                    clear c98
                    obtain rfl := Option.some.inj H
                    go_enter Try.func13, Try.ntmps13
                    go_wp2
                    go_ret
                    exact ⟨by first | rfl | (simp; done) | (simp [*]; done), by repeat (first | exact Drawn0.refl _ | apply Drawn0.step)⟩
                  · rw [if_neg c98] at H
                    have c98b0 : decide (1024 ≤ a0) = false := decide_eq_false c98
                    clear c98
                    obtain rfl := Option.some.inj H
                    go_enter Try.func13, Try.ntmps13
                    go_wp2
                    go_ret
                    exact ⟨by first | rfl | (simp; done) | (simp [*]; done), by repeat (first | exact Drawn0.refl _ | apply Drawn0.step)⟩
            · rw [if_neg c92] at H
              have c92b0 : decide (913 ≤ a0) = false := decide_eq_false c92
              clear c92
              by_cases c99 : a0 ≤ 122
              · rw [if_pos c99] at H
                have c99b0 : decide (a0 ≤ 122) = true := decide_eq_true c99
                clear c99
                obtain rfl := Option.some.inj H
                go_enter Try.func13, Try.ntmps13
                go_wp2
                go_ret
                exact ⟨by first | rfl | (simp; done) | (simp [*]; done), by repeat (first | exact Drawn0.refl _ | apply Drawn0.step)⟩
              · rw [if_neg c99] at H
                have c99b0 : decide (a0 ≤ 122) = false := decide_eq_false c99
                clear c99
                by_cases c100 : a0 ≥ 1024
                · rw [if_pos c100] at H
                  have c100b0 : decide (1024 ≤ a0) = true := decide_eq_true c100
                  clear c100
                  obtain rfl := Option.some.inj H
                  go_enter Try.func13, Try.ntmps13
                  go_wp2
                  go_ret
                  exact ⟨by first | rfl | (simp; done) | (simp [*]; done), by repeat (first | exact Drawn0.refl _ | apply Drawn0.step)⟩
                · rw [if_neg c100] at H
                  have c100b0 : decide (1024 ≤ a0) = false := decide_eq_false c100
                  clear c100
                  obtain rfl := Option.some.inj H
                  go_enter Try.func13, Try.ntmps13
                  go_wp2
                  go_ret
                  exact ⟨by first | rfl | (simp; done) | (simp [*]; done), by repeat (first | exact Drawn0.refl _ | apply Drawn0.step)⟩
          · rw [if_neg c91] at H
            have c91b0 : (a0 == 215) = false := beq_eq_false_iff_ne.mpr c91
            have c91b1 : (a0 != 215) = true := bne_iff_ne.mpr c91
            by_cases c101 : a0 ≥ 913
            · rw [if_pos c101] at H
              have c101b0 : decide (913 ≤ a0) = true := decide_eq_true c101
              clear c101
              by_cases c102 : a0 ≤ 974
              · rw [if_pos c102] at H
                have c102b0 : decide (a0 ≤ 974) = true := decide_eq_true c102
                clear c102
                by_cases c103 : a0 ≤ 122
                · rw [if_pos c103] at H
                  have c103b0 : decide (a0 ≤ 122) = true := decide_eq_true c103
                  clear c103
                  obtain rfl := Option.some.inj H
                  go_enter Try.func13, Try.ntmps13
                  go_wp2
                  go_ret
                  exact ⟨by first | rfl | (simp; done) | (simp [*]; done), by repeat (first | exact Drawn0.refl _ | apply Drawn0.step)⟩
                · rw [if_neg c103] at H
                  have c103b0 : decide (a0 ≤ 122) = false := decide_eq_false c103
                  clear c103
                  by_cases c104 : a0 = 247
                  · rw [if_pos c104] at H
                    have c104b0 : (a0 == 247) = true := beq_iff_eq.mpr c104
                    have c104b1 : (a0 != 247) = false := bne_eq_false_iff_eq.mpr c104
                    clear c104
                    by_cases c105 : a0 = 930
                    · rw [if_pos c105] at H
                      have c105b0 : (a0 == 930) = true := beq_iff_eq.mpr c105
                      have c105b1 : (a0 != 930) = false := bne_eq_false_iff_eq.mpr c105
                      clear c105
                      by_cases c106 : a0 ≥ 1024
                      · rw [if_pos c106] at H
                        have c106b0 : decide (1024 ≤ a0) = true := decide_eq_true c106
                        clear c106
                        obtain rfl := Option.some.inj H
                        go_enter Try.func13, Try.ntmps13
                        go_wp2
                        go_ret
                        exact ⟨by first | rfl | (simp; done) | (simp [*]; done), by repeat (first | exact Drawn0.refl _ | apply Drawn0.step)⟩
                      · rw [if_neg c106] at H
                        have c106b0 : decide (1024 ≤ a0) = false := decide_eq_false c106
                        clear c106
                        obtain rfl := Option.some.inj H
                        go_enter Try.func13, Try.ntmps13
                        go_wp2
                        go_ret
                        exact ⟨by first | rfl | (simp; done) | (simp [*]; done), by repeat (first | exact Drawn0.refl _ | apply Drawn0.step)⟩
                    · rw [if_neg c105] at H
                      have c105b0 : (a0 == 930) = false := beq_eq_false_iff_ne.mpr c105
                      have c105b1 : (a0 != 930) = true := bne_iff_ne.mpr c105
                      obtain rfl := Option.some.inj H
                      go_enter Try.func13, Try.ntmps13
                      go_wp2
                      go_ret
                      exact ⟨by first | rfl | (simp; done) | (simp [*]; done), by repeat (first | exact Drawn0.refl _ | apply Drawn0.step)⟩
                  · rw [if_neg c104] at H
                    have c104b0 : (a0 == 247) = false := beq_eq_false_iff_ne.mpr c104
                    have c104b1 : (a0 != 247) = true := bne_iff_ne.mpr c104
                    obtain rfl := Option.some.inj H
                    go_enter Try.func13, Try.ntmps13
                    go_wp2
                    go_ret
                    exact ⟨by first | rfl | (simp; done) | (simp [*]; done), by repeat (first | exact Drawn0.refl _ | apply Drawn0.step)⟩
              · rw [if_neg c102] at H
                have c102b0 : decide (a0 ≤ 974) = false := decide_eq_false c102
                clear c102
                by_cases c107 : a0 ≤ 122
                · rw [if_pos c107] at H
                  have c107b0 : decide (a0 ≤ 122) = true := decide_eq_true c107
                  clear c107
                  obtain rfl := Option.some.inj H
                  go_enter Try.func13, Try.ntmps13
                  go_wp2
                  go_ret
                  exact ⟨by first | rfl | (simp; done) | (simp [*]; done), by repeat (first | exact Drawn0.refl _ | apply Drawn0.step)⟩
                · rw [if_neg c107] at H
                  have c107b0 : decide (a0 ≤ 122) = false := decide_eq_false c107
                  clear c107
                  by_cases c108 : a0 = 247
                  · rw [if_pos c108] at H
                    have c108b0 : (a0 == 247) = true := beq_iff_eq.mpr c108
                    have c108b1 : (a0 != 247) = false := bne_eq_false_iff_eq.mpr c108
                    clear c108
                    by_cases c109 : a0 ≥ 1024
                    · rw [if_pos c109] at H
                      have c109b0 : decide (1024 ≤ a0) = true := decide_eq_true c109
                      clear c109
                      obtain rfl := Option.some.inj H
                      go_enter Try.func13, Try.ntmps13
                      go_wp2
                      go_ret
                      exact ⟨by first | rfl | (simp; done) | (simp [*]; done), by repeat (first | exact Drawn0.refl _ | apply Drawn0.step)⟩
                    · rw [if_neg c109] at H
                      have c109b0 : decide (1024 ≤ a0) = false := decide_eq_false c109
                      clear c109
                      obtain rfl := Option.some.inj H
                      go_enter Try.func13, Try.ntmps13
                      go_wp2
                      go_ret
                      exact ⟨by first | rfl | (simp; done) | (simp [*]; done), by repeat (first | exact Drawn0.refl _ | apply Drawn0.step)⟩
                  · rw [if_neg c108] at H
                    have c108b0 : (a0 == 247) = false := beq_eq_false_iff_ne.mpr c108
                    have c108b1 : (a0 != 247) = true := bne_iff_ne.mpr c108
                    obtain rfl := Option.some.inj H
                    go_enter Try.func13, Try.ntmps13
                    go_wp2
                    go_ret
                    exact ⟨by first | rfl | (simp; done) | (simp [*]; done), by repeat (first | exact Drawn0.refl _ | apply Drawn0.step)⟩
            · rw [if_neg c101] at H
              have c101b0 : decide (913 ≤ a0) = false := decide_eq_false c101
              clear c101
              by_cases c110 : a0 ≤ 122
              · rw [if_pos c110] at H
                have c110b0 : decide (a0 ≤ 122) = true := decide_eq_true c110
                clear c110
                obtain rfl := Option.some.inj H
                go_enter Try.func13, Try.ntmps13
                go_wp2
                go_ret
                exact ⟨by first | rfl | (simp; done) | (simp [*]; done), by repeat (first | exact Drawn0.refl _ | apply Drawn0.step)⟩
              · rw [if_neg c110] at H
                have c110b0 : decide (a0 ≤ 122) = false := decide_eq_false c110
                clear c110
                by_cases c111 : a0 = 247
                · rw [if_pos c111] at H
                  have c111b0 : (a0 == 247) = true := beq_iff_eq.mpr c111
                  have c111b1 : (a0 != 247) = false := bne_eq_false_iff_eq.mpr c111
                  clear c111
                  by_cases c112 : a0 ≥ 1024
                  · rw [if_pos c112] at H
                    have c112b0 : decide (1024 ≤ a0) = true := decide_eq_true c112
                    clear c112
                    obtain rfl := Option.some.inj H
                    go_enter Try.func13, Try.ntmps13
                    go_wp2
                    go_ret
                    exact ⟨by first | rfl | (simp; done) | (simp [*]; done), by repeat (first | exact Drawn0.refl _ | apply Drawn0.step)⟩
                  · rw [if_neg c112] at H
                    have c112b0 : decide (1024 ≤ a0) = false := decide_eq_false c112
                    clear c112
                    obtain rfl := Option.some.inj H
                    go_enter Try.func13, Try.ntmps13
                    go_wp2
                    go_ret
                    exact ⟨by first | rfl | (simp; done) | (simp [*]; done), by repeat (first | exact Drawn0.refl _ | apply Drawn0.step)⟩
                · rw [if_neg c111] at H
                  have c111b0 : (a0 == 247) = false := beq_eq_false_iff_ne.mpr c111
                  have c111b1 : (a0 != 247) = true := bne_iff_ne.mpr c111
                  obtain rfl := Option.some.inj H
                  go_enter Try.func13, Try.ntmps13
                  go_wp2
                  go_ret
                  exact ⟨by first | rfl | (simp; done) | (simp [*]; done), by repeat (first | exact Drawn0.refl _ | apply Drawn0.step)⟩
        · rw [if_neg c90] at H
          have c90b0 : decide (a0 ≤ 383) = false := decide_eq_false c90
          clear c90
          by_cases c113 : a0 ≥ 913
          · rw [if_pos c113] at H
            have c113b0 : decide (913 ≤ a0) = true := decide_eq_true c113
            clear c113
            by_cases c114 : a0 ≤ 974
            · rw [if_pos c114] at H
              have c114b0 : decide (a0 ≤ 974) = true := decide_eq_true c114
              clear c114
              by_cases c115 : a0 ≤ 122
              · rw [if_pos c115] at H
                have c115b0 : decide (a0 ≤ 122) = true := decide_eq_true c115
                clear c115
                obtain rfl := Option.some.inj H
                go_enter Try.func13, Try.ntmps13
                go_wp2
                go_ret
                exact ⟨by first | rfl | (simp; done) | (simp [*]; done), by repeat (first | exact Drawn0.refl _ | apply Drawn0.step)⟩
              · rw [if_neg c115] at H
                have c115b0 : decide (a0 ≤ 122) = false := decide_eq_false c115
                clear c115
                by_cases c116 : a0 = 930
                · rw [if_pos c116] at H
                  have c116b0 : (a0 == 930) = true := beq_iff_eq.mpr c116
                  have c116b1 : (a0 != 930) = false := bne_eq_false_iff_eq.mpr c116
                  clear c116
                  by_cases c117 : a0 ≥ 1024
                  · rw [if_pos c117] at H
                    have c117b0 : decide (1024 ≤ a0) = true := decide_eq_true c117
                    clear c117
                    obtain rfl := Option.some.inj H
                    go_enter Try.func13, Try.ntmps13
                    go_wp2
                    go_ret
                    exact ⟨by first | rfl | (simp; done) | (simp [*]; done), by repeat (first | exact Drawn0.refl _ | apply Drawn0.step)⟩
                  · rw [if_neg c117] at H
                    have c117b0 : decide (1024 ≤ a0) = false := decide_eq_false c117
                    clear c117
                    obtain rfl := Option.some.inj H
                    go_enter Try.func13, Try.ntmps13
                    go_wp2
                    go_ret
                    exact ⟨by first | rfl | (simp; done) | (simp [*]; done), by repeat (first | exact Drawn0.refl _ | apply Drawn0.step)⟩
                · rw [if_neg c116] at H
                  have c116b0 : (a0 == 930) = false := beq_eq_false_iff_ne.mpr c116
                  have c116b1 : (a0 != 930) = true := bne_iff_ne.mpr c116
                  obtain rfl := Option.some.inj H
                  go_enter Try.func13, Try.ntmps13
                  go_wp2
                  go_ret
                  exact ⟨by first | rfl | (simp; done) | (simp [*]; done), by repeat (first | exact Drawn0.refl _ | apply Drawn0.step)⟩
            · rw [if_neg c114] at H
              have c114b0 : decide (a0 ≤ 974) = false := decide_eq_false c114
              clear c114
              by_cases c118 : a0 ≤ 122
              · rw [if_pos c118] at H
                have c118b0 : decide (a0 ≤ 122) = true := decide_eq_true c118
                clear c118
                obtain rfl := Option.some.inj H
                go_enter Try.func13, Try.ntmps13
                go_wp2
                go_ret
                exact ⟨by first | rfl | (simp; done) | (simp [*]; done), by repeat (first | exact Drawn0.refl _ | apply Drawn0.step)⟩
              · rw [if_neg c118] at H
                have c118b0 : decide (a0 ≤ 122) = false := decide_eq_false c118
                clear c118
                by_cases c119 : a0 ≥ 1024
                · rw [if_pos c119] at H
                  have c119b0 : decide (1024 ≤ a0) = true := decide_eq_true c119
                  clear c119
                  obtain rfl := Option.some.inj H
                  go_enter Try.func13, Try.ntmps13
                  go_wp2
                  go_ret
                  exact ⟨by first | rfl | (simp; done) | (simp [*]; done), by repeat (first | exact Drawn0.refl _ | apply Drawn0.step)⟩
                · rw [if_neg c119] at H
                  have c119b0 : decide (1024 ≤ a0) = false := decide_eq_false c119
                  clear c119
                  obtain rfl := Option.some.inj H
                  go_enter Try.func13, Try.ntmps13
                  go_wp2
                  go_ret
                  exact ⟨by first | rfl | (simp; done) | (simp [*]; done), by repeat (first | exact Drawn0.refl _ | apply Drawn0.step)⟩
          · rw [if_neg c113] at H
            have c113b0 : decide (913 ≤ a0) = false := decide_eq_false c113
            clear c113
            by_cases c120 : a0 ≤ 122
            · rw [if_pos c120] at H
              have c120b0 : decide (a0 ≤ 122) = true := decide_eq_true c120
              clear c120
              obtain rfl := Option.some.inj H
              go_enter Try.func13, Try.ntmps13
              go_wp2
              go_ret
              exact ⟨by first | rfl | (simp; done) | (simp [*]; done), by repeat (first | exact Drawn0.refl _ | apply Drawn0.step)⟩
            · rw [if_neg c120] at H
              have c120b0 : decide (a0 ≤ 122) = false := decide_eq_false c120
              clear c120
              by_cases c121 : a0 ≥ 1024
              · rw [if_pos c121] at H
                have c121b0 : decide (1024 ≤ a0) = true := decide_eq_true c121
                clear c121
                obtain rfl := Option.some.inj H
                go_enter Try.func13, Try.ntmps13
                go_wp2
                go_ret
                exact ⟨by first | rfl | (simp; done) | (simp [*]; done), by repeat (first | exact Drawn0.refl _ | apply Drawn0.step)⟩
              · rw [if_neg c121] at H
                have c121b0 : decide (1024 ≤ a0) = false := decide_eq_false c121
                clear c121
                obtain rfl := Option.some.inj H
                go_enter Try.func13, Try.ntmps13
                go_wp2
                go_ret
                exact ⟨by first | rfl | (simp; done) | (simp [*]; done), by repeat (first | exact Drawn0.refl _ | apply Drawn0.step)⟩
      · rw [if_neg c89] at H
        have c89b0 : decide (192 ≤ a0) = false := decide_eq_false c89
        clear c89
        by_cases c122 : a0 ≥ 913
        · rw [if_pos c122] at H
          have c122b0 : decide (913 ≤ a0) = true := decide_eq_true c122
          clear c122
          by_cases c123 : a0 ≤ 974
          · rw [if_pos c123] at H
            have c123b0 : decide (a0 ≤ 974) = true := decide_eq_true c123
            clear c123
            by_cases c124 : a0 ≤ 122
            · rw [if_pos c124] at H
              have c124b0 : decide (a0 ≤ 122) = true := decide_eq_true c124
              clear c124
              obtain rfl := Option.some.inj H
              go_enter Try.func13, Try.ntmps13
              go_wp2
              go_ret
              exact ⟨by first | rfl | (simp; done) | (simp [*]; done), by repeat (first | exact Drawn0.refl _ | apply Drawn0.step)⟩
            · rw [if_neg c124] at H
              have c124b0 : decide (a0 ≤ 122) = false := decide_eq_false c124
              clear c124
              by_cases c125 : a0 = 930
              · rw [if_pos c125] at H
                have c125b0 : (a0 == 930) = true := beq_iff_eq.mpr c125
                have c125b1 : (a0 != 930) = false := bne_eq_false_iff_eq.mpr c125
                clear c125
                by_cases c126 : a0 ≥ 1024
                · rw [if_pos c126] at H
                  have c126b0 : decide (1024 ≤ a0) = true := decide_eq_true c126
                  clear c126
                  obtain rfl := Option.some.inj H
                  go_enter Try.func13, Try.ntmps13
                  go_wp2
                  go_ret
                  exact ⟨by first | rfl | (simp; done) | (simp [*]; done), by repeat (first | exact Drawn0.refl _ | apply Drawn0.step)⟩
                · rw [if_neg c126] at H
                  have c126b0 : decide (1024 ≤ a0) = false := decide_eq_false c126
                  clear c126
                  obtain rfl := Option.some.inj H
                  go_enter Try.func13, Try.ntmps13
                  go_wp2
                  go_ret
                  exact ⟨by first | rfl | (simp; done) | (simp [*]; done), by repeat (first | exact Drawn0.refl _ | apply Drawn0.step)⟩
              · rw [if_neg c125] at H
                have c125b0 : (a0 == 930) = false := beq_eq_false_iff_ne.mpr c125
                have c125b1 : (a0 != 930) = true := bne_iff_ne.mpr c125
                obtain rfl := Option.some.inj H
                go_enter Try.func13, Try.ntmps13
                go_wp2
                go_ret
                exact ⟨by first | rfl | (simp; done) | (simp [*]; done), by repeat (first | exact Drawn0.refl _ | apply Drawn0.step)⟩
          · rw [if_neg c123] at H
            have c123b0 : decide (a0 ≤ 974) = false := decide_eq_false c123
            clear c123
            by_cases c127 : a0 ≤ 122
            · rw [if_pos c127] at H
              have c127b0 : decide (a0 ≤ 122) = true := decide_eq_true c127
              clear c127
              obtain rfl := Option.some.inj H
              go_enter Try.func13, Try.ntmps13
              go_wp2
              go_ret
              exact ⟨by first | rfl | (simp; done) | (simp [*]; done), by repeat (first | exact Drawn0.refl _ | apply Drawn0.step)⟩
            · rw [if_neg c127] at H
              have c127b0 : decide (a0 ≤ 122) = false := decide_eq_false c127
              clear c127
              by_cases c128 : a0 ≥ 1024
              · rw [if_pos c128] at H
                have c128b0 : decide (1024 ≤ a0) = true := decide_eq_true c128
                clear c128
                obtain rfl := Option.some.inj H
                go_enter Try.func13, Try.ntmps13
                go_wp2
                go_ret
                exact ⟨by first | rfl | (simp; done) | (simp [*]; done), by repeat (first | exact Drawn0.refl _ | apply Drawn0.step)⟩
              · rw [if_neg c128] at H
                have c128b0 : decide (1024 ≤ a0) = false := decide_eq_false c128
                clear c128
                obtain rfl := Option.some.inj H
                go_enter Try.func13, Try.ntmps13
                go_wp2
                go_ret
                exact ⟨by first | rfl | (simp; done) | (simp [*]; done), by repeat (first | exact Drawn0.refl _ | apply Drawn0.step)⟩
        · rw [if_neg c122] at H
          have c122b0 : decide (913 ≤ a0) = false := decide_eq_false c122
          clear c122
          by_cases c129 : a0 ≤ 122
          · rw [if_pos c129] at H
            have c129b0 : decide (a0 ≤ 122) = true := decide_eq_true c129
            clear c129
            obtain rfl := Option.some.inj H
            go_enter Try.func13, Try.ntmps13
            go_wp2
            go_ret
            exact ⟨by first | rfl | (simp; done) | (simp [*]; done), by repeat (first | exact Drawn0.refl _ | apply Drawn0.step)⟩
          · rw [if_neg c129] at H
            have c129b0 : decide (a0 ≤ 122) = false := decide_eq_false c129
            clear c129
            by_cases c130 : a0 ≥ 1024
            · rw [if_pos c130] at H
              have c130b0 : decide (1024 ≤ a0) = true := decide_eq_true c130
              clear c130
              obtain rfl := Option.some.inj H
              go_enter Try.func13, Try.ntmps13
              go_wp2
              go_ret
              exact ⟨by first | rfl | (simp; done) | (simp [*]; done), by repeat (first | exact Drawn0.refl _ | apply Drawn0.step)⟩
            · rw [if_neg c130] at H
              have c130b0 : decide (1024 ≤ a0) = false := decide_eq_false c130
              clear c130
              obtain rfl := Option.some.inj H
              go_enter Try.func13, Try.ntmps13
              go_wp2
              go_ret
              exact ⟨by first | rfl | (simp; done) | (simp [*]; done), by repeat (first | exact Drawn0.refl _ | apply Drawn0.step)⟩
    · rw [if_neg c88] at H
      have c88b0 : decide (97 ≤ a0) = false := decide_eq_false c88
      clear c88
      by_cases c131 : a0 ≥ 192
      · rw [if_pos c131] at H
        have c131b0 : decide (192 ≤ a0) = true := decide_eq_true c131
        clear c131
        by_cases c132 : a0 ≤ 383
        · rw [if_pos c132] at H
          have c132b0 : decide (a0 ≤ 383) = true := decide_eq_true c132
          clear c132
          by_cases c133 : a0 = 215
          · rw [if_pos c133] at H
            have c133b0 : (a0 == 215) = true := beq_iff_eq.mpr c133
            have c133b1 : (a0 != 215) = false := bne_eq_false_iff_eq.mpr c133
            clear c133
            by_cases c134 : a0 ≥ 913
            · rw [if_pos c134] at H
              have c134b0 : decide (913 ≤ a0) = true := decide_eq_true c134
              clear c134
              by_cases c135 : a0 ≤ 974
              · rw [if_pos c135] at H
                have c135b0 : decide (a0 ≤ 974) = true := decide_eq_true c135
                clear c135
                by_cases c136 : a0 = 930
                · rw [if_pos c136] at H
                  have c136b0 : (a0 == 930) = true := beq_iff_eq.mpr c136
                  have c136b1 : (a0 != 930) = false := bne_eq_false_iff_eq.mpr c136
                  clear c136
                  by_cases c137 : a0 ≥ 1024
                  · rw [if_pos c137] at H
                    have c137b0 : decide (1024 ≤ a0) = true := decide_eq_true c137
                    clear c137
                    obtain rfl := Option.some.inj H
                    go_enter Try.func13, Try.ntmps13
                    go_wp2
                    go_ret
                    exact ⟨by first | rfl | (simp; done) | (simp [*]; done), by repeat (first | exact Drawn0.refl _ | apply Drawn0.step)⟩
                  · rw [if_neg c137] at H
                    have c137b0 : decide (1024 ≤ a0) = false := decide_eq_false c137
                    clear c137
                    obtain rfl := Option.some.inj H
                    go_enter Try.func13, Try.ntmps13
                    go_wp2
                    go_ret
                    exact ⟨by first | rfl | (simp; done) | (simp [*]; done), by repeat (first | exact Drawn0.refl _ | apply Drawn0.step)⟩
                · rw [if_neg c136] at H
                  have c136b0 : (a0 == 930) = false := beq_eq_false_iff_ne.mpr c136
                  have c136b1 : (a0 != 930) = true := bne_iff_ne.mpr c136
                  obtain rfl := Option.some.inj H
                  go_enter Try.func13, Try.ntmps13
                  go_wp2
                  go_ret
                  exact ⟨by first | rfl | (simp; done) | (simp [*]; done), by repeat (first | exact Drawn0.refl _ | apply Drawn0.step)⟩
              · rw [if_neg c135] at H
                have c135b0 : decide (a0 ≤ 974) = false := decide_eq_false c135
                clear c135
                by_cases c138 : a0 ≥ 1024
                · rw [if_pos c138] at H
                  have c138b0 : decide (1024 ≤ a0) = true := decide_eq_true c138
                  clear c138
                  obtain rfl := Option.some.inj H
                  go_enter Try.func13, Try.ntmps13
                  go_wp2
                  go_ret
                  exact ⟨by first | rfl | (simp; done) | (simp [*]; done), by repeat (first | exact Drawn0.refl _ | apply Drawn0.step)⟩
                · rw [if_neg c138] at H
                  have c138b0 : decide (1024 ≤ a0) = false := decide_eq_false c138
                  clear c138
                  obtain rfl := Option.some.inj H
                  go_enter Try.func13, Try.ntmps13
                  go_wp2
                  go_ret
                  exact ⟨by first | rfl | (simp; done) | (simp [*]; done), by repeat (first | exact Drawn0.refl _ | apply Drawn0.step)⟩
            · rw [if_neg c134] at H
              have c134b0 : decide (913 ≤ a0) = false := decide_eq_false c134
              clear c134
              by_cases c139 : a0 ≥ 1024
              · rw [if_pos c139] at H
                have c139b0 : decide (1024 ≤ a0) = true := decide_eq_true c139
                clear c139
                obtain rfl := Option.some.inj H
                go_enter Try.func13, Try.ntmps13
                go_wp2
                go_ret
                exact ⟨by first | rfl | (simp; done) | (simp [*]; done), by repeat (first | exact Drawn0.refl _ | apply Drawn0.step)⟩
              · rw [if_neg c139] at H
                have c139b0 : decide (1024 ≤ a0) = false := decide_eq_false c139
                clear c139
                obtain rfl := Option.some.inj H
                go_enter Try.func13, Try.ntmps13
                go_wp2
                go_ret
                exact ⟨by first | rfl | (simp; done) | (simp [*]; done), by repeat (first | exact Drawn0.refl _ | apply Drawn0.step)⟩
          · rw [if_neg c133] at H
            have c133b0 : (a0 == 215) = false := beq_eq_false_iff_ne.mpr c133
            have c133b1 : (a0 != 215) = true := bne_iff_ne.mpr c133
            by_cases c140 : a0 ≥ 913
            · rw [if_pos c140] at H
              have c140b0 : decide (913 ≤ a0) = true := decide_eq_true c140
              clear c140
              by_cases c141 : a0 ≤ 974
              · rw [if_pos c141] at H
                have c141b0 : decide (a0 ≤ 974) = true := decide_eq_true c141
                clear c141
                by_cases c142 : a0 = 247
                · rw [if_pos c142] at H
                  have c142b0 : (a0 == 247) = true := beq_iff_eq.mpr c142
                  have c142b1 : (a0 != 247) = false := bne_eq_false_iff_eq.mpr c142
                  clear c142
                  by_cases c143 : a0 = 930
                  · rw [if_pos c143] at H
                    have c143b0 : (a0 == 930) = true := beq_iff_eq.mpr c143
                    have c143b1 : (a0 != 930) = false := bne_eq_false_iff_eq.mpr c143
                    clear c143
                    by_cases c144 : a0 ≥ 1024
                    · rw [if_pos c144] at H
                      have c144b0 : decide (1024 ≤ a0) = true := decide_eq_true c144
                      clear c144
                      obtain rfl := Option.some.inj H
                      go_enter Try.func13, Try.ntmps13
                      go_wp2
                      go_ret
                      exact ⟨by first | rfl | (simp; done) | (simp [*]; done), by repeat (first | exact Drawn0.refl _ | apply Drawn0.step)⟩
                    · rw [if_neg c144] at H
                      have c144b0 : decide (1024 ≤ a0) = false := decide_eq_false c144
                      clear c144
                      obtain rfl := Option.some.inj H
                      go_enter Try.func13, Try.ntmps13
                      go_wp2
                      go_ret
                      exact ⟨by first | rfl | (simp; done) | (simp [*]; done), by repeat (first | exact Drawn0.refl _ | apply Drawn0.step)⟩
                  · rw [if_neg c143] at H
                    have c143b0 : (a0 == 930) = false := beq_eq_false_iff_ne.mpr c143
                    have c143b1 : (a0 != 930) = true := bne_iff_ne.mpr c143
                    obtain rfl := Option.some.inj H
                    go_enter Try.func13, Try.ntmps13
                    go_wp2
                    go_ret
                    exact ⟨by first | rfl | (simp; done) | (simp [*]; done), by repeat (first | exact Drawn0.refl _ | apply Drawn0.step)⟩
                · rw [if_neg c142] at H
                  have c142b0 : (a0 == 247) = false := beq_eq_false_iff_ne.mpr c142
                  have c142b1 : (a0 != 247) = true := bne_iff_ne.mpr c142
                  obtain rfl := Option.some.inj H
                  go_enter Try.func13, Try.ntmps13
                  go_wp2
                  go_ret
                  exact ⟨by first | rfl | (simp; done) | (simp [*]; done), by repeat (first | exact Drawn0.refl _ | apply Drawn0.step)⟩
              · rw [if_neg c141] at H
                have c141b0 : decide (a0 ≤ 974) = false := decide_eq_false c141
                clear c141
                by_cases c145 : a0 = 247
                · rw [if_pos c145] at H
                  have c145b0 : (a0 == 247) = true := beq_iff_eq.mpr c145
                  have c145b1 : (a0 != 247) = false := bne_eq_false_iff_eq.mpr c145
                  clear c145
                  by_cases c146 : a0 ≥ 1024
                  · rw [if_pos c146] at H
                    have c146b0 : decide (1024 ≤ a0) = true := decide_eq_true c146
                    clear c146
                    obtain rfl := Option.some.inj H
                    go_enter Try.func13, Try.ntmps13
                    go_wp2
                    go_ret
                    exact ⟨by first | rfl | (simp; done) | (simp [*]; done), by repeat (first | exact Drawn0.refl _ | apply Drawn0.step)⟩
                  · rw [if_neg c146] at H
                    have c146b0 : decide (1024 ≤ a0) = false := decide_eq_false c146
                    clear c146
                    obtain rfl := Option.some.inj H
                    go_enter Try.func13, Try.ntmps13
                    go_wp2
                    go_ret
                    exact ⟨by first | rfl | (simp; done) | (simp [*]; done), by repeat (first | exact Drawn0.refl _ | apply Drawn0.step)⟩
                · rw [if_neg c145] at H
                  have c145b0 : (a0 == 247) = false := beq_eq_false_iff_ne.mpr c145
                  have c145b1 : (a0 != 247) = true := bne_iff_ne.mpr c145
                  obtain rfl := Option.some.inj H
                  go_enter Try.func13, Try.ntmps13
                  go_wp2
                  go_ret
                  exact ⟨by first | rfl | (simp; done) | (simp [*]; done), by repeat (first | exact Drawn0.refl _ | apply Drawn0.step)⟩
            · rw [if_neg c140] at H
              have c140b0 : decide (913 ≤ a0) = false := decide_eq_false c140
              clear c140
              by_cases c147 : a0 = 247
              · rw [if_pos c147] at H
                have c147b0 : (a0 == 247) = true := beq_iff_eq.mpr c147
                have c147b1 : (a0 != 247) = false := bne_eq_false_iff_eq.mpr c147
                clear c147
                by_cases c148 : a0 ≥ 1024
                · rw [if_pos c148] at H
                  have c148b0 : decide (1024 ≤ a0) = true := decide_eq_true c148
                  clear c148
                  obtain rfl := Option.some.inj H
                  go_enter Try.func13, Try.ntmps13
                  go_wp2
                  go_ret
                  exact ⟨by first | rfl | (simp; done) | (simp [*]; done), by repeat (first | exact Drawn0.refl _ | apply Drawn0.step)⟩
                · rw [if_neg c148] at H
                  have c148b0 : decide (1024 ≤ a0) = false := decide_eq_false c148
                  clear c148
                  obtain rfl := Option.some.inj H
                  go_enter Try.func13, Try.ntmps13
                  go_wp2
                  go_ret
                  exact ⟨by first | rfl | (simp; done) | (simp [*]; done), by repeat (first | exact Drawn0.refl _ | apply Drawn0.step)⟩
              · rw [if_neg c147] at H
                have c147b0 : (a0 == 247) = false := beq_eq_false_iff_ne.mpr c147
                have c147b1 : (a0 != 247) = true := bne_iff_ne.mpr c147
                obtain rfl := Option.some.inj H
                go_enter Try.func13, Try.ntmps13
                go_wp2
                go_ret
                exact ⟨by first | rfl | (simp; done) | (simp [*]; done), by repeat (first | exact Drawn0.refl _ | apply Drawn0.step)⟩
        · rw [if_neg c132] at H
          have c132b0 : decide (a0 ≤ 383) = false := decide_eq_false c132
          clear c132
          by_cases c149 : a0 ≥ 913
          · rw [if_pos c149] at H
            have c149b0 : decide (913 ≤ a0) = true := decide_eq_true c149
            clear c149
            by_cases c150 : a0 ≤ 974
            · rw [if_pos c150] at H
              have c150b0 : decide (a0 ≤ 974) = true := decide_eq_true c150
              clear c150
              by_cases c151 : a0 = 930
              · rw [if_pos c151] at H
                have c151b0 : (a0 == 930) = true := beq_iff_eq.mpr c151
                have c151b1 : (a0 != 930) = false := bne_eq_false_iff_eq.mpr c151
                clear c151
                by_cases c152 : a0 ≥ 1024
                · rw [if_pos c152] at H
                  have c152b0 : decide (1024 ≤ a0) = true := decide_eq_true c152
                  clear c152
                  obtain rfl := Option.some.inj H
                  go_enter Try.func13, Try.ntmps13
                  go_wp2
                  go_ret
                  exact ⟨by first | rfl | (simp; done) | (simp [*]; done), by repeat (first | exact Drawn0.refl _ | apply Drawn0.step)⟩
                · rw [if_neg c152] at H
                  have c152b0 : decide (1024 ≤ a0) = false := decide_eq_false c152
                  clear c152
                  obtain rfl := Option.some.inj H
                  go_enter Try.func13, Try.ntmps13
                  go_wp2
                  go_ret
                  exact ⟨by first | rfl | (simp; done) | (simp [*]; done), by repeat (first | exact Drawn0.refl _ | apply Drawn0.step)⟩
              · rw [if_neg c151] at H
                have c151b0 : (a0 == 930) = false := beq_eq_false_iff_ne.mpr c151
                have c151b1 : (a0 != 930) = true := bne_iff_ne.mpr c151
                obtain rfl := Option.some.inj H
                go_enter Try.func13, Try.ntmps13
                go_wp2
                go_ret
                exact ⟨by first | rfl | (simp; done) | (simp [*]; done), by repeat (first | exact Drawn0.refl _ | apply Drawn0.step)⟩
            · rw [if_neg c150] at H
              have c150b0 : decide (a0 ≤ 974) = false := decide_eq_false c150
              clear c150
              by_cases c153 : a0 ≥ 1024
              · rw [if_pos c153] at H
                have c153b0 : decide (1024 ≤ a0) = true := decide_eq_true c153
                clear c153
                obtain rfl := Option.some.inj H
                go_enter Try.func13, Try.ntmps13
                go_wp2
                go_ret
                exact ⟨by first | rfl | (simp; done) | (simp [*]; done), by repeat (first | exact Drawn0.refl _ | apply Drawn0.step)⟩
              · rw [if_neg c153] at H
                have c153b0 : decide (1024 ≤ a0) = false := decide_eq_false c153
                clear c153
                obtain rfl := Option.some.inj H
                go_enter Try.func13, Try.ntmps13
                go_wp2
                go_ret
                exact ⟨by first | rfl | (simp; done) | (simp [*]; done), by repeat (first | exact Drawn0.refl _ | apply Drawn0.step)⟩
          · rw [if_neg c149] at H
            have c149b0 : decide (913 ≤ a0) = false := decide_eq_false c149
            clear c149
            by_cases c154 : a0 ≥ 1024
            · rw [if_pos c154] at H
              have c154b0 : decide (1024 ≤ a0) = true := decide_eq_true c154
              clear c154
              obtain rfl := Option.some.inj H
              go_enter Try.func13, Try.ntmps13
              go_wp2
              go_ret
              exact ⟨by first | rfl | (simp; done) | (simp [*]; done), by repeat (first | exact Drawn0.refl _ | apply Drawn0.step)⟩
            · rw [if_neg c154] at H
              have c154b0 : decide (1024 ≤ a0) = false := decide_eq_false c154
              clear c154
              obtain rfl := Option.some.inj H
              go_enter Try.func13, Try.ntmps13
              go_wp2
              go_ret
              exact ⟨by first | rfl | (simp; done) | (simp [*]; done), by repeat (first | exact Drawn0.refl _ | apply Drawn0.step)⟩
      · rw [if_neg c131] at H
        have c131b0 : decide (192 ≤ a0) = false := decide_eq_false c131
        clear c131
        by_cases c155 : a0 ≥ 913
        · rw [if_pos c155] at H
          have c155b0 : decide (913 ≤ a0) = true := decide_eq_true c155
          clear c155
          by_cases c156 : a0 ≤ 974
          · rw [if_pos c156] at H
            have c156b0 : decide (a0 ≤ 974) = true := decide_eq_true c156
            clear c156
            by_cases c157 : a0 = 930
            · rw [if_pos c157] at H
              have c157b0 : (a0 == 930) = true := beq_iff_eq.mpr c157
              have c157b1 : (a0 != 930) = false := bne_eq_false_iff_eq.mpr c157
              clear c157
              by_cases c158 : a0 ≥ 1024
              · rw [if_pos c158] at H
                have c158b0 : decide (1024 ≤ a0) = true := decide_eq_true c158
                clear c158
                obtain rfl := Option.some.inj H
                go_enter Try.func13, Try.ntmps13
                go_wp2
                go_ret
                exact ⟨by first | rfl | (simp; done) | (simp [*]; done), by repeat (first | exact Drawn0.refl _ | apply Drawn0.step)⟩
              · rw [if_neg c158] at H
                have c158b0 : decide (1024 ≤ a0) = false := decide_eq_false c158
                clear c158
                obtain rfl := Option.some.inj H
                go_enter Try.func13, Try.ntmps13
                go_wp2
                go_ret
                exact ⟨by first | rfl | (simp; done) | (simp [*]; done), by repeat (first | exact Drawn0.refl _ | apply Drawn0.step)⟩
            · rw [if_neg c157] at H
              have c157b0 : (a0 == 930) = false := beq_eq_false_iff_ne.mpr c157
              have c157b1 : (a0 != 930) = true := bne_iff_ne.mpr c157
              obtain rfl := Option.some.inj H
              go_enter Try.func13, Try.ntmps13
              go_wp2
              go_ret
              exact ⟨by first | rfl | (simp; done) | (simp [*]; done), by repeat (first | exact Drawn0.refl _ | apply Drawn0.step)⟩
          · rw [if_neg c156] at H
            have c156b0 : decide (a0 ≤ 974) = false := decide_eq_false c156
            clear c156
            by_cases c159 : a0 ≥ 1024
            · rw [if_pos c159] at H
              have c159b0 : decide (1024 ≤ a0) = true := decide_eq_true c159
              clear c159
              obtain rfl := Option.some.inj H
              go_enter Try.func13, Try.ntmps13
              go_wp2
              go_ret
              exact ⟨by first | rfl | (simp; done) | (simp [*]; done), by repeat (first | exact Drawn0.refl _ | apply Drawn0.step)⟩
            · rw [if_neg c159] at H
              have c159b0 : decide (1024 ≤ a0) = false := decide_eq_false c159
              clear c159
              obtain rfl := Option.some.inj H
              go_enter Try.func13, Try.ntmps13
              go_wp2
              go_ret
              exact ⟨by first | rfl | (simp; done) | (simp [*]; done), by repeat (first | exact Drawn0.refl _ | apply Drawn0.step)⟩
        · rw [if_neg c155] at H
          have c155b0 : decide (913 ≤ a0) = false := decide_eq_false c155
          clear c155
          by_cases c160 : a0 ≥ 1024
          · rw [if_pos c160] at H
            have c160b0 : decide (1024 ≤ a0) = true := decide_eq_true c160
            clear c160
            obtain rfl := Option.some.inj H
            go_enter Try.func13, Try.ntmps13
            go_wp2
            go_ret
            exact ⟨by first | rfl | (simp; done) | (simp [*]; done), by repeat (first | exact Drawn0.refl _ | apply Drawn0.step)⟩
          · rw [if_neg c160] at H
            have c160b0 : decide (1024 ≤ a0) = false := decide_eq_false c160
            clear c160
            obtain rfl := Option.some.inj H
            go_enter Try.func13, Try.ntmps13
            go_wp2
            go_ret
            exact ⟨by first | rfl | (simp; done) | (simp [*]; done), by repeat (first | exact Drawn0.refl _ | apply Drawn0.step)⟩

end Go.Proofs.Ythpemcchgebecaa.PFold

