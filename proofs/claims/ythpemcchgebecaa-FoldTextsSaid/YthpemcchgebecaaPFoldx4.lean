-- Written by xprint.py of this repo, over the kit's printer and contracts proved by hand.
import Derived.Test.YthpemcchgebecaaPFoldx0
namespace Go.Proofs.Ythpemcchgebecaa.PFold
open Go.RowKit Go.Proofs.YthpemcchgebecaaW.PrintWords Go.Proofs.YthpemcchgebecaaW.PrintLast Go.Proofs.YthpemcchgebecaaW.PrintMore Go.Proofs.Ythpemcchgebecaa.K
attribute [local go_sem] max2_int min2_int max_two min_two max_three min_three max_four min_four   -- for this text's walks alone
set_option linter.unusedVariables false
set_option linter.unusedSimpArgs false

/-! ### manteletref05_Fold: function 17 -/
mutual
def manteletref05_Fold.j0 : Nat → Int → Bool → Option (Int)
  | 0, _, _ => none
  | k + 1, x0, x3 => if (Int.tmod x0 2) = 1 then (if x0 ≥ 313 then (if x0 ≤ 327 then (manteletref05_Fold.j1 k x0 x3 true) else (if x0 ≥ 377 then (manteletref05_Fold.j1 k x0 x3 (decide (x0 ≤ 381))) else (manteletref05_Fold.j1 k x0 x3 false))) else (if x0 ≥ 377 then (manteletref05_Fold.j1 k x0 x3 (decide (x0 ≤ 381))) else (manteletref05_Fold.j1 k x0 x3 false))) else (manteletref05_Fold.j1 k x0 x3 false)
def manteletref05_Fold.j1 : Nat → Int → Bool → Bool → Option (Int)
  | 0, _, _, _ => none
  | k + 1, x0, x3, x4 => if x0 ≥ 65 then (if x0 ≤ 90 then (manteletref05_Fold.j2 k x0 x3 x4 true) else (if x0 ≥ 192 then (if x0 ≤ 222 then (if x0 = 215 then (if x0 ≥ 913 then (if x0 ≤ 939 then (if x0 = 930 then (if x0 ≥ 1040 then (manteletref05_Fold.j2 k x0 x3 x4 (decide (x0 ≤ 1071))) else (manteletref05_Fold.j2 k x0 x3 x4 false)) else (manteletref05_Fold.j2 k x0 x3 x4 true)) else (if x0 ≥ 1040 then (manteletref05_Fold.j2 k x0 x3 x4 (decide (x0 ≤ 1071))) else (manteletref05_Fold.j2 k x0 x3 x4 false))) else (if x0 ≥ 1040 then (manteletref05_Fold.j2 k x0 x3 x4 (decide (x0 ≤ 1071))) else (manteletref05_Fold.j2 k x0 x3 x4 false))) else (manteletref05_Fold.j2 k x0 x3 x4 true)) else (if x0 ≥ 913 then (if x0 ≤ 939 then (if x0 = 930 then (if x0 ≥ 1040 then (manteletref05_Fold.j2 k x0 x3 x4 (decide (x0 ≤ 1071))) else (manteletref05_Fold.j2 k x0 x3 x4 false)) else (manteletref05_Fold.j2 k x0 x3 x4 true)) else (if x0 ≥ 1040 then (manteletref05_Fold.j2 k x0 x3 x4 (decide (x0 ≤ 1071))) else (manteletref05_Fold.j2 k x0 x3 x4 false))) else (if x0 ≥ 1040 then (manteletref05_Fold.j2 k x0 x3 x4 (decide (x0 ≤ 1071))) else (manteletref05_Fold.j2 k x0 x3 x4 false)))) else (if x0 ≥ 913 then (if x0 ≤ 939 then (if x0 = 930 then (if x0 ≥ 1040 then (manteletref05_Fold.j2 k x0 x3 x4 (decide (x0 ≤ 1071))) else (manteletref05_Fold.j2 k x0 x3 x4 false)) else (manteletref05_Fold.j2 k x0 x3 x4 true)) else (if x0 ≥ 1040 then (manteletref05_Fold.j2 k x0 x3 x4 (decide (x0 ≤ 1071))) else (manteletref05_Fold.j2 k x0 x3 x4 false))) else (if x0 ≥ 1040 then (manteletref05_Fold.j2 k x0 x3 x4 (decide (x0 ≤ 1071))) else (manteletref05_Fold.j2 k x0 x3 x4 false))))) else (if x0 ≥ 192 then (if x0 ≤ 222 then (if x0 = 215 then (if x0 ≥ 913 then (if x0 ≤ 939 then (if x0 = 930 then (if x0 ≥ 1040 then (manteletref05_Fold.j2 k x0 x3 x4 (decide (x0 ≤ 1071))) else (manteletref05_Fold.j2 k x0 x3 x4 false)) else (manteletref05_Fold.j2 k x0 x3 x4 true)) else (if x0 ≥ 1040 then (manteletref05_Fold.j2 k x0 x3 x4 (decide (x0 ≤ 1071))) else (manteletref05_Fold.j2 k x0 x3 x4 false))) else (if x0 ≥ 1040 then (manteletref05_Fold.j2 k x0 x3 x4 (decide (x0 ≤ 1071))) else (manteletref05_Fold.j2 k x0 x3 x4 false))) else (manteletref05_Fold.j2 k x0 x3 x4 true)) else (if x0 ≥ 913 then (if x0 ≤ 939 then (if x0 = 930 then (if x0 ≥ 1040 then (manteletref05_Fold.j2 k x0 x3 x4 (decide (x0 ≤ 1071))) else (manteletref05_Fold.j2 k x0 x3 x4 false)) else (manteletref05_Fold.j2 k x0 x3 x4 true)) else (if x0 ≥ 1040 then (manteletref05_Fold.j2 k x0 x3 x4 (decide (x0 ≤ 1071))) else (manteletref05_Fold.j2 k x0 x3 x4 false))) else (if x0 ≥ 1040 then (manteletref05_Fold.j2 k x0 x3 x4 (decide (x0 ≤ 1071))) else (manteletref05_Fold.j2 k x0 x3 x4 false)))) else (if x0 ≥ 913 then (if x0 ≤ 939 then (if x0 = 930 then (if x0 ≥ 1040 then (manteletref05_Fold.j2 k x0 x3 x4 (decide (x0 ≤ 1071))) else (manteletref05_Fold.j2 k x0 x3 x4 false)) else (manteletref05_Fold.j2 k x0 x3 x4 true)) else (if x0 ≥ 1040 then (manteletref05_Fold.j2 k x0 x3 x4 (decide (x0 ≤ 1071))) else (manteletref05_Fold.j2 k x0 x3 x4 false))) else (if x0 ≥ 1040 then (manteletref05_Fold.j2 k x0 x3 x4 (decide (x0 ≤ 1071))) else (manteletref05_Fold.j2 k x0 x3 x4 false))))
def manteletref05_Fold.j2 : Nat → Int → Bool → Bool → Bool → Option (Int)
  | 0, _, _, _, _ => none
  | k + 1, x0, x3, x4, x5 => if x5 = true then (some (wrap32 (x0 + 32))) else (if x3 = true then (manteletref05_Fold.j3 k x0 true) else (if x4 = true then (manteletref05_Fold.j3 k x0 true) else (manteletref05_Fold.j3 k x0 (x0 == 962))))
def manteletref05_Fold.j3 : Nat → Int → Bool → Option (Int)
  | 0, _, _ => none
  | k + 1, x0, x94 => if x94 = true then (some (wrap32 (x0 + 1))) else (if x0 = 376 then (some 255) else (if x0 ≥ 1024 then (if x0 ≤ 1039 then (some (wrap32 (x0 + 80))) else (some x0)) else (some x0)))
end
def manteletref05_Fold.f (k : Nat) (a0 : Int) : Option (Int) := if (Int.tmod a0 2) = 0 then (if a0 ≥ 256 then (if a0 ≤ 302 then (manteletref05_Fold.j0 k a0 true) else (if a0 ≥ 306 then (if a0 ≤ 310 then (manteletref05_Fold.j0 k a0 true) else (if a0 ≥ 330 then (manteletref05_Fold.j0 k a0 (decide (a0 ≤ 374))) else (manteletref05_Fold.j0 k a0 false))) else (if a0 ≥ 330 then (manteletref05_Fold.j0 k a0 (decide (a0 ≤ 374))) else (manteletref05_Fold.j0 k a0 false)))) else (if a0 ≥ 306 then (if a0 ≤ 310 then (manteletref05_Fold.j0 k a0 true) else (if a0 ≥ 330 then (manteletref05_Fold.j0 k a0 (decide (a0 ≤ 374))) else (manteletref05_Fold.j0 k a0 false))) else (if a0 ≥ 330 then (manteletref05_Fold.j0 k a0 (decide (a0 ≤ 374))) else (manteletref05_Fold.j0 k a0 false)))) else (manteletref05_Fold.j0 k a0 false)
theorem manteletref05_Fold.mono_l : ∀ k, (∀ y0 y1, LeO (manteletref05_Fold.j0 k y0 y1) (manteletref05_Fold.j0 (k + 1) y0 y1)) ∧ (∀ y0 y1 y2, LeO (manteletref05_Fold.j1 k y0 y1 y2) (manteletref05_Fold.j1 (k + 1) y0 y1 y2)) ∧ (∀ y0 y1 y2 y3, LeO (manteletref05_Fold.j2 k y0 y1 y2 y3) (manteletref05_Fold.j2 (k + 1) y0 y1 y2 y3)) ∧ (∀ y0 y1, LeO (manteletref05_Fold.j3 k y0 y1) (manteletref05_Fold.j3 (k + 1) y0 y1))
  | 0 => ⟨fun _ _ r h => by simp [manteletref05_Fold.j0] at h, fun _ _ _ r h => by simp [manteletref05_Fold.j1] at h, fun _ _ _ _ r h => by simp [manteletref05_Fold.j2] at h, fun _ _ r h => by simp [manteletref05_Fold.j3] at h⟩
  | k + 1 => by
    obtain ⟨ih0, ih1, ih2, ih3⟩ := manteletref05_Fold.mono_l k
    refine ⟨?_, ?_, ?_, ?_⟩
    · intro y0 y1
      unfold manteletref05_Fold.j0
      repeat' first
      | (with_reducible exact ih0 _ _)
      | (with_reducible exact ih1 _ _ _)
      | (with_reducible exact ih2 _ _ _ _)
      | (with_reducible exact ih3 _ _)
      | (with_reducible exact LeO.refl _)
      | (with_reducible exact LeO.none _)
      | (with_reducible refine LeO.ite ?_ ?_)
      | (with_reducible refine LeO.bind ?_ (fun _ => ?_))
      | exact ih0 _ _
      | exact ih1 _ _ _
      | exact ih2 _ _ _ _
      | exact ih3 _ _
      | exact LeO.none _
      | refine LeO.ite ?_ ?_
      | refine LeO.bind ?_ (fun _ => ?_)
    · intro y0 y1 y2
      unfold manteletref05_Fold.j1
      repeat' first
      | (with_reducible exact ih0 _ _)
      | (with_reducible exact ih1 _ _ _)
      | (with_reducible exact ih2 _ _ _ _)
      | (with_reducible exact ih3 _ _)
      | (with_reducible exact LeO.refl _)
      | (with_reducible exact LeO.none _)
      | (with_reducible refine LeO.ite ?_ ?_)
      | (with_reducible refine LeO.bind ?_ (fun _ => ?_))
      | exact ih0 _ _
      | exact ih1 _ _ _
      | exact ih2 _ _ _ _
      | exact ih3 _ _
      | exact LeO.none _
      | refine LeO.ite ?_ ?_
      | refine LeO.bind ?_ (fun _ => ?_)
    · intro y0 y1 y2 y3
      unfold manteletref05_Fold.j2
      repeat' first
      | (with_reducible exact ih0 _ _)
      | (with_reducible exact ih1 _ _ _)
      | (with_reducible exact ih2 _ _ _ _)
      | (with_reducible exact ih3 _ _)
      | (with_reducible exact LeO.refl _)
      | (with_reducible exact LeO.none _)
      | (with_reducible refine LeO.ite ?_ ?_)
      | (with_reducible refine LeO.bind ?_ (fun _ => ?_))
      | exact ih0 _ _
      | exact ih1 _ _ _
      | exact ih2 _ _ _ _
      | exact ih3 _ _
      | exact LeO.none _
      | refine LeO.ite ?_ ?_
      | refine LeO.bind ?_ (fun _ => ?_)
    · intro y0 y1
      unfold manteletref05_Fold.j3
      repeat' first
      | (with_reducible exact ih0 _ _)
      | (with_reducible exact ih1 _ _ _)
      | (with_reducible exact ih2 _ _ _ _)
      | (with_reducible exact ih3 _ _)
      | (with_reducible exact LeO.refl _)
      | (with_reducible exact LeO.none _)
      | (with_reducible refine LeO.ite ?_ ?_)
      | (with_reducible refine LeO.bind ?_ (fun _ => ?_))
      | exact ih0 _ _
      | exact ih1 _ _ _
      | exact ih2 _ _ _ _
      | exact ih3 _ _
      | exact LeO.none _
      | refine LeO.ite ?_ ?_
      | refine LeO.bind ?_ (fun _ => ?_)
theorem manteletref05_Fold.mono : ∀ a0 k, LeO (manteletref05_Fold.f k a0) (manteletref05_Fold.f (k + 1) a0) := by
  intro a0 k
  obtain ⟨ih0, ih1, ih2, ih3⟩ := manteletref05_Fold.mono_l k
  unfold manteletref05_Fold.f
  repeat' first
      | (with_reducible exact ih0 _ _)
      | (with_reducible exact ih1 _ _ _)
      | (with_reducible exact ih2 _ _ _ _)
      | (with_reducible exact ih3 _ _)
      | (with_reducible exact LeO.refl _)
      | (with_reducible exact LeO.none _)
      | (with_reducible refine LeO.ite ?_ ?_)
      | (with_reducible refine LeO.bind ?_ (fun _ => ?_))
      | exact ih0 _ _
      | exact ih1 _ _ _
      | exact ih2 _ _ _ _
      | exact ih3 _ _
      | exact LeO.none _
      | refine LeO.ite ?_ ?_
      | refine LeO.bind ?_ (fun _ => ?_)
set_option maxHeartbeats 8000000 in
set_option maxRecDepth 100000 in
theorem manteletref05_Fold.calls (k : Nat) (a0 : Int) (r : Int) (w : World) (h : manteletref05_Fold.f k a0 = some r) :
    Calls Try.prog 17 #[.int .i32 a0] w fun e w' => e = .returned (.int .i32 r) ∧ Drawn0 w w' := by
  have H : (if (Int.tmod a0 2) = 0 then (if a0 ≥ 256 then (if a0 ≤ 302 then (manteletref05_Fold.j0 k a0 true) else (if a0 ≥ 306 then (if a0 ≤ 310 then (manteletref05_Fold.j0 k a0 true) else (if a0 ≥ 330 then (manteletref05_Fold.j0 k a0 (decide (a0 ≤ 374))) else (manteletref05_Fold.j0 k a0 false))) else (if a0 ≥ 330 then (manteletref05_Fold.j0 k a0 (decide (a0 ≤ 374))) else (manteletref05_Fold.j0 k a0 false)))) else (if a0 ≥ 306 then (if a0 ≤ 310 then (manteletref05_Fold.j0 k a0 true) else (if a0 ≥ 330 then (manteletref05_Fold.j0 k a0 (decide (a0 ≤ 374))) else (manteletref05_Fold.j0 k a0 false))) else (if a0 ≥ 330 then (manteletref05_Fold.j0 k a0 (decide (a0 ≤ 374))) else (manteletref05_Fold.j0 k a0 false)))) else (manteletref05_Fold.j0 k a0 false)) = some r := h
  clear h
  have HC2 := Aside0.mk H
  clear H
  go_enter Try.func17, Try.ntmps17
  go_upto_region 1 with (fail)
  go_cut [3] (fun v3 wc => ∃ (kq : Nat) (x3_1 : Bool), v3 = .bool x3_1 ∧ Aside0 (manteletref05_Fold.j0 kq a0 x3_1 = some r) ∧ Aside0 (kq ≤ k) ∧ Drawn0 w wc)
  case first => as_aux_lemma =>
    have H := HC2.out
    clear HC2
    by_cases c3 : (Int.tmod a0 2) = 0
    · rw [if_pos c3] at H
      have c3b0 : ((Int.tmod a0 2) == 0) = true := beq_iff_eq.mpr c3
      have c3b1 : ((Int.tmod a0 2) != 0) = false := bne_eq_false_iff_eq.mpr c3
      clear c3
      (first | rw [c3b0] | (simp only [i64_w, i32_w]; rw [c3b0]) | skip)
      by_cases c4 : a0 ≥ 256
      · rw [if_pos c4] at H
        have c4b0 : decide (256 ≤ a0) = true := decide_eq_true c4
        clear c4
        by_cases c5 : a0 ≤ 302
        · rw [if_pos c5] at H
          have c5b0 : decide (a0 ≤ 302) = true := decide_eq_true c5
          clear c5
          have H' := Aside0.mk H
          clear H
          go_wp2
          go_meet
          case rel => exact ⟨_, (true), (by first | rfl | (simp; done) | (simp [*]; done)), H', ⟨by first | omega | exact Nat.le_refl _⟩, by repeat (first | exact Drawn0.refl _ | apply Drawn0.step)⟩
        · rw [if_neg c5] at H
          have c5b0 : decide (a0 ≤ 302) = false := decide_eq_false c5
          clear c5
          by_cases c6 : a0 ≥ 306
          · rw [if_pos c6] at H
            have c6b0 : decide (306 ≤ a0) = true := decide_eq_true c6
            clear c6
            by_cases c7 : a0 ≤ 310
            · rw [if_pos c7] at H
              have c7b0 : decide (a0 ≤ 310) = true := decide_eq_true c7
              clear c7
              have H' := Aside0.mk H
              clear H
              go_wp2
              go_meet
              case rel => exact ⟨_, (true), (by first | rfl | (simp; done) | (simp [*]; done)), H', ⟨by first | omega | exact Nat.le_refl _⟩, by repeat (first | exact Drawn0.refl _ | apply Drawn0.step)⟩
            · rw [if_neg c7] at H
              have c7b0 : decide (a0 ≤ 310) = false := decide_eq_false c7
              clear c7
              by_cases c8 : a0 ≥ 330
              · rw [if_pos c8] at H
                have c8b0 : decide (330 ≤ a0) = true := decide_eq_true c8
                clear c8
                have H' := Aside0.mk H
                clear H
                go_wp2
                go_meet
                case rel => exact ⟨_, (decide (a0 ≤ 374)), (by first | rfl | (simp; done) | (simp [*]; done)), H', ⟨by first | omega | exact Nat.le_refl _⟩, by repeat (first | exact Drawn0.refl _ | apply Drawn0.step)⟩
              · rw [if_neg c8] at H
                have c8b0 : decide (330 ≤ a0) = false := decide_eq_false c8
                clear c8
                have H' := Aside0.mk H
                clear H
                go_wp2
                go_meet
                case rel => exact ⟨_, (false), (by first | rfl | (simp; done) | (simp [*]; done)), H', ⟨by first | omega | exact Nat.le_refl _⟩, by repeat (first | exact Drawn0.refl _ | apply Drawn0.step)⟩
          · rw [if_neg c6] at H
            have c6b0 : decide (306 ≤ a0) = false := decide_eq_false c6
            clear c6
            by_cases c9 : a0 ≥ 330
            · rw [if_pos c9] at H
              have c9b0 : decide (330 ≤ a0) = true := decide_eq_true c9
              clear c9
              have H' := Aside0.mk H
              clear H
              go_wp2
              go_meet
              case rel => exact ⟨_, (decide (a0 ≤ 374)), (by first | rfl | (simp; done) | (simp [*]; done)), H', ⟨by first | omega | exact Nat.le_refl _⟩, by repeat (first | exact Drawn0.refl _ | apply Drawn0.step)⟩
            · rw [if_neg c9] at H
              have c9b0 : decide (330 ≤ a0) = false := decide_eq_false c9
              clear c9
              have H' := Aside0.mk H
              clear H
              go_wp2
              go_meet
              case rel => exact ⟨_, (false), (by first | rfl | (simp; done) | (simp [*]; done)), H', ⟨by first | omega | exact Nat.le_refl _⟩, by repeat (first | exact Drawn0.refl _ | apply Drawn0.step)⟩
      · rw [if_neg c4] at H
        have c4b0 : decide (256 ≤ a0) = false := decide_eq_false c4
        clear c4
        by_cases c10 : a0 ≥ 306
        · rw [if_pos c10] at H
          have c10b0 : decide (306 ≤ a0) = true := decide_eq_true c10
          clear c10
          by_cases c11 : a0 ≤ 310
          · rw [if_pos c11] at H
            have c11b0 : decide (a0 ≤ 310) = true := decide_eq_true c11
            clear c11
            have H' := Aside0.mk H
            clear H
            go_wp2
            go_meet
            case rel => exact ⟨_, (true), (by first | rfl | (simp; done) | (simp [*]; done)), H', ⟨by first | omega | exact Nat.le_refl _⟩, by repeat (first | exact Drawn0.refl _ | apply Drawn0.step)⟩
          · rw [if_neg c11] at H
            have c11b0 : decide (a0 ≤ 310) = false := decide_eq_false c11
            clear c11
            by_cases c12 : a0 ≥ 330
            · rw [if_pos c12] at H
              have c12b0 : decide (330 ≤ a0) = true := decide_eq_true c12
              clear c12
              have H' := Aside0.mk H
              clear H
              go_wp2
              go_meet
              case rel => exact ⟨_, (decide (a0 ≤ 374)), (by first | rfl | (simp; done) | (simp [*]; done)), H', ⟨by first | omega | exact Nat.le_refl _⟩, by repeat (first | exact Drawn0.refl _ | apply Drawn0.step)⟩
            · rw [if_neg c12] at H
              have c12b0 : decide (330 ≤ a0) = false := decide_eq_false c12
              clear c12
              have H' := Aside0.mk H
              clear H
              go_wp2
              go_meet
              case rel => exact ⟨_, (false), (by first | rfl | (simp; done) | (simp [*]; done)), H', ⟨by first | omega | exact Nat.le_refl _⟩, by repeat (first | exact Drawn0.refl _ | apply Drawn0.step)⟩
        · rw [if_neg c10] at H
          have c10b0 : decide (306 ≤ a0) = false := decide_eq_false c10
          clear c10
          by_cases c13 : a0 ≥ 330
          · rw [if_pos c13] at H
            have c13b0 : decide (330 ≤ a0) = true := decide_eq_true c13
            clear c13
            have H' := Aside0.mk H
            clear H
            go_wp2
            go_meet
            case rel => exact ⟨_, (decide (a0 ≤ 374)), (by first | rfl | (simp; done) | (simp [*]; done)), H', ⟨by first | omega | exact Nat.le_refl _⟩, by repeat (first | exact Drawn0.refl _ | apply Drawn0.step)⟩
          · rw [if_neg c13] at H
            have c13b0 : decide (330 ≤ a0) = false := decide_eq_false c13
            clear c13
            have H' := Aside0.mk H
            clear H
            go_wp2
            go_meet
            case rel => exact ⟨_, (false), (by first | rfl | (simp; done) | (simp [*]; done)), H', ⟨by first | omega | exact Nat.le_refl _⟩, by repeat (first | exact Drawn0.refl _ | apply Drawn0.step)⟩
    · rw [if_neg c3] at H
      have c3b0 : ((Int.tmod a0 2) == 0) = false := beq_eq_false_iff_ne.mpr c3
      have c3b1 : ((Int.tmod a0 2) != 0) = true := bne_iff_ne.mpr c3
      (first | rw [c3b0] | (simp only [i64_w, i32_w]; rw [c3b0]) | skip)
      have H' := Aside0.mk H
      clear H
      go_wp2
      go_meet
      case rel => exact ⟨_, (false), (by first | rfl | (simp; done) | (simp [*]; done)), H', ⟨by first | omega | exact Nat.le_refl _⟩, by repeat (first | exact Drawn0.refl _ | apply Drawn0.step)⟩
  case rest =>
    clear HC2
    try clear c1
    try clear p2
    try clear c3
    try clear c3b0
    try clear c3b1
    try clear c4
    try clear c4b0
    try clear c5
    try clear c5b0
    try clear c6
    try clear c6b0
    try clear c7
    try clear c7b0
    try clear c8
    try clear c8b0
    try clear c9
    try clear c9b0
    try clear c10
    try clear c10b0
    try clear c11
    try clear c11b0
    try clear c12
    try clear c12b0
    try clear c13
    try clear c13b0
    obtain ⟨kq, x3_1, rfl, HA, HJ1, ⟨mc1, rfl⟩⟩ := hcut
    cases kq with
    | zero => exact absurd HA.out (by simp [manteletref05_Fold.j0])
    | succ kj1 =>
      have H := HA.out
      clear HA
      simp only [manteletref05_Fold.j0] at H
      have HC14 := Aside0.mk H
      clear H
      go_upto_region 2 with (fail)
      go_cut [4] (fun v4 wc => ∃ (kq : Nat) (x4_13 : Bool), v4 = .bool x4_13 ∧ Aside0 (manteletref05_Fold.j1 kq a0 x3_1 x4_13 = some r) ∧ Aside0 (kq ≤ kj1) ∧ Drawn0 w wc)
      case first => as_aux_lemma =>
        have H := HC14.out
        clear HC14
        by_cases c15 : (Int.tmod a0 2) = 1
        · rw [if_pos c15] at H
          have c15b0 : ((Int.tmod a0 2) == 1) = true := beq_iff_eq.mpr c15
          have c15b1 : ((Int.tmod a0 2) != 1) = false := bne_eq_false_iff_eq.mpr c15
          clear c15
          (first | rw [c15b0] | (simp only [i64_w, i32_w]; rw [c15b0]) | skip)
          by_cases c16 : a0 ≥ 313
          · rw [if_pos c16] at H
            have c16b0 : decide (313 ≤ a0) = true := decide_eq_true c16
            clear c16
            by_cases c17 : a0 ≤ 327
            · rw [if_pos c17] at H
              have c17b0 : decide (a0 ≤ 327) = true := decide_eq_true c17
              clear c17
              have H' := Aside0.mk H
              clear H
              go_wp2
              go_meet
              case rel => exact ⟨_, (true), (by first | rfl | (simp; done) | (simp [*]; done)), H', ⟨by have := HJ1.out; first | omega | exact Nat.le_refl _⟩, by repeat (first | exact Drawn0.refl _ | apply Drawn0.step)⟩
            · rw [if_neg c17] at H
              have c17b0 : decide (a0 ≤ 327) = false := decide_eq_false c17
              clear c17
              by_cases c18 : a0 ≥ 377
              · rw [if_pos c18] at H
                have c18b0 : decide (377 ≤ a0) = true := decide_eq_true c18
                clear c18
                have H' := Aside0.mk H
                clear H
                go_wp2
                go_meet
                case rel => exact ⟨_, (decide (a0 ≤ 381)), (by first | rfl | (simp; done) | (simp [*]; done)), H', ⟨by have := HJ1.out; first | omega | exact Nat.le_refl _⟩, by repeat (first | exact Drawn0.refl _ | apply Drawn0.step)⟩
              · rw [if_neg c18] at H
                have c18b0 : decide (377 ≤ a0) = false := decide_eq_false c18
                clear c18
                have H' := Aside0.mk H
                clear H
                go_wp2
                go_meet
                case rel => exact ⟨_, (false), (by first | rfl | (simp; done) | (simp [*]; done)), H', ⟨by have := HJ1.out; first | omega | exact Nat.le_refl _⟩, by repeat (first | exact Drawn0.refl _ | apply Drawn0.step)⟩
          · rw [if_neg c16] at H
            have c16b0 : decide (313 ≤ a0) = false := decide_eq_false c16
            clear c16
            by_cases c19 : a0 ≥ 377
            · rw [if_pos c19] at H
              have c19b0 : decide (377 ≤ a0) = true := decide_eq_true c19
              clear c19
              have H' := Aside0.mk H
              clear H
              go_wp2
              go_meet
              case rel => exact ⟨_, (decide (a0 ≤ 381)), (by first | rfl | (simp; done) | (simp [*]; done)), H', ⟨by have := HJ1.out; first | omega | exact Nat.le_refl _⟩, by repeat (first | exact Drawn0.refl _ | apply Drawn0.step)⟩
            · rw [if_neg c19] at H
              have c19b0 : decide (377 ≤ a0) = false := decide_eq_false c19
              clear c19
              have H' := Aside0.mk H
              clear H
              go_wp2
              go_meet
              case rel => exact ⟨_, (false), (by first | rfl | (simp; done) | (simp [*]; done)), H', ⟨by have := HJ1.out; first | omega | exact Nat.le_refl _⟩, by repeat (first | exact Drawn0.refl _ | apply Drawn0.step)⟩
        · rw [if_neg c15] at H
          have c15b0 : ((Int.tmod a0 2) == 1) = false := beq_eq_false_iff_ne.mpr c15
          have c15b1 : ((Int.tmod a0 2) != 1) = true := bne_iff_ne.mpr c15
          (first | rw [c15b0] | (simp only [i64_w, i32_w]; rw [c15b0]) | skip)
          have H' := Aside0.mk H
          clear H
          go_wp2
          go_meet
          case rel => exact ⟨_, (false), (by first | rfl | (simp; done) | (simp [*]; done)), H', ⟨by have := HJ1.out; first | omega | exact Nat.le_refl _⟩, by repeat (first | exact Drawn0.refl _ | apply Drawn0.step)⟩
      case rest =>
        clear HC14
        try clear c1
        try clear p2
        try clear c3
        try clear c3b0
        try clear c3b1
        try clear c4
        try clear c4b0
        try clear c5
        try clear c5b0
        try clear c6
        try clear c6b0
        try clear c7
        try clear c7b0
        try clear c8
        try clear c8b0
        try clear c9
        try clear c9b0
        try clear c10
        try clear c10b0
        try clear c11
        try clear c11b0
        try clear c12
        try clear c12b0
        try clear c13
        try clear c13b0
        try clear c15
        try clear c15b0
        try clear c15b1
        try clear c16
        try clear c16b0
        try clear c17
        try clear c17b0
        try clear c18
        try clear c18b0
        try clear c19
        try clear c19b0
        try clear p2
        obtain ⟨kq, x4_13, rfl, HA, HJ13, ⟨mc13, rfl⟩⟩ := hcut
        cases kq with
        | zero => exact absurd HA.out (by simp [manteletref05_Fold.j1])
        | succ kj13 =>
          have H := HA.out
          clear HA
          simp only [manteletref05_Fold.j1] at H
          have HC20 := Aside0.mk H
          clear H
          go_upto_region 3 with (fail)
          go_cut [5] (fun v5 wc => ∃ (kq : Nat) (x5_19 : Bool), v5 = .bool x5_19 ∧ Aside0 (manteletref05_Fold.j2 kq a0 x3_1 x4_13 x5_19 = some r) ∧ Aside0 (kq ≤ kj13) ∧ Drawn0 w wc)
          case first => as_aux_lemma =>
            have H := HC20.out
            clear HC20
            by_cases c21 : a0 ≥ 65
            · rw [if_pos c21] at H
              have c21b0 : decide (65 ≤ a0) = true := decide_eq_true c21
              clear c21
              (first | rw [c21b0] | (simp only [i64_w, i32_w]; rw [c21b0]) | skip)
              by_cases c22 : a0 ≤ 90
              · rw [if_pos c22] at H
                have c22b0 : decide (a0 ≤ 90) = true := decide_eq_true c22
                clear c22
                have H' := Aside0.mk H
                clear H
                go_wp2
                go_meet
                case rel => exact ⟨_, (true), (by first | rfl | (simp; done) | (simp [*]; done)), H', ⟨by have := HJ1.out; have := HJ13.out; first | omega | exact Nat.le_refl _⟩, by repeat (first | exact Drawn0.refl _ | apply Drawn0.step)⟩
              · rw [if_neg c22] at H
                have c22b0 : decide (a0 ≤ 90) = false := decide_eq_false c22
                clear c22
                by_cases c23 : a0 ≥ 192
                · rw [if_pos c23] at H
                  have c23b0 : decide (192 ≤ a0) = true := decide_eq_true c23
                  clear c23
                  by_cases c24 : a0 ≤ 222
                  · rw [if_pos c24] at H
                    have c24b0 : decide (a0 ≤ 222) = true := decide_eq_true c24
                    clear c24
                    by_cases c25 : a0 = 215
                    · rw [if_pos c25] at H
                      have c25b0 : (a0 == 215) = true := beq_iff_eq.mpr c25
                      have c25b1 : (a0 != 215) = false := bne_eq_false_iff_eq.mpr c25
                      clear c25
                      by_cases c26 : a0 ≥ 913
                      · rw [if_pos c26] at H
                        have c26b0 : decide (913 ≤ a0) = true := decide_eq_true c26
                        clear c26
                        by_cases c27 : a0 ≤ 939
                        · rw [if_pos c27] at H
                          have c27b0 : decide (a0 ≤ 939) = true := decide_eq_true c27
                          clear c27
                          by_cases c28 : a0 = 930
                          · rw [if_pos c28] at H
                            have c28b0 : (a0 == 930) = true := beq_iff_eq.mpr c28
                            have c28b1 : (a0 != 930) = false := bne_eq_false_iff_eq.mpr c28
                            clear c28
                            by_cases c29 : a0 ≥ 1040
                            · rw [if_pos c29] at H
                              have c29b0 : decide (1040 ≤ a0) = true := decide_eq_true c29
                              clear c29
                              have H' := Aside0.mk H
                              clear H
                              go_wp2
                              go_meet
                              case rel => exact ⟨_, (decide (a0 ≤ 1071)), (by first | rfl | (simp; done) | (simp [*]; done)), H', ⟨by have := HJ1.out; have := HJ13.out; first | omega | exact Nat.le_refl _⟩, by repeat (first | exact Drawn0.refl _ | apply Drawn0.step)⟩
                            · rw [if_neg c29] at H
                              have c29b0 : decide (1040 ≤ a0) = false := decide_eq_false c29
                              clear c29
                              have H' := Aside0.mk H
                              clear H
                              go_wp2
                              go_meet
                              case rel => exact ⟨_, (false), (by first | rfl | (simp; done) | (simp [*]; done)), H', ⟨by have := HJ1.out; have := HJ13.out; first | omega | exact Nat.le_refl _⟩, by repeat (first | exact Drawn0.refl _ | apply Drawn0.step)⟩
                          · rw [if_neg c28] at H
                            have c28b0 : (a0 == 930) = false := beq_eq_false_iff_ne.mpr c28
                            have c28b1 : (a0 != 930) = true := bne_iff_ne.mpr c28
                            have H' := Aside0.mk H
                            clear H
                            go_wp2
                            go_meet
                            case rel => exact ⟨_, (true), (by first | rfl | (simp; done) | (simp [*]; done)), H', ⟨by have := HJ1.out; have := HJ13.out; first | omega | exact Nat.le_refl _⟩, by repeat (first | exact Drawn0.refl _ | apply Drawn0.step)⟩
                        · rw [if_neg c27] at H
                          have c27b0 : decide (a0 ≤ 939) = false := decide_eq_false c27
                          clear c27
                          by_cases c30 : a0 ≥ 1040
                          · rw [if_pos c30] at H
                            have c30b0 : decide (1040 ≤ a0) = true := decide_eq_true c30
                            clear c30
                            have H' := Aside0.mk H
                            clear H
                            go_wp2
                            go_meet
                            case rel => exact ⟨_, (decide (a0 ≤ 1071)), (by first | rfl | (simp; done) | (simp [*]; done)), H', ⟨by have := HJ1.out; have := HJ13.out; first | omega | exact Nat.le_refl _⟩, by repeat (first | exact Drawn0.refl _ | apply Drawn0.step)⟩
                          · rw [if_neg c30] at H
                            have c30b0 : decide (1040 ≤ a0) = false := decide_eq_false c30
                            clear c30
                            have H' := Aside0.mk H
                            clear H
                            go_wp2
                            go_meet
                            case rel => exact ⟨_, (false), (by first | rfl | (simp; done) | (simp [*]; done)), H', ⟨by have := HJ1.out; have := HJ13.out; first | omega | exact Nat.le_refl _⟩, by repeat (first | exact Drawn0.refl _ | apply Drawn0.step)⟩
                      · rw [if_neg c26] at H
                        have c26b0 : decide (913 ≤ a0) = false := decide_eq_false c26
                        clear c26
                        by_cases c31 : a0 ≥ 1040
                        · rw [if_pos c31] at H
                          have c31b0 : decide (1040 ≤ a0) = true := decide_eq_true c31
                          clear c31
                          have H' := Aside0.mk H
                          clear H
                          go_wp2
                          go_meet
                          case rel => exact ⟨_, (decide (a0 ≤ 1071)), (by first | rfl | (simp; done) | (simp [*]; done)), H', ⟨by have := HJ1.out; have := HJ13.out; first | omega | exact Nat.le_refl _⟩, by repeat (first | exact Drawn0.refl _ | apply Drawn0.step)⟩
                        · rw [if_neg c31] at H
                          have c31b0 : decide (1040 ≤ a0) = false := decide_eq_false c31
                          clear c31
                          have H' := Aside0.mk H
                          clear H
                          go_wp2
                          go_meet
                          case rel => exact ⟨_, (false), (by first | rfl | (simp; done) | (simp [*]; done)), H', ⟨by have := HJ1.out; have := HJ13.out; first | omega | exact Nat.le_refl _⟩, by repeat (first | exact Drawn0.refl _ | apply Drawn0.step)⟩
                    · rw [if_neg c25] at H
                      have c25b0 : (a0 == 215) = false := beq_eq_false_iff_ne.mpr c25
                      have c25b1 : (a0 != 215) = true := bne_iff_ne.mpr c25
                      have H' := Aside0.mk H
                      clear H
                      go_wp2
                      go_meet
                      case rel => exact ⟨_, (true), (by first | rfl | (simp; done) | (simp [*]; done)), H', ⟨by have := HJ1.out; have := HJ13.out; first | omega | exact Nat.le_refl _⟩, by repeat (first | exact Drawn0.refl _ | apply Drawn0.step)⟩
                  · rw [if_neg c24] at H
                    have c24b0 : decide (a0 ≤ 222) = false := decide_eq_false c24
                    clear c24
                    by_cases c32 : a0 ≥ 913
                    · rw [if_pos c32] at H
                      have c32b0 : decide (913 ≤ a0) = true := decide_eq_true c32
                      clear c32
                      by_cases c33 : a0 ≤ 939
                      · rw [if_pos c33] at H
                        have c33b0 : decide (a0 ≤ 939) = true := decide_eq_true c33
                        clear c33
                        by_cases c34 : a0 = 930
                        · rw [if_pos c34] at H
                          have c34b0 : (a0 == 930) = true := beq_iff_eq.mpr c34
                          have c34b1 : (a0 != 930) = false := bne_eq_false_iff_eq.mpr c34
                          clear c34
                          by_cases c35 : a0 ≥ 1040
                          · rw [if_pos c35] at H
                            have c35b0 : decide (1040 ≤ a0) = true := decide_eq_true c35
                            clear c35
                            have H' := Aside0.mk H
                            clear H
                            go_wp2
                            go_meet
                            case rel => exact ⟨_, (decide (a0 ≤ 1071)), (by first | rfl | (simp; done) | (simp [*]; done)), H', ⟨by have := HJ1.out; have := HJ13.out; first | omega | exact Nat.le_refl _⟩, by repeat (first | exact Drawn0.refl _ | apply Drawn0.step)⟩
                          · rw [if_neg c35] at H
                            have c35b0 : decide (1040 ≤ a0) = false := decide_eq_false c35
                            clear c35
                            have H' := Aside0.mk H
                            clear H
                            go_wp2
                            go_meet
                            case rel => exact ⟨_, (false), (by first | rfl | (simp; done) | (simp [*]; done)), H', ⟨by have := HJ1.out; have := HJ13.out; first | omega | exact Nat.le_refl _⟩, by repeat (first | exact Drawn0.refl _ | apply Drawn0.step)⟩
                        · rw [if_neg c34] at H
                          have c34b0 : (a0 == 930) = false := beq_eq_false_iff_ne.mpr c34
                          have c34b1 : (a0 != 930) = true := bne_iff_ne.mpr c34
                          have H' := Aside0.mk H
                          clear H
                          go_wp2
                          go_meet
                          case rel => exact ⟨_, (true), (by first | rfl | (simp; done) | (simp [*]; done)), H', ⟨by have := HJ1.out; have := HJ13.out; first | omega | exact Nat.le_refl _⟩, by repeat (first | exact Drawn0.refl _ | apply Drawn0.step)⟩
                      · rw [if_neg c33] at H
                        have c33b0 : decide (a0 ≤ 939) = false := decide_eq_false c33
                        clear c33
                        by_cases c36 : a0 ≥ 1040
                        · rw [if_pos c36] at H
                          have c36b0 : decide (1040 ≤ a0) = true := decide_eq_true c36
                          clear c36
                          have H' := Aside0.mk H
                          clear H
                          go_wp2
                          go_meet
                          case rel => exact ⟨_, (decide (a0 ≤ 1071)), (by first | rfl | (simp; done) | (simp [*]; done)), H', ⟨by have := HJ1.out; have := HJ13.out; first | omega | exact Nat.le_refl _⟩, by repeat (first | exact Drawn0.refl _ | apply Drawn0.step)⟩
                        · rw [if_neg c36] at H
                          have c36b0 : decide (1040 ≤ a0) = false := decide_eq_false c36
                          clear c36
                          have H' := Aside0.mk H
                          clear H
                          go_wp2
                          go_meet
                          case rel => exact ⟨_, (false), (by first | rfl | (simp; done) | (simp [*]; done)), H', ⟨by have := HJ1.out; have := HJ13.out; first | omega | exact Nat.le_refl _⟩, by repeat (first | exact Drawn0.refl _ | apply Drawn0.step)⟩
                    · rw [if_neg c32] at H
                      have c32b0 : decide (913 ≤ a0) = false := decide_eq_false c32
                      clear c32
                      by_cases c37 : a0 ≥ 1040
                      · rw [if_pos c37] at H
                        have c37b0 : decide (1040 ≤ a0) = true := decide_eq_true c37
                        clear c37
                        have H' := Aside0.mk H
                        clear H
                        go_wp2
                        go_meet
                        case rel => exact ⟨_, (decide (a0 ≤ 1071)), (by first | rfl | (simp; done) | (simp [*]; done)), H', ⟨by have := HJ1.out; have := HJ13.out; first | omega | exact Nat.le_refl _⟩, by repeat (first | exact Drawn0.refl _ | apply Drawn0.step)⟩
                      · rw [if_neg c37] at H
                        have c37b0 : decide (1040 ≤ a0) = false := decide_eq_false c37
                        clear c37
                        have H' := Aside0.mk H
                        clear H
                        go_wp2
                        go_meet
                        case rel => exact ⟨_, (false), (by first | rfl | (simp; done) | (simp [*]; done)), H', ⟨by have := HJ1.out; have := HJ13.out; first | omega | exact Nat.le_refl _⟩, by repeat (first | exact Drawn0.refl _ | apply Drawn0.step)⟩
                · rw [if_neg c23] at H
                  have c23b0 : decide (192 ≤ a0) = false := decide_eq_false c23
                  clear c23
                  by_cases c38 : a0 ≥ 913
                  · rw [if_pos c38] at H
                    have c38b0 : decide (913 ≤ a0) = true := decide_eq_true c38
                    clear c38
                    by_cases c39 : a0 ≤ 939
                    · rw [if_pos c39] at H
                      have c39b0 : decide (a0 ≤ 939) = true := decide_eq_true c39
                      clear c39
                      by_cases c40 : a0 = 930
                      · rw [if_pos c40] at H
                        have c40b0 : (a0 == 930) = true := beq_iff_eq.mpr c40
                        have c40b1 : (a0 != 930) = false := bne_eq_false_iff_eq.mpr c40
                        clear c40
                        by_cases c41 : a0 ≥ 1040
                        · rw [if_pos c41] at H
                          have c41b0 : decide (1040 ≤ a0) = true := decide_eq_true c41
                          clear c41
                          have H' := Aside0.mk H
                          clear H
                          go_wp2
                          go_meet
                          case rel => exact ⟨_, (decide (a0 ≤ 1071)), (by first | rfl | (simp; done) | (simp [*]; done)), H', ⟨by have := HJ1.out; have := HJ13.out; first | omega | exact Nat.le_refl _⟩, by repeat (first | exact Drawn0.refl _ | apply Drawn0.step)⟩
                        · rw [if_neg c41] at H
                          have c41b0 : decide (1040 ≤ a0) = false := decide_eq_false c41
                          clear c41
                          have H' := Aside0.mk H
                          clear H
                          go_wp2
                          go_meet
                          case rel => exact ⟨_, (false), (by first | rfl | (simp; done) | (simp [*]; done)), H', ⟨by have := HJ1.out; have := HJ13.out; first | omega | exact Nat.le_refl _⟩, by repeat (first | exact Drawn0.refl _ | apply Drawn0.step)⟩
                      · rw [if_neg c40] at H
                        have c40b0 : (a0 == 930) = false := beq_eq_false_iff_ne.mpr c40
                        have c40b1 : (a0 != 930) = true := bne_iff_ne.mpr c40
                        have H' := Aside0.mk H
                        clear H
                        go_wp2
                        go_meet
                        case rel => exact ⟨_, (true), (by first | rfl | (simp; done) | (simp [*]; done)), H', ⟨by have := HJ1.out; have := HJ13.out; first | omega | exact Nat.le_refl _⟩, by repeat (first | exact Drawn0.refl _ | apply Drawn0.step)⟩
                    · rw [if_neg c39] at H
                      have c39b0 : decide (a0 ≤ 939) = false := decide_eq_false c39
                      clear c39
                      by_cases c42 : a0 ≥ 1040
                      · rw [if_pos c42] at H
                        have c42b0 : decide (1040 ≤ a0) = true := decide_eq_true c42
                        clear c42
                        have H' := Aside0.mk H
                        clear H
                        go_wp2
                        go_meet
                        case rel => exact ⟨_, (decide (a0 ≤ 1071)), (by first | rfl | (simp; done) | (simp [*]; done)), H', ⟨by have := HJ1.out; have := HJ13.out; first | omega | exact Nat.le_refl _⟩, by repeat (first | exact Drawn0.refl _ | apply Drawn0.step)⟩
                      · rw [if_neg c42] at H
                        have c42b0 : decide (1040 ≤ a0) = false := decide_eq_false c42
                        clear c42
                        have H' := Aside0.mk H
                        clear H
                        go_wp2
                        go_meet
                        case rel => exact ⟨_, (false), (by first | rfl | (simp; done) | (simp [*]; done)), H', ⟨by have := HJ1.out; have := HJ13.out; first | omega | exact Nat.le_refl _⟩, by repeat (first | exact Drawn0.refl _ | apply Drawn0.step)⟩
                  · rw [if_neg c38] at H
                    have c38b0 : decide (913 ≤ a0) = false := decide_eq_false c38
                    clear c38
                    by_cases c43 : a0 ≥ 1040
                    · rw [if_pos c43] at H
                      have c43b0 : decide (1040 ≤ a0) = true := decide_eq_true c43
                      clear c43
                      have H' := Aside0.mk H
                      clear H
                      go_wp2
                      go_meet
                      case rel => exact ⟨_, (decide (a0 ≤ 1071)), (by first | rfl | (simp; done) | (simp [*]; done)), H', ⟨by have := HJ1.out; have := HJ13.out; first | omega | exact Nat.le_refl _⟩, by repeat (first | exact Drawn0.refl _ | apply Drawn0.step)⟩
                    · rw [if_neg c43] at H
                      have c43b0 : decide (1040 ≤ a0) = false := decide_eq_false c43
                      clear c43
                      have H' := Aside0.mk H
                      clear H
                      go_wp2
                      go_meet
                      case rel => exact ⟨_, (false), (by first | rfl | (simp; done) | (simp [*]; done)), H', ⟨by have := HJ1.out; have := HJ13.out; first | omega | exact Nat.le_refl _⟩, by repeat (first | exact Drawn0.refl _ | apply Drawn0.step)⟩
            · rw [if_neg c21] at H
              have c21b0 : decide (65 ≤ a0) = false := decide_eq_false c21
              clear c21
              (first | rw [c21b0] | (simp only [i64_w, i32_w]; rw [c21b0]) | skip)
              by_cases c44 : a0 ≥ 192
              · rw [if_pos c44] at H
                have c44b0 : decide (192 ≤ a0) = true := decide_eq_true c44
                clear c44
                by_cases c45 : a0 ≤ 222
                · rw [if_pos c45] at H
                  have c45b0 : decide (a0 ≤ 222) = true := decide_eq_true c45
                  clear c45
                  by_cases c46 : a0 = 215
                  · rw [if_pos c46] at H
                    have c46b0 : (a0 == 215) = true := beq_iff_eq.mpr c46
                    have c46b1 : (a0 != 215) = false := bne_eq_false_iff_eq.mpr c46
                    clear c46
                    by_cases c47 : a0 ≥ 913
                    · rw [if_pos c47] at H
                      have c47b0 : decide (913 ≤ a0) = true := decide_eq_true c47
                      clear c47
                      by_cases c48 : a0 ≤ 939
                      · rw [if_pos c48] at H
                        have c48b0 : decide (a0 ≤ 939) = true := decide_eq_true c48
                        clear c48
                        by_cases c49 : a0 = 930
                        · rw [if_pos c49] at H
                          have c49b0 : (a0 == 930) = true := beq_iff_eq.mpr c49
                          have c49b1 : (a0 != 930) = false := bne_eq_false_iff_eq.mpr c49
                          clear c49
                          by_cases c50 : a0 ≥ 1040
                          · rw [if_pos c50] at H
                            have c50b0 : decide (1040 ≤ a0) = true := decide_eq_true c50
                            clear c50
                            have H' := Aside0.mk H
                            clear H
                            go_wp2
                            go_meet
                            case rel => exact ⟨_, (decide (a0 ≤ 1071)), (by first | rfl | (simp; done) | (simp [*]; done)), H', ⟨by have := HJ1.out; have := HJ13.out; first | omega | exact Nat.le_refl _⟩, by repeat (first | exact Drawn0.refl _ | apply Drawn0.step)⟩
                          · rw [if_neg c50] at H
                            have c50b0 : decide (1040 ≤ a0) = false := decide_eq_false c50
                            clear c50
                            have H' := Aside0.mk H
                            clear H
                            go_wp2
                            go_meet
                            case rel => exact ⟨_, (false), (by first | rfl | (simp; done) | (simp [*]; done)), H', ⟨by have := HJ1.out; have := HJ13.out; first | omega | exact Nat.le_refl _⟩, by repeat (first | exact Drawn0.refl _ | apply Drawn0.step)⟩
                        · rw [if_neg c49] at H
                          have c49b0 : (a0 == 930) = false := beq_eq_false_iff_ne.mpr c49
                          have c49b1 : (a0 != 930) = true := bne_iff_ne.mpr c49
                          have H' := Aside0.mk H
                          clear H
                          go_wp2
                          go_meet
                          case rel => exact ⟨_, (true), (by first | rfl | (simp; done) | (simp [*]; done)), H', ⟨by have := HJ1.out; have := HJ13.out; first | omega | exact Nat.le_refl _⟩, by repeat (first | exact Drawn0.refl _ | apply Drawn0.step)⟩
                      · rw [if_neg c48] at H
                        have c48b0 : decide (a0 ≤ 939) = false := decide_eq_false c48
                        clear c48
                        by_cases c51 : a0 ≥ 1040
                        · rw [if_pos c51] at H
                          have c51b0 : decide (1040 ≤ a0) = true := decide_eq_true c51
                          clear c51
                          have H' := Aside0.mk H
                          clear H
                          go_wp2
                          go_meet
                          case rel => exact ⟨_, (decide (a0 ≤ 1071)), (by first | rfl | (simp; done) | (simp [*]; done)), H', ⟨by have := HJ1.out; have := HJ13.out; first | omega | exact Nat.le_refl _⟩, by repeat (first | exact Drawn0.refl _ | apply Drawn0.step)⟩
                        · rw [if_neg c51] at H
                          have c51b0 : decide (1040 ≤ a0) = false := decide_eq_false c51
                          clear c51
                          have H' := Aside0.mk H
                          clear H
                          go_wp2
                          go_meet
                          case rel => exact ⟨_, (false), (by first | rfl | (simp; done) | (simp [*]; done)), H', ⟨by have := HJ1.out; have := HJ13.out; first | omega | exact Nat.le_refl _⟩, by repeat (first | exact Drawn0.refl _ | apply Drawn0.step)⟩
                    · rw [if_neg c47] at H
                      have c47b0 : decide (913 ≤ a0) = false := decide_eq_false c47
                      clear c47
                      by_cases c52 : a0 ≥ 1040
                      · rw [if_pos c52] at H
                        have c52b0 : decide (1040 ≤ a0) = true := decide_eq_true c52
                        clear c52
                        have H' := Aside0.mk H
                        clear H
                        go_wp2
                        go_meet
                        case rel => exact ⟨_, (decide (a0 ≤ 1071)), (by first | rfl | (simp; done) | (simp [*]; done)), H', ⟨by have := HJ1.out; have := HJ13.out; first | omega | exact Nat.le_refl _⟩, by repeat (first | exact Drawn0.refl _ | apply Drawn0.step)⟩
                      · rw [if_neg c52] at H
                        have c52b0 : decide (1040 ≤ a0) = false := decide_eq_false c52
                        clear c52
                        have H' := Aside0.mk H
                        clear H
                        go_wp2
                        go_meet
                        case rel => exact ⟨_, (false), (by first | rfl | (simp; done) | (simp [*]; done)), H', ⟨by have := HJ1.out; have := HJ13.out; first | omega | exact Nat.le_refl _⟩, by repeat (first | exact Drawn0.refl _ | apply Drawn0.step)⟩
                  · rw [if_neg c46] at H
                    have c46b0 : (a0 == 215) = false := beq_eq_false_iff_ne.mpr c46
                    have c46b1 : (a0 != 215) = true := bne_iff_ne.mpr c46
                    have H' := Aside0.mk H
                    clear H
                    go_wp2
                    go_meet
                    case rel => exact ⟨_, (true), (by first | rfl | (simp; done) | (simp [*]; done)), H', ⟨by have := HJ1.out; have := HJ13.out; first | omega | exact Nat.le_refl _⟩, by repeat (first | exact Drawn0.refl _ | apply Drawn0.step)⟩
                · rw [if_neg c45] at H
                  have c45b0 : decide (a0 ≤ 222) = false := decide_eq_false c45
                  clear c45
                  by_cases c53 : a0 ≥ 913
                  · rw [if_pos c53] at H
                    have c53b0 : decide (913 ≤ a0) = true := decide_eq_true c53
                    clear c53
                    by_cases c54 : a0 ≤ 939
                    · rw [if_pos c54] at H
                      have c54b0 : decide (a0 ≤ 939) = true := decide_eq_true c54
                      clear c54
                      by_cases c55 : a0 = 930
                      · rw [if_pos c55] at H
                        have c55b0 : (a0 == 930) = true := beq_iff_eq.mpr c55
                        have c55b1 : (a0 != 930) = false := bne_eq_false_iff_eq.mpr c55
                        clear c55
                        by_cases c56 : a0 ≥ 1040
                        · rw [if_pos c56] at H
                          have c56b0 : decide (1040 ≤ a0) = true := decide_eq_true c56
                          clear c56
                          have H' := Aside0.mk H
                          clear H
                          go_wp2
                          go_meet
                          case rel => exact ⟨_, (decide (a0 ≤ 1071)), (by first | rfl | (simp; done) | (simp [*]; done)), H', ⟨by have := HJ1.out; have := HJ13.out; first | omega | exact Nat.le_refl _⟩, by repeat (first | exact Drawn0.refl _ | apply Drawn0.step)⟩
                        · rw [if_neg c56] at H
                          have c56b0 : decide (1040 ≤ a0) = false := decide_eq_false c56
                          clear c56
                          have H' := Aside0.mk H
                          clear H
                          go_wp2
                          go_meet
                          case rel => exact ⟨_, (false), (by first | rfl | (simp; done) | (simp [*]; done)), H', ⟨by have := HJ1.out; have := HJ13.out; first | omega | exact Nat.le_refl _⟩, by repeat (first | exact Drawn0.refl _ | apply Drawn0.step)⟩
                      · rw [if_neg c55] at H
                        have c55b0 : (a0 == 930) = false := beq_eq_false_iff_ne.mpr c55
                        have c55b1 : (a0 != 930) = true := bne_iff_ne.mpr c55
                        have H' := Aside0.mk H
                        clear H
                        go_wp2
                        go_meet
                        case rel => exact ⟨_, (true), (by first | rfl | (simp; done) | (simp [*]; done)), H', ⟨by have := HJ1.out; have := HJ13.out; first | omega | exact Nat.le_refl _⟩, by repeat (first | exact Drawn0.refl _ | apply Drawn0.step)⟩
                    · rw [if_neg c54] at H
                      have c54b0 : decide (a0 ≤ 939) = false := decide_eq_false c54
                      clear c54
                      by_cases c57 : a0 ≥ 1040
                      · rw [if_pos c57] at H
                        have c57b0 : decide (1040 ≤ a0) = true := decide_eq_true c57
                        clear c57
                        have H' := Aside0.mk H
                        clear H
                        go_wp2
                        go_meet
                        case rel => exact ⟨_, (decide (a0 ≤ 1071)), (by first | rfl | (simp; done) | (simp [*]; done)), H', ⟨by have := HJ1.out; have := HJ13.out; first | omega | exact Nat.le_refl _⟩, by repeat (first | exact Drawn0.refl _ | apply Drawn0.step)⟩
                      · rw [if_neg c57] at H
                        have c57b0 : decide (1040 ≤ a0) = false := decide_eq_false c57
                        clear c57
                        have H' := Aside0.mk H
                        clear H
                        go_wp2
                        go_meet
                        case rel => exact ⟨_, (false), (by first | rfl | (simp; done) | (simp [*]; done)), H', ⟨by have := HJ1.out; have := HJ13.out; first | omega | exact Nat.le_refl _⟩, by repeat (first | exact Drawn0.refl _ | apply Drawn0.step)⟩
                  · rw [if_neg c53] at H
                    have c53b0 : decide (913 ≤ a0) = false := decide_eq_false c53
                    clear c53
                    by_cases c58 : a0 ≥ 1040
                    · rw [if_pos c58] at H
                      have c58b0 : decide (1040 ≤ a0) = true := decide_eq_true c58
                      clear c58
                      have H' := Aside0.mk H
                      clear H
                      go_wp2
                      go_meet
                      case rel => exact ⟨_, (decide (a0 ≤ 1071)), (by first | rfl | (simp; done) | (simp [*]; done)), H', ⟨by have := HJ1.out; have := HJ13.out; first | omega | exact Nat.le_refl _⟩, by repeat (first | exact Drawn0.refl _ | apply Drawn0.step)⟩
                    · rw [if_neg c58] at H
                      have c58b0 : decide (1040 ≤ a0) = false := decide_eq_false c58
                      clear c58
                      have H' := Aside0.mk H
                      clear H
                      go_wp2
                      go_meet
                      case rel => exact ⟨_, (false), (by first | rfl | (simp; done) | (simp [*]; done)), H', ⟨by have := HJ1.out; have := HJ13.out; first | omega | exact Nat.le_refl _⟩, by repeat (first | exact Drawn0.refl _ | apply Drawn0.step)⟩
              · rw [if_neg c44] at H
                have c44b0 : decide (192 ≤ a0) = false := decide_eq_false c44
                clear c44
                by_cases c59 : a0 ≥ 913
                · rw [if_pos c59] at H
                  have c59b0 : decide (913 ≤ a0) = true := decide_eq_true c59
                  clear c59
                  by_cases c60 : a0 ≤ 939
                  · rw [if_pos c60] at H
                    have c60b0 : decide (a0 ≤ 939) = true := decide_eq_true c60
                    clear c60
                    by_cases c61 : a0 = 930
                    · rw [if_pos c61] at H
                      have c61b0 : (a0 == 930) = true := beq_iff_eq.mpr c61
                      have c61b1 : (a0 != 930) = false := bne_eq_false_iff_eq.mpr c61
                      clear c61
                      by_cases c62 : a0 ≥ 1040
                      · rw [if_pos c62] at H
                        have c62b0 : decide (1040 ≤ a0) = true := decide_eq_true c62
                        clear c62
                        have H' := Aside0.mk H
                        clear H
                        go_wp2
                        go_meet
                        case rel => exact ⟨_, (decide (a0 ≤ 1071)), (by first | rfl | (simp; done) | (simp [*]; done)), H', ⟨by have := HJ1.out; have := HJ13.out; first | omega | exact Nat.le_refl _⟩, by repeat (first | exact Drawn0.refl _ | apply Drawn0.step)⟩
                      · rw [if_neg c62] at H
                        have c62b0 : decide (1040 ≤ a0) = false := decide_eq_false c62
                        clear c62
                        have H' := Aside0.mk H
                        clear H
                        go_wp2
                        go_meet
                        case rel => exact ⟨_, (false), (by first | rfl | (simp; done) | (simp [*]; done)), H', ⟨by have := HJ1.out; have := HJ13.out; first | omega | exact Nat.le_refl _⟩, by repeat (first | exact Drawn0.refl _ | apply Drawn0.step)⟩
                    · rw [if_neg c61] at H
                      have c61b0 : (a0 == 930) = false := beq_eq_false_iff_ne.mpr c61
                      have c61b1 : (a0 != 930) = true := bne_iff_ne.mpr c61
                      have H' := Aside0.mk H
                      clear H
                      go_wp2
                      go_meet
                      case rel => exact ⟨_, (true), (by first | rfl | (simp; done) | (simp [*]; done)), H', ⟨by have := HJ1.out; have := HJ13.out; first | omega | exact Nat.le_refl _⟩, by repeat (first | exact Drawn0.refl _ | apply Drawn0.step)⟩
                  · rw [if_neg c60] at H
                    have c60b0 : decide (a0 ≤ 939) = false := decide_eq_false c60
                    clear c60
                    by_cases c63 : a0 ≥ 1040
                    · rw [if_pos c63] at H
                      have c63b0 : decide (1040 ≤ a0) = true := decide_eq_true c63
                      clear c63
                      have H' := Aside0.mk H
                      clear H
                      go_wp2
                      go_meet
                      case rel => exact ⟨_, (decide (a0 ≤ 1071)), (by first | rfl | (simp; done) | (simp [*]; done)), H', ⟨by have := HJ1.out; have := HJ13.out; first | omega | exact Nat.le_refl _⟩, by repeat (first | exact Drawn0.refl _ | apply Drawn0.step)⟩
                    · rw [if_neg c63] at H
                      have c63b0 : decide (1040 ≤ a0) = false := decide_eq_false c63
                      clear c63
                      have H' := Aside0.mk H
                      clear H
                      go_wp2
                      go_meet
                      case rel => exact ⟨_, (false), (by first | rfl | (simp; done) | (simp [*]; done)), H', ⟨by have := HJ1.out; have := HJ13.out; first | omega | exact Nat.le_refl _⟩, by repeat (first | exact Drawn0.refl _ | apply Drawn0.step)⟩
                · rw [if_neg c59] at H
                  have c59b0 : decide (913 ≤ a0) = false := decide_eq_false c59
                  clear c59
                  by_cases c64 : a0 ≥ 1040
                  · rw [if_pos c64] at H
                    have c64b0 : decide (1040 ≤ a0) = true := decide_eq_true c64
                    clear c64
                    have H' := Aside0.mk H
                    clear H
                    go_wp2
                    go_meet
                    case rel => exact ⟨_, (decide (a0 ≤ 1071)), (by first | rfl | (simp; done) | (simp [*]; done)), H', ⟨by have := HJ1.out; have := HJ13.out; first | omega | exact Nat.le_refl _⟩, by repeat (first | exact Drawn0.refl _ | apply Drawn0.step)⟩
                  · rw [if_neg c64] at H
                    have c64b0 : decide (1040 ≤ a0) = false := decide_eq_false c64
                    clear c64
                    have H' := Aside0.mk H
                    clear H
                    go_wp2
                    go_meet
                    case rel => exact ⟨_, (false), (by first | rfl | (simp; done) | (simp [*]; done)), H', ⟨by have := HJ1.out; have := HJ13.out; first | omega | exact Nat.le_refl _⟩, by repeat (first | exact Drawn0.refl _ | apply Drawn0.step)⟩
          case rest =>
            clear HC20
            try clear c1
            try clear c2
            try clear p2
            try clear c3
            try clear c3b0
            try clear c3b1
            try clear c4
            try clear c4b0
            try clear c5
            try clear c5b0
            try clear c6
            try clear c6b0
            try clear c7
            try clear c7b0
            try clear c8
            try clear c8b0
            try clear c9
            try clear c9b0
            try clear c10
            try clear c10b0
            try clear c11
            try clear c11b0
            try clear c12
            try clear c12b0
            try clear c13
            try clear c13b0
            try clear c15
            try clear c15b0
            try clear c15b1
            try clear c16
            try clear c16b0
            try clear c17
            try clear c17b0
            try clear c18
            try clear c18b0
            try clear c19
            try clear c19b0
            try clear c21
            try clear c21b0
            try clear c22
            try clear c22b0
            try clear c23
            try clear c23b0
            try clear c24
            try clear c24b0
            try clear c25
            try clear c25b0
            try clear c25b1
            try clear c26
            try clear c26b0
            try clear c27
            try clear c27b0
            try clear c28
            try clear c28b0
            try clear c28b1
            try clear c29
            try clear c29b0
            try clear c30
            try clear c30b0
            try clear c31
            try clear c31b0
            try clear c32
            try clear c32b0
            try clear c33
            try clear c33b0
            try clear c34
            try clear c34b0
            try clear c34b1
            try clear c35
            try clear c35b0
            try clear c36
            try clear c36b0
            try clear c37
            try clear c37b0
            try clear c38
            try clear c38b0
            try clear c39
            try clear c39b0
            try clear c40
            try clear c40b0
            try clear c40b1
            try clear c41
            try clear c41b0
            try clear c42
            try clear c42b0
            try clear c43
            try clear c43b0
            try clear c44
            try clear c44b0
            try clear c45
            try clear c45b0
            try clear c46
            try clear c46b0
            try clear c46b1
            try clear c47
            try clear c47b0
            try clear c48
            try clear c48b0
            try clear c49
            try clear c49b0
            try clear c49b1
            try clear c50
            try clear c50b0
            try clear c51
            try clear c51b0
            try clear c52
            try clear c52b0
            try clear c53
            try clear c53b0
            try clear c54
            try clear c54b0
            try clear c55
            try clear c55b0
            try clear c55b1
            try clear c56
            try clear c56b0
            try clear c57
            try clear c57b0
            try clear c58
            try clear c58b0
            try clear c59
            try clear c59b0
            try clear c60
            try clear c60b0
            try clear c61
            try clear c61b0
            try clear c61b1
            try clear c62
            try clear c62b0
            try clear c63
            try clear c63b0
            try clear c64
            try clear c64b0
            try clear p2
            obtain ⟨kq, x5_19, rfl, HA, HJ19, ⟨mc19, rfl⟩⟩ := hcut
            cases kq with
            | zero => exact absurd HA.out (by simp [manteletref05_Fold.j2])
            | succ kj19 =>
              have H := HA.out
              clear HA
              simp only [manteletref05_Fold.j2] at H
              by_cases c65 : x5_19 = true
              · subst c65
                have H1 : (some (wrap32 (a0 + 32))) = some r := by rw [if_pos rfl] at H; exact H
                clear H
                have H := H1
                clear H1
                obtain rfl := Option.some.inj H
                go_wp2
                go_ret
                exact ⟨by first | rfl | (simp; done) | (simp [*]; done), by repeat (first | exact Drawn0.refl _ | apply Drawn0.step)⟩
              · replace c65 := Bool.eq_false_iff.mpr c65
                subst c65
                have H1 : (if x3_1 = true then (manteletref05_Fold.j3 kj19 a0 true) else (if x4_13 = true then (manteletref05_Fold.j3 kj19 a0 true) else (manteletref05_Fold.j3 kj19 a0 (a0 == 962)))) = some r := by rw [if_neg (show ¬ (false = true) by decide)] at H; exact H
                clear H
                have H := H1
                clear H1
                have HC66 := Aside0.mk H
                clear H
                go_upto_region 6 with (fail)
                go_cut [94] (fun v94 wc => ∃ (kq : Nat) (x94_65 : Bool), v94 = .bool x94_65 ∧ Aside0 (manteletref05_Fold.j3 kq a0 x94_65 = some r) ∧ Aside0 (kq ≤ kj19) ∧ Drawn0 w wc)
                case first => as_aux_lemma =>
                  have H := HC66.out
                  clear HC66
                  by_cases c67 : x3_1 = true
                  · subst c67
                    have H1 : (manteletref05_Fold.j3 kj19 a0 true) = some r := by rw [if_pos rfl] at H; exact H
                    clear H
                    have H := H1
                    clear H1
                    have H' := Aside0.mk H
                    clear H
                    go_wp2
                    go_meet
                    case rel => exact ⟨_, (true), (by first | rfl | (simp; done) | (simp [*]; done)), H', ⟨by have := HJ1.out; have := HJ13.out; have := HJ19.out; first | omega | exact Nat.le_refl _⟩, by repeat (first | exact Drawn0.refl _ | apply Drawn0.step)⟩
                  · replace c67 := Bool.eq_false_iff.mpr c67
                    subst c67
                    have H1 : (if x4_13 = true then (manteletref05_Fold.j3 kj19 a0 true) else (manteletref05_Fold.j3 kj19 a0 (a0 == 962))) = some r := by rw [if_neg (show ¬ (false = true) by decide)] at H; exact H
                    clear H
                    have H := H1
                    clear H1
                    by_cases c68 : x4_13 = true
                    · subst c68
                      have H1 : (manteletref05_Fold.j3 kj19 a0 true) = some r := by rw [if_pos rfl] at H; exact H
                      clear H
                      have H := H1
                      clear H1
                      have H' := Aside0.mk H
                      clear H
                      go_wp2
                      go_meet
                      case rel => exact ⟨_, (true), (by first | rfl | (simp; done) | (simp [*]; done)), H', ⟨by have := HJ1.out; have := HJ13.out; have := HJ19.out; first | omega | exact Nat.le_refl _⟩, by repeat (first | exact Drawn0.refl _ | apply Drawn0.step)⟩
                    · replace c68 := Bool.eq_false_iff.mpr c68
                      subst c68
                      have H1 : (manteletref05_Fold.j3 kj19 a0 (a0 == 962)) = some r := by rw [if_neg (show ¬ (false = true) by decide)] at H; exact H
                      clear H
                      have H := H1
                      clear H1
                      have H' := Aside0.mk H
                      clear H
                      go_wp2
                      go_meet
                      case rel => exact ⟨_, ((a0 == 962)), (by first | rfl | (simp; done) | (simp [*]; done)), H', ⟨by have := HJ1.out; have := HJ13.out; have := HJ19.out; first | omega | exact Nat.le_refl _⟩, by repeat (first | exact Drawn0.refl _ | apply Drawn0.step)⟩
                case rest =>
                  clear HC66
                  try clear c1
                  try clear c2
                  try clear p2
                  try clear c3
                  try clear c3b0
                  try clear c3b1
                  try clear p3
                  try clear c4
                  try clear c4b0
                  try clear c5
                  try clear c5b0
                  try clear c6
                  try clear c6b0
                  try clear c7
                  try clear c7b0
                  try clear c8
                  try clear c8b0
                  try clear c9
                  try clear c9b0
                  try clear c10
                  try clear c10b0
                  try clear c11
                  try clear c11b0
                  try clear c12
                  try clear c12b0
                  try clear c13
                  try clear c13b0
                  try clear c15
                  try clear c15b0
                  try clear c15b1
                  try clear c16
                  try clear c16b0
                  try clear c17
                  try clear c17b0
                  try clear c18
                  try clear c18b0
                  try clear c19
                  try clear c19b0
                  try clear c21
                  try clear c21b0
                  try clear c22
                  try clear c22b0
                  try clear c23
                  try clear c23b0
                  try clear c24
                  try clear c24b0
                  try clear c25
                  try clear c25b0
                  try clear c25b1
                  try clear c26
                  try clear c26b0
                  try clear c27
                  try clear c27b0
                  try clear c28
                  try clear c28b0
                  try clear c28b1
                  try clear c29
                  try clear c29b0
                  try clear c30
                  try clear c30b0
                  try clear c31
                  try clear c31b0
                  try clear c32
                  try clear c32b0
                  try clear p32
                  try clear c33
                  try clear c33b0
                  try clear c34
                  try clear c34b0
                  try clear c34b1
                  try clear c35
                  try clear c35b0
                  try clear c36
                  try clear c36b0
                  try clear c37
                  try clear c37b0
                  try clear c38
                  try clear c38b0
                  try clear c39
                  try clear c39b0
                  try clear c40
                  try clear c40b0
                  try clear c40b1
                  try clear c41
                  try clear c41b0
                  try clear c42
                  try clear c42b0
                  try clear c43
                  try clear c43b0
                  try clear c44
                  try clear c44b0
                  try clear c45
                  try clear c45b0
                  try clear c46
                  try clear c46b0
                  try clear c46b1
                  try clear c47
                  try clear c47b0
                  try clear c48
                  try clear c48b0
                  try clear c49
                  try clear c49b0
                  try clear c49b1
                  try clear c50
                  try clear c50b0
                  try clear c51
                  try clear c51b0
                  try clear c52
                  try clear c52b0
                  try clear c53
                  try clear c53b0
                  try clear c54
                  try clear c54b0
                  try clear c55
                  try clear c55b0
                  try clear c55b1
                  try clear c56
                  try clear c56b0
                  try clear c57
                  try clear c57b0
                  try clear c58
                  try clear c58b0
                  try clear c59
                  try clear c59b0
                  try clear c60
                  try clear c60b0
                  try clear c61
                  try clear c61b0
                  try clear c61b1
                  try clear c62
                  try clear c62b0
                  try clear c63
                  try clear c63b0
                  try clear c64
                  try clear c64b0
                  try clear c65
                  try clear c67
                  try clear c68
                  try clear p2
                  obtain ⟨kq, x94_65, rfl, HA, HJ65, ⟨mc65, rfl⟩⟩ := hcut
                  cases kq with
                  | zero => exact absurd HA.out (by simp [manteletref05_Fold.j3])
                  | succ kj65 =>
                    have H := HA.out
                    clear HA
                    simp only [manteletref05_Fold.j3] at H
                    by_cases c69 : x94_65 = true
                    · subst c69
                      have H1 : (some (wrap32 (a0 + 1))) = some r := by rw [if_pos rfl] at H; exact H
                      clear H
                      have H := H1
                      clear H1
                      obtain rfl := Option.some.inj H
                      go_wp2
                      go_ret
                      exact ⟨by first | rfl | (simp; done) | (simp [*]; done), by repeat (first | exact Drawn0.refl _ | apply Drawn0.step)⟩
                    · replace c69 := Bool.eq_false_iff.mpr c69
                      subst c69
                      have H1 : (if a0 = 376 then (some 255) else (if a0 ≥ 1024 then (if a0 ≤ 1039 then (some (wrap32 (a0 + 80))) else (some a0)) else (some a0))) = some r := by rw [if_neg (show ¬ (false = true) by decide)] at H; exact H
                      clear H
                      have H := H1
                      clear H1
                      by_cases c70 : a0 = 376
                      · rw [if_pos c70] at H
                        have c70b0 : (a0 == 376) = true := beq_iff_eq.mpr c70
                        have c70b1 : (a0 != 376) = false := bne_eq_false_iff_eq.mpr c70
                        clear c70
                        obtain rfl := Option.some.inj H
                        go_wp2
                        go_ret
                        exact ⟨by first | rfl | (simp; done) | (simp [*]; done), by repeat (first | exact Drawn0.refl _ | apply Drawn0.step)⟩
                      · rw [if_neg c70] at H
                        have c70b0 : (a0 == 376) = false := beq_eq_false_iff_ne.mpr c70
                        have c70b1 : (a0 != 376) = true := bne_iff_ne.mpr c70
                        by_cases c71 : a0 ≥ 1024
                        · rw [if_pos c71] at H
                          have c71b0 : decide (1024 ≤ a0) = true := decide_eq_true c71
                          clear c71
                          by_cases c72 : a0 ≤ 1039
                          · rw [if_pos c72] at H
                            have c72b0 : decide (a0 ≤ 1039) = true := decide_eq_true c72
                            clear c72
                            obtain rfl := Option.some.inj H
                            go_wp2
                            go_ret
                            exact ⟨by first | rfl | (simp; done) | (simp [*]; done), by repeat (first | exact Drawn0.refl _ | apply Drawn0.step)⟩
                          · rw [if_neg c72] at H
                            have c72b0 : decide (a0 ≤ 1039) = false := decide_eq_false c72
                            clear c72
                            obtain rfl := Option.some.inj H
                            go_wp2
                            go_ret
                            exact ⟨by first | rfl | (simp; done) | (simp [*]; done), by repeat (first | exact Drawn0.refl _ | apply Drawn0.step)⟩
                        · rw [if_neg c71] at H
                          have c71b0 : decide (1024 ≤ a0) = false := decide_eq_false c71
                          clear c71
                          obtain rfl := Option.some.inj H
                          go_wp2
                          go_ret
                          exact ⟨by first | rfl | (simp; done) | (simp [*]; done), by repeat (first | exact Drawn0.refl _ | apply Drawn0.step)⟩

end Go.Proofs.Ythpemcchgebecaa.PFold
