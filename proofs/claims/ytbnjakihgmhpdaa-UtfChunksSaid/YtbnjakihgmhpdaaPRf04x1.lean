-- Written by xprint.py of this repo, over the kit's printer and contracts proved by hand.
import Derived.Test.YtbnjakihgmhpdaaPRf04x0
namespace Go.Proofs.Ytbnjakihgmhpdaa.PRf04
open Go.RowKit Go.Proofs.YtbnjakihgmhpdaaW.PrintWords Go.Proofs.YtbnjakihgmhpdaaW.PrintLast Go.Proofs.YtbnjakihgmhpdaaW.PrintMore Go.Proofs.Ytbnjakihgmhpdaa.K
attribute [local go_sem] max2_int min2_int max_two min_two max_three min_three max_four min_four   -- for this text's walks alone
set_option linter.unusedVariables false
set_option linter.unusedSimpArgs false

/-! ### manteletref04_Size: function 30 -/
mutual
def manteletref04_Size.j0 : Nat → Int → Bool → Option (Int)
  | 0, _, _ => none
  | k + 1, x0, x10 => if x10 = true then (some 2) else (if x0 ≥ 224 then (manteletref04_Size.j1 k x0 (decide (x0 ≤ 239))) else (manteletref04_Size.j1 k x0 false))
def manteletref04_Size.j1 : Nat → Int → Bool → Option (Int)
  | 0, _, _ => none
  | k + 1, x0, x16 => if x16 = true then (some 3) else (if x0 ≥ 240 then (if x0 ≤ 244 then (some 4) else (some 0)) else (some 0))
end
def manteletref04_Size.f (k : Nat) (a0 : Int) : Option (Int) := if a0 < 128 then (some 1) else (if a0 ≥ 194 then (manteletref04_Size.j0 k a0 (decide (a0 ≤ 223))) else (manteletref04_Size.j0 k a0 false))
theorem manteletref04_Size.mono_l : ∀ k, (∀ y0 y1, LeO (manteletref04_Size.j0 k y0 y1) (manteletref04_Size.j0 (k + 1) y0 y1)) ∧ (∀ y0 y1, LeO (manteletref04_Size.j1 k y0 y1) (manteletref04_Size.j1 (k + 1) y0 y1))
  | 0 => ⟨fun _ _ r h => by simp [manteletref04_Size.j0] at h, fun _ _ r h => by simp [manteletref04_Size.j1] at h⟩
  | k + 1 => by
    obtain ⟨ih0, ih1⟩ := manteletref04_Size.mono_l k
    refine ⟨?_, ?_⟩
    · intro y0 y1
      unfold manteletref04_Size.j0
      repeat' first
      | (with_reducible exact ih0 _ _)
      | (with_reducible exact ih1 _ _)
      | (with_reducible exact LeO.refl _)
      | (with_reducible exact LeO.none _)
      | (with_reducible refine LeO.ite ?_ ?_)
      | (with_reducible refine LeO.bind ?_ (fun _ => ?_))
      | exact ih0 _ _
      | exact ih1 _ _
      | exact LeO.none _
      | refine LeO.ite ?_ ?_
      | refine LeO.bind ?_ (fun _ => ?_)
    · intro y0 y1
      unfold manteletref04_Size.j1
      repeat' first
      | (with_reducible exact ih0 _ _)
      | (with_reducible exact ih1 _ _)
      | (with_reducible exact LeO.refl _)
      | (with_reducible exact LeO.none _)
      | (with_reducible refine LeO.ite ?_ ?_)
      | (with_reducible refine LeO.bind ?_ (fun _ => ?_))
      | exact ih0 _ _
      | exact ih1 _ _
      | exact LeO.none _
      | refine LeO.ite ?_ ?_
      | refine LeO.bind ?_ (fun _ => ?_)
theorem manteletref04_Size.mono : ∀ a0 k, LeO (manteletref04_Size.f k a0) (manteletref04_Size.f (k + 1) a0) := by
  intro a0 k
  obtain ⟨ih0, ih1⟩ := manteletref04_Size.mono_l k
  unfold manteletref04_Size.f
  repeat' first
      | (with_reducible exact ih0 _ _)
      | (with_reducible exact ih1 _ _)
      | (with_reducible exact LeO.refl _)
      | (with_reducible exact LeO.none _)
      | (with_reducible refine LeO.ite ?_ ?_)
      | (with_reducible refine LeO.bind ?_ (fun _ => ?_))
      | exact ih0 _ _
      | exact ih1 _ _
      | exact LeO.none _
      | refine LeO.ite ?_ ?_
      | refine LeO.bind ?_ (fun _ => ?_)
set_option maxHeartbeats 8000000 in
set_option maxRecDepth 100000 in
theorem manteletref04_Size.calls (k : Nat) (a0 : Int) (r : Int) (w : World) (h : manteletref04_Size.f k a0 = some r) :
    Calls Try.prog 30 #[.int .u8 a0] w fun e w' => e = .returned (.int .i64 r) ∧ Drawn0 w w' := by
  have H : (if a0 < 128 then (some 1) else (if a0 ≥ 194 then (manteletref04_Size.j0 k a0 (decide (a0 ≤ 223))) else (manteletref04_Size.j0 k a0 false))) = some r := h
  clear h
  by_cases c2 : a0 < 128
  · rw [if_pos c2] at H
    have c2b0 : decide (a0 < 128) = true := decide_eq_true c2
    clear c2
    obtain rfl := Option.some.inj H
    go_enter Try.func30, Try.ntmps30
    go_wp2
    go_ret
    exact ⟨by first | rfl | (simp; done) | (simp [*]; done), by repeat (first | exact Drawn0.refl _ | apply Drawn0.step)⟩
  · rw [if_neg c2] at H
    have c2b0 : decide (a0 < 128) = false := decide_eq_false c2
    clear c2
    have HC3 := Aside0.mk H
    clear H
    go_enter Try.func30, Try.ntmps30
    go_upto_region 3 with (fail)
    go_cut [10] (fun v10 wc => ∃ (kq : Nat) (x10_2 : Bool), v10 = .bool x10_2 ∧ Aside0 (manteletref04_Size.j0 kq a0 x10_2 = some r) ∧ Aside0 (kq ≤ k) ∧ Drawn0 w wc)
    case first =>
      have H := HC3.out
      clear HC3
      by_cases c4 : a0 ≥ 194
      · rw [if_pos c4] at H
        have c4b0 : decide (194 ≤ a0) = true := decide_eq_true c4
        clear c4
        (first | rw [c4b0] | (simp only [i64_w, i32_w]; rw [c4b0]) | skip)
        have H' := Aside0.mk H
        clear H
        go_wp2
        go_meet
        case rel => exact ⟨_, (decide (a0 ≤ 223)), (by first | rfl | (simp; done) | (simp [*]; done)), H', ⟨by first | omega | exact Nat.le_refl _⟩, by repeat (first | exact Drawn0.refl _ | apply Drawn0.step)⟩
      · rw [if_neg c4] at H
        have c4b0 : decide (194 ≤ a0) = false := decide_eq_false c4
        clear c4
        (first | rw [c4b0] | (simp only [i64_w, i32_w]; rw [c4b0]) | skip)
        have H' := Aside0.mk H
        clear H
        go_wp2
        go_meet
        case rel => exact ⟨_, (false), (by first | rfl | (simp; done) | (simp [*]; done)), H', ⟨by first | omega | exact Nat.le_refl _⟩, by repeat (first | exact Drawn0.refl _ | apply Drawn0.step)⟩
    case rest =>
      clear HC3
      try clear c2
      try clear c2b0
      try clear p2
      try clear c3
      try clear c4
      try clear c4b0
      obtain ⟨kq, x10_2, rfl, HA, HJ2, ⟨mc2, rfl⟩⟩ := hcut
      cases kq with
      | zero => exact absurd HA.out (by simp [manteletref04_Size.j0])
      | succ kj2 =>
        have H := HA.out
        clear HA
        simp only [manteletref04_Size.j0] at H
        by_cases c5 : x10_2 = true
        · subst c5
          have H1 : (some 2) = some r := by rw [if_pos rfl] at H; exact H
          clear H
          have H := H1
          clear H1
          obtain rfl := Option.some.inj H
          go_wp2
          go_ret
          exact ⟨by first | rfl | (simp; done) | (simp [*]; done), by repeat (first | exact Drawn0.refl _ | apply Drawn0.step)⟩
        · replace c5 := Bool.eq_false_iff.mpr c5
          subst c5
          have H1 : (if a0 ≥ 224 then (manteletref04_Size.j1 kj2 a0 (decide (a0 ≤ 239))) else (manteletref04_Size.j1 kj2 a0 false)) = some r := by rw [if_neg (show ¬ (false = true) by decide)] at H; exact H
          clear H
          have H := H1
          clear H1
          have HC6 := Aside0.mk H
          clear H
          go_upto_region 5 with (fail)
          go_cut [16] (fun v16 wc => ∃ (kq : Nat) (x16_5 : Bool), v16 = .bool x16_5 ∧ Aside0 (manteletref04_Size.j1 kq a0 x16_5 = some r) ∧ Aside0 (kq ≤ kj2) ∧ Drawn0 w wc)
          case first =>
            have H := HC6.out
            clear HC6
            by_cases c7 : a0 ≥ 224
            · rw [if_pos c7] at H
              have c7b0 : decide (224 ≤ a0) = true := decide_eq_true c7
              clear c7
              (first | rw [c7b0] | (simp only [i64_w, i32_w]; rw [c7b0]) | skip)
              have H' := Aside0.mk H
              clear H
              go_wp2
              go_meet
              case rel => exact ⟨_, (decide (a0 ≤ 239)), (by first | rfl | (simp; done) | (simp [*]; done)), H', ⟨by have := HJ2.out; first | omega | exact Nat.le_refl _⟩, by repeat (first | exact Drawn0.refl _ | apply Drawn0.step)⟩
            · rw [if_neg c7] at H
              have c7b0 : decide (224 ≤ a0) = false := decide_eq_false c7
              clear c7
              (first | rw [c7b0] | (simp only [i64_w, i32_w]; rw [c7b0]) | skip)
              have H' := Aside0.mk H
              clear H
              go_wp2
              go_meet
              case rel => exact ⟨_, (false), (by first | rfl | (simp; done) | (simp [*]; done)), H', ⟨by have := HJ2.out; first | omega | exact Nat.le_refl _⟩, by repeat (first | exact Drawn0.refl _ | apply Drawn0.step)⟩
          case rest =>
            clear HC6
            try clear c2
            try clear c2b0
            try clear p2
            try clear c3
            try clear c4
            try clear c4b0
            try clear c5
            try clear c7
            try clear c7b0
            try clear p2
            obtain ⟨kq, x16_5, rfl, HA, HJ5, ⟨mc5, rfl⟩⟩ := hcut
            cases kq with
            | zero => exact absurd HA.out (by simp [manteletref04_Size.j1])
            | succ kj5 =>
              have H := HA.out
              clear HA
              simp only [manteletref04_Size.j1] at H
              by_cases c8 : x16_5 = true
              · subst c8
                have H1 : (some 3) = some r := by rw [if_pos rfl] at H; exact H
                clear H
                have H := H1
                clear H1
                obtain rfl := Option.some.inj H
                go_wp2
                go_ret
                exact ⟨by first | rfl | (simp; done) | (simp [*]; done), by repeat (first | exact Drawn0.refl _ | apply Drawn0.step)⟩
              · replace c8 := Bool.eq_false_iff.mpr c8
                subst c8
                have H1 : (if a0 ≥ 240 then (if a0 ≤ 244 then (some 4) else (some 0)) else (some 0)) = some r := by rw [if_neg (show ¬ (false = true) by decide)] at H; exact H
                clear H
                have H := H1
                clear H1
                by_cases c9 : a0 ≥ 240
                · rw [if_pos c9] at H
                  have c9b0 : decide (240 ≤ a0) = true := decide_eq_true c9
                  clear c9
                  by_cases c10 : a0 ≤ 244
                  · rw [if_pos c10] at H
                    have c10b0 : decide (a0 ≤ 244) = true := decide_eq_true c10
                    clear c10
                    obtain rfl := Option.some.inj H
                    go_wp2
                    go_ret
                    exact ⟨by first | rfl | (simp; done) | (simp [*]; done), by repeat (first | exact Drawn0.refl _ | apply Drawn0.step)⟩
                  · rw [if_neg c10] at H
                    have c10b0 : decide (a0 ≤ 244) = false := decide_eq_false c10
                    clear c10
                    obtain rfl := Option.some.inj H
                    go_wp2
                    go_ret
                    exact ⟨by first | rfl | (simp; done) | (simp [*]; done), by repeat (first | exact Drawn0.refl _ | apply Drawn0.step)⟩
                · rw [if_neg c9] at H
                  have c9b0 : decide (240 ≤ a0) = false := decide_eq_false c9
                  clear c9
                  obtain rfl := Option.some.inj H
                  go_wp2
                  go_ret
                  exact ⟨by first | rfl | (simp; done) | (simp [*]; done), by repeat (first | exact Drawn0.refl _ | apply Drawn0.step)⟩

/-! ### manteletref04_fits: function 31 -/
mutual
def manteletref04_fits.j0 : Nat → Int → Int → Int → Bool → Option (Bool)
  | 0, _, _, _, _ => none
  | k + 1, x0, x1, x2, x12 => if x12 = true then (if x2 ≥ 160 then (some (decide (x2 ≤ 191))) else (some false)) else (if x1 = 1 then (manteletref04_fits.j1 k x0 x1 x2 (x0 == 237)) else (manteletref04_fits.j1 k x0 x1 x2 false))
def manteletref04_fits.j1 : Nat → Int → Int → Int → Bool → Option (Bool)
  | 0, _, _, _, _ => none
  | k + 1, x0, x1, x2, x24 => if x24 = true then (if x2 ≥ 128 then (some (decide (x2 ≤ 159))) else (some false)) else (if x1 = 1 then (manteletref04_fits.j2 k x0 x1 x2 (x0 == 240)) else (manteletref04_fits.j2 k x0 x1 x2 false))
def manteletref04_fits.j2 : Nat → Int → Int → Int → Bool → Option (Bool)
  | 0, _, _, _, _ => none
  | k + 1, x0, x1, x2, x36 => if x36 = true then (if x2 ≥ 144 then (some (decide (x2 ≤ 191))) else (some false)) else (if x1 = 1 then (if x0 = 244 then (if x2 ≥ 128 then (some (decide (x2 ≤ 143))) else (some false)) else (if x2 ≥ 128 then (some (decide (x2 ≤ 191))) else (some false))) else (if x2 ≥ 128 then (some (decide (x2 ≤ 191))) else (some false)))
end
def manteletref04_fits.f (k : Nat) (a0 : Int) (a1 : Int) (a2 : Int) : Option (Bool) := if a1 = 1 then (manteletref04_fits.j0 k a0 a1 a2 (a0 == 224)) else (manteletref04_fits.j0 k a0 a1 a2 false)
theorem manteletref04_fits.mono_l : ∀ k, (∀ y0 y1 y2 y3, LeO (manteletref04_fits.j0 k y0 y1 y2 y3) (manteletref04_fits.j0 (k + 1) y0 y1 y2 y3)) ∧ (∀ y0 y1 y2 y3, LeO (manteletref04_fits.j1 k y0 y1 y2 y3) (manteletref04_fits.j1 (k + 1) y0 y1 y2 y3)) ∧ (∀ y0 y1 y2 y3, LeO (manteletref04_fits.j2 k y0 y1 y2 y3) (manteletref04_fits.j2 (k + 1) y0 y1 y2 y3))
  | 0 => ⟨fun _ _ _ _ r h => by simp [manteletref04_fits.j0] at h, fun _ _ _ _ r h => by simp [manteletref04_fits.j1] at h, fun _ _ _ _ r h => by simp [manteletref04_fits.j2] at h⟩
  | k + 1 => by
    obtain ⟨ih0, ih1, ih2⟩ := manteletref04_fits.mono_l k
    refine ⟨?_, ?_, ?_⟩
    · intro y0 y1 y2 y3
      unfold manteletref04_fits.j0
      repeat' first
      | (with_reducible exact ih0 _ _ _ _)
      | (with_reducible exact ih1 _ _ _ _)
      | (with_reducible exact ih2 _ _ _ _)
      | (with_reducible exact LeO.refl _)
      | (with_reducible exact LeO.none _)
      | (with_reducible refine LeO.ite ?_ ?_)
      | (with_reducible refine LeO.bind ?_ (fun _ => ?_))
      | exact ih0 _ _ _ _
      | exact ih1 _ _ _ _
      | exact ih2 _ _ _ _
      | exact LeO.none _
      | refine LeO.ite ?_ ?_
      | refine LeO.bind ?_ (fun _ => ?_)
    · intro y0 y1 y2 y3
      unfold manteletref04_fits.j1
      repeat' first
      | (with_reducible exact ih0 _ _ _ _)
      | (with_reducible exact ih1 _ _ _ _)
      | (with_reducible exact ih2 _ _ _ _)
      | (with_reducible exact LeO.refl _)
      | (with_reducible exact LeO.none _)
      | (with_reducible refine LeO.ite ?_ ?_)
      | (with_reducible refine LeO.bind ?_ (fun _ => ?_))
      | exact ih0 _ _ _ _
      | exact ih1 _ _ _ _
      | exact ih2 _ _ _ _
      | exact LeO.none _
      | refine LeO.ite ?_ ?_
      | refine LeO.bind ?_ (fun _ => ?_)
    · intro y0 y1 y2 y3
      unfold manteletref04_fits.j2
      repeat' first
      | (with_reducible exact ih0 _ _ _ _)
      | (with_reducible exact ih1 _ _ _ _)
      | (with_reducible exact ih2 _ _ _ _)
      | (with_reducible exact LeO.refl _)
      | (with_reducible exact LeO.none _)
      | (with_reducible refine LeO.ite ?_ ?_)
      | (with_reducible refine LeO.bind ?_ (fun _ => ?_))
      | exact ih0 _ _ _ _
      | exact ih1 _ _ _ _
      | exact ih2 _ _ _ _
      | exact LeO.none _
      | refine LeO.ite ?_ ?_
      | refine LeO.bind ?_ (fun _ => ?_)
theorem manteletref04_fits.mono : ∀ a0 a1 a2 k, LeO (manteletref04_fits.f k a0 a1 a2) (manteletref04_fits.f (k + 1) a0 a1 a2) := by
  intro a0 a1 a2 k
  obtain ⟨ih0, ih1, ih2⟩ := manteletref04_fits.mono_l k
  unfold manteletref04_fits.f
  repeat' first
      | (with_reducible exact ih0 _ _ _ _)
      | (with_reducible exact ih1 _ _ _ _)
      | (with_reducible exact ih2 _ _ _ _)
      | (with_reducible exact LeO.refl _)
      | (with_reducible exact LeO.none _)
      | (with_reducible refine LeO.ite ?_ ?_)
      | (with_reducible refine LeO.bind ?_ (fun _ => ?_))
      | exact ih0 _ _ _ _
      | exact ih1 _ _ _ _
      | exact ih2 _ _ _ _
      | exact LeO.none _
      | refine LeO.ite ?_ ?_
      | refine LeO.bind ?_ (fun _ => ?_)
set_option maxHeartbeats 8000000 in
set_option maxRecDepth 100000 in
theorem manteletref04_fits.calls (k : Nat) (a0 : Int) (a1 : Int) (a2 : Int) (r : Bool) (w : World) (h : manteletref04_fits.f k a0 a1 a2 = some r) :
    Calls Try.prog 31 #[.int .u8 a0, .int .i64 a1, .int .u8 a2] w fun e w' => e = .returned (.bool r) ∧ Drawn0 w w' := by
  have H : (if a1 = 1 then (manteletref04_fits.j0 k a0 a1 a2 (a0 == 224)) else (manteletref04_fits.j0 k a0 a1 a2 false)) = some r := h
  clear h
  have HC4 := Aside0.mk H
  clear H
  go_enter Try.func31, Try.ntmps31
  go_upto_region 1 with (fail)
  go_cut [12] (fun v12 wc => ∃ (kq : Nat) (x12_3 : Bool), v12 = .bool x12_3 ∧ Aside0 (manteletref04_fits.j0 kq a0 a1 a2 x12_3 = some r) ∧ Aside0 (kq ≤ k) ∧ Drawn0 w wc)
  case first =>
    have H := HC4.out
    clear HC4
    by_cases c5 : a1 = 1
    · rw [if_pos c5] at H
      have c5b0 : (a1 == 1) = true := beq_iff_eq.mpr c5
      have c5b1 : (a1 != 1) = false := bne_eq_false_iff_eq.mpr c5
      clear c5
      (first | rw [c5b0] | (simp only [i64_w, i32_w]; rw [c5b0]) | skip)
      have H' := Aside0.mk H
      clear H
      go_wp2
      go_meet
      case rel => exact ⟨_, ((a0 == 224)), (by first | rfl | (simp; done) | (simp [*]; done)), H', ⟨by first | omega | exact Nat.le_refl _⟩, by repeat (first | exact Drawn0.refl _ | apply Drawn0.step)⟩
    · rw [if_neg c5] at H
      have c5b0 : (a1 == 1) = false := beq_eq_false_iff_ne.mpr c5
      have c5b1 : (a1 != 1) = true := bne_iff_ne.mpr c5
      (first | rw [c5b0] | (simp only [i64_w, i32_w]; rw [c5b0]) | skip)
      have H' := Aside0.mk H
      clear H
      go_wp2
      go_meet
      case rel => exact ⟨_, (false), (by first | rfl | (simp; done) | (simp [*]; done)), H', ⟨by first | omega | exact Nat.le_refl _⟩, by repeat (first | exact Drawn0.refl _ | apply Drawn0.step)⟩
  case rest =>
    clear HC4
    try clear p2
    try clear c3
    try clear c5
    try clear c5b0
    try clear c5b1
    obtain ⟨kq, x12_3, rfl, HA, HJ3, ⟨mc3, rfl⟩⟩ := hcut
    cases kq with
    | zero => exact absurd HA.out (by simp [manteletref04_fits.j0])
    | succ kj3 =>
      have H := HA.out
      clear HA
      simp only [manteletref04_fits.j0] at H
      by_cases c6 : x12_3 = true
      · subst c6
        have H1 : (if a2 ≥ 160 then (some (decide (a2 ≤ 191))) else (some false)) = some r := by rw [if_pos rfl] at H; exact H
        clear H
        have H := H1
        clear H1
        by_cases c7 : a2 ≥ 160
        · rw [if_pos c7] at H
          have c7b0 : decide (160 ≤ a2) = true := decide_eq_true c7
          clear c7
          obtain rfl := Option.some.inj H
          go_wp2
          go_ret
          exact ⟨by first | rfl | (simp; done) | (simp [*]; done), by repeat (first | exact Drawn0.refl _ | apply Drawn0.step)⟩
        · rw [if_neg c7] at H
          have c7b0 : decide (160 ≤ a2) = false := decide_eq_false c7
          clear c7
          obtain rfl := Option.some.inj H
          go_wp2
          go_ret
          exact ⟨by first | rfl | (simp; done) | (simp [*]; done), by repeat (first | exact Drawn0.refl _ | apply Drawn0.step)⟩
      · replace c6 := Bool.eq_false_iff.mpr c6
        subst c6
        have H1 : (if a1 = 1 then (manteletref04_fits.j1 kj3 a0 a1 a2 (a0 == 237)) else (manteletref04_fits.j1 kj3 a0 a1 a2 false)) = some r := by rw [if_neg (show ¬ (false = true) by decide)] at H; exact H
        clear H
        have H := H1
        clear H1
        have HC8 := Aside0.mk H
        clear H
        go_upto_region 3 with (fail)
        go_cut [24] (fun v24 wc => ∃ (kq : Nat) (x24_7 : Bool), v24 = .bool x24_7 ∧ Aside0 (manteletref04_fits.j1 kq a0 a1 a2 x24_7 = some r) ∧ Aside0 (kq ≤ kj3) ∧ Drawn0 w wc)
        case first =>
          have H := HC8.out
          clear HC8
          by_cases c9 : a1 = 1
          · rw [if_pos c9] at H
            have c9b0 : (a1 == 1) = true := beq_iff_eq.mpr c9
            have c9b1 : (a1 != 1) = false := bne_eq_false_iff_eq.mpr c9
            clear c9
            (first | rw [c9b0] | (simp only [i64_w, i32_w]; rw [c9b0]) | skip)
            have H' := Aside0.mk H
            clear H
            go_wp2
            go_meet
            case rel => exact ⟨_, ((a0 == 237)), (by first | rfl | (simp; done) | (simp [*]; done)), H', ⟨by have := HJ3.out; first | omega | exact Nat.le_refl _⟩, by repeat (first | exact Drawn0.refl _ | apply Drawn0.step)⟩
          · rw [if_neg c9] at H
            have c9b0 : (a1 == 1) = false := beq_eq_false_iff_ne.mpr c9
            have c9b1 : (a1 != 1) = true := bne_iff_ne.mpr c9
            (first | rw [c9b0] | (simp only [i64_w, i32_w]; rw [c9b0]) | skip)
            have H' := Aside0.mk H
            clear H
            go_wp2
            go_meet
            case rel => exact ⟨_, (false), (by first | rfl | (simp; done) | (simp [*]; done)), H', ⟨by have := HJ3.out; first | omega | exact Nat.le_refl _⟩, by repeat (first | exact Drawn0.refl _ | apply Drawn0.step)⟩
        case rest =>
          clear HC8
          try clear p2
          try clear c3
          try clear c5
          try clear c5b0
          try clear c5b1
          try clear c6
          try clear c7
          try clear c7b0
          try clear c9
          try clear c9b0
          try clear c9b1
          try clear p2
          obtain ⟨kq, x24_7, rfl, HA, HJ7, ⟨mc7, rfl⟩⟩ := hcut
          cases kq with
          | zero => exact absurd HA.out (by simp [manteletref04_fits.j1])
          | succ kj7 =>
            have H := HA.out
            clear HA
            simp only [manteletref04_fits.j1] at H
            by_cases c10 : x24_7 = true
            · subst c10
              have H1 : (if a2 ≥ 128 then (some (decide (a2 ≤ 159))) else (some false)) = some r := by rw [if_pos rfl] at H; exact H
              clear H
              have H := H1
              clear H1
              by_cases c11 : a2 ≥ 128
              · rw [if_pos c11] at H
                have c11b0 : decide (128 ≤ a2) = true := decide_eq_true c11
                clear c11
                obtain rfl := Option.some.inj H
                go_wp2
                go_ret
                exact ⟨by first | rfl | (simp; done) | (simp [*]; done), by repeat (first | exact Drawn0.refl _ | apply Drawn0.step)⟩
              · rw [if_neg c11] at H
                have c11b0 : decide (128 ≤ a2) = false := decide_eq_false c11
                clear c11
                obtain rfl := Option.some.inj H
                go_wp2
                go_ret
                exact ⟨by first | rfl | (simp; done) | (simp [*]; done), by repeat (first | exact Drawn0.refl _ | apply Drawn0.step)⟩
            · replace c10 := Bool.eq_false_iff.mpr c10
              subst c10
              have H1 : (if a1 = 1 then (manteletref04_fits.j2 kj7 a0 a1 a2 (a0 == 240)) else (manteletref04_fits.j2 kj7 a0 a1 a2 false)) = some r := by rw [if_neg (show ¬ (false = true) by decide)] at H; exact H
              clear H
              have H := H1
              clear H1
              have HC12 := Aside0.mk H
              clear H
              go_upto_region 5 with (fail)
              go_cut [36] (fun v36 wc => ∃ (kq : Nat) (x36_11 : Bool), v36 = .bool x36_11 ∧ Aside0 (manteletref04_fits.j2 kq a0 a1 a2 x36_11 = some r) ∧ Aside0 (kq ≤ kj7) ∧ Drawn0 w wc)
              case first =>
                have H := HC12.out
                clear HC12
                by_cases c13 : a1 = 1
                · rw [if_pos c13] at H
                  have c13b0 : (a1 == 1) = true := beq_iff_eq.mpr c13
                  have c13b1 : (a1 != 1) = false := bne_eq_false_iff_eq.mpr c13
                  clear c13
                  (first | rw [c13b0] | (simp only [i64_w, i32_w]; rw [c13b0]) | skip)
                  have H' := Aside0.mk H
                  clear H
                  go_wp2
                  go_meet
                  case rel => exact ⟨_, ((a0 == 240)), (by first | rfl | (simp; done) | (simp [*]; done)), H', ⟨by have := HJ3.out; have := HJ7.out; first | omega | exact Nat.le_refl _⟩, by repeat (first | exact Drawn0.refl _ | apply Drawn0.step)⟩
                · rw [if_neg c13] at H
                  have c13b0 : (a1 == 1) = false := beq_eq_false_iff_ne.mpr c13
                  have c13b1 : (a1 != 1) = true := bne_iff_ne.mpr c13
                  (first | rw [c13b0] | (simp only [i64_w, i32_w]; rw [c13b0]) | skip)
                  have H' := Aside0.mk H
                  clear H
                  go_wp2
                  go_meet
                  case rel => exact ⟨_, (false), (by first | rfl | (simp; done) | (simp [*]; done)), H', ⟨by have := HJ3.out; have := HJ7.out; first | omega | exact Nat.le_refl _⟩, by repeat (first | exact Drawn0.refl _ | apply Drawn0.step)⟩
              case rest =>
                clear HC12
                try clear c1
                try clear p2
                try clear c3
                try clear c5
                try clear c5b0
                try clear c5b1
                try clear c6
                try clear c7
                try clear c7b0
                try clear c9
                try clear c9b0
                try clear c9b1
                try clear c10
                try clear c11
                try clear c11b0
                try clear c13
                try clear c13b0
                try clear c13b1
                try clear p2
                obtain ⟨kq, x36_11, rfl, HA, HJ11, ⟨mc11, rfl⟩⟩ := hcut
                cases kq with
                | zero => exact absurd HA.out (by simp [manteletref04_fits.j2])
                | succ kj11 =>
                  have H := HA.out
                  clear HA
                  simp only [manteletref04_fits.j2] at H
                  by_cases c14 : x36_11 = true
                  · subst c14
                    have H1 : (if a2 ≥ 144 then (some (decide (a2 ≤ 191))) else (some false)) = some r := by rw [if_pos rfl] at H; exact H
                    clear H
                    have H := H1
                    clear H1
                    by_cases c15 : a2 ≥ 144
                    · rw [if_pos c15] at H
                      have c15b0 : decide (144 ≤ a2) = true := decide_eq_true c15
                      clear c15
                      obtain rfl := Option.some.inj H
                      go_wp2
                      go_ret
                      exact ⟨by first | rfl | (simp; done) | (simp [*]; done), by repeat (first | exact Drawn0.refl _ | apply Drawn0.step)⟩
                    · rw [if_neg c15] at H
                      have c15b0 : decide (144 ≤ a2) = false := decide_eq_false c15
                      clear c15
                      obtain rfl := Option.some.inj H
                      go_wp2
                      go_ret
                      exact ⟨by first | rfl | (simp; done) | (simp [*]; done), by repeat (first | exact Drawn0.refl _ | apply Drawn0.step)⟩
                  · replace c14 := Bool.eq_false_iff.mpr c14
                    subst c14
                    have H1 : (if a1 = 1 then (if a0 = 244 then (if a2 ≥ 128 then (some (decide (a2 ≤ 143))) else (some false)) else (if a2 ≥ 128 then (some (decide (a2 ≤ 191))) else (some false))) else (if a2 ≥ 128 then (some (decide (a2 ≤ 191))) else (some false))) = some r := by rw [if_neg (show ¬ (false = true) by decide)] at H; exact H
                    clear H
                    have H := H1
                    clear H1
                    by_cases c16 : a1 = 1
                    · rw [if_pos c16] at H
                      have c16b0 : (a1 == 1) = true := beq_iff_eq.mpr c16
                      have c16b1 : (a1 != 1) = false := bne_eq_false_iff_eq.mpr c16
                      clear c16
                      by_cases c17 : a0 = 244
                      · rw [if_pos c17] at H
                        have c17b0 : (a0 == 244) = true := beq_iff_eq.mpr c17
                        have c17b1 : (a0 != 244) = false := bne_eq_false_iff_eq.mpr c17
                        clear c17
                        by_cases c18 : a2 ≥ 128
                        · rw [if_pos c18] at H
                          have c18b0 : decide (128 ≤ a2) = true := decide_eq_true c18
                          clear c18
                          obtain rfl := Option.some.inj H
                          go_wp2
                          go_ret
                          exact ⟨by first | rfl | (simp; done) | (simp [*]; done), by repeat (first | exact Drawn0.refl _ | apply Drawn0.step)⟩
                        · rw [if_neg c18] at H
                          have c18b0 : decide (128 ≤ a2) = false := decide_eq_false c18
                          clear c18
                          obtain rfl := Option.some.inj H
                          go_wp2
                          go_ret
                          exact ⟨by first | rfl | (simp; done) | (simp [*]; done), by repeat (first | exact Drawn0.refl _ | apply Drawn0.step)⟩
                      · rw [if_neg c17] at H
                        have c17b0 : (a0 == 244) = false := beq_eq_false_iff_ne.mpr c17
                        have c17b1 : (a0 != 244) = true := bne_iff_ne.mpr c17
                        by_cases c19 : a2 ≥ 128
                        · rw [if_pos c19] at H
                          have c19b0 : decide (128 ≤ a2) = true := decide_eq_true c19
                          clear c19
                          obtain rfl := Option.some.inj H
                          go_wp2
                          go_ret
                          exact ⟨by first | rfl | (simp; done) | (simp [*]; done), by repeat (first | exact Drawn0.refl _ | apply Drawn0.step)⟩
                        · rw [if_neg c19] at H
                          have c19b0 : decide (128 ≤ a2) = false := decide_eq_false c19
                          clear c19
                          obtain rfl := Option.some.inj H
                          go_wp2
                          go_ret
                          exact ⟨by first | rfl | (simp; done) | (simp [*]; done), by repeat (first | exact Drawn0.refl _ | apply Drawn0.step)⟩
                    · rw [if_neg c16] at H
                      have c16b0 : (a1 == 1) = false := beq_eq_false_iff_ne.mpr c16
                      have c16b1 : (a1 != 1) = true := bne_iff_ne.mpr c16
                      by_cases c20 : a2 ≥ 128
                      · rw [if_pos c20] at H
                        have c20b0 : decide (128 ≤ a2) = true := decide_eq_true c20
                        clear c20
                        obtain rfl := Option.some.inj H
                        go_wp2
                        go_ret
                        exact ⟨by first | rfl | (simp; done) | (simp [*]; done), by repeat (first | exact Drawn0.refl _ | apply Drawn0.step)⟩
                      · rw [if_neg c20] at H
                        have c20b0 : decide (128 ≤ a2) = false := decide_eq_false c20
                        clear c20
                        obtain rfl := Option.some.inj H
                        go_wp2
                        go_ret
                        exact ⟨by first | rfl | (simp; done) | (simp [*]; done), by repeat (first | exact Drawn0.refl _ | apply Drawn0.step)⟩

end Go.Proofs.Ytbnjakihgmhpdaa.PRf04
