-- Written by xprint.py of this repo, over the kit's printer and contracts proved by hand.
import Derived.Test.YtbnjakihgmhpdaaPFuzzyLengthsx0
namespace Go.Proofs.Ytbnjakihgmhpdaa.PFuzzyLengths
open Go.RowKit Go.Proofs.YtbnjakihgmhpdaaW.PrintWords Go.Proofs.YtbnjakihgmhpdaaW.PrintLast Go.Proofs.YtbnjakihgmhpdaaW.PrintMore Go.Proofs.Ytbnjakihgmhpdaa.K Go.Proofs.Ytbnjakihgmhpdaa.PFr Go.Proofs.Ytbnjakihgmhpdaa.PSh18
attribute [local go_sem] max2_int min2_int max_two min_two max_three min_three max_four min_four   -- for this text's walks alone
set_option linter.unusedVariables false
set_option linter.unusedSimpArgs false

/-! ### manteletlaw18_FuzzyLengths: function 7 -/
mutual
def manteletlaw18_FuzzyLengths.j0 : Nat → List Int → List Int → Int → Int → Bool → Bool → Option (Bool)
  | 0, _, _, _, _, _, _ => none
  | k + 1, x0, x1, x2, x3, x9, x24 => if x24 = true then (some x9) else (manteletlaw18_FuzzyLengths.l0 k x1 x2 x3 x9 (runesBytes x0) (runesBytes x1) (⟨#[]⟩ : ByteArray) (⟨#[]⟩ : ByteArray) 0)
def manteletlaw18_FuzzyLengths.l0 : Nat → List Int → Int → Int → Bool → ByteArray → ByteArray → ByteArray → ByteArray → Int → Option (Bool)
  | 0, _, _, _, _, _, _, _, _, _ => none
  | k + 1, x1, x2, x3, x9, x10, x11, x12, x13, x14 => if x14 < (wrap64 (Int.tmod x2 30)) then (if x12.size + 1 ≤ 9223372036854775807 then (manteletlaw18_FuzzyLengths.l0 k x1 x2 x3 x9 x10 x11 (x12 ++ (⟨#[120]⟩ : ByteArray)) x13 (wrap64 (x14 + 1))) else (none)) else (manteletlaw18_FuzzyLengths.l1 k x1 x2 x3 x9 x10 x11 x12 x13 0)
def manteletlaw18_FuzzyLengths.l1 : Nat → List Int → Int → Int → Bool → ByteArray → ByteArray → ByteArray → ByteArray → Int → Option (Bool)
  | 0, _, _, _, _, _, _, _, _, _ => none
  | k + 1, x1, x2, x3, x9, x10, x11, x12, x13, x15 => if x15 < (wrap64 (Int.tmod x3 30)) then (if x13.size + 2 ≤ 9223372036854775807 then (manteletlaw18_FuzzyLengths.l1 k x1 x2 x3 x9 x10 x11 x12 (x13 ++ (⟨#[195, 164]⟩ : ByteArray)) (wrap64 (x15 + 1))) else (none)) else (if x9 = true then (if x10.size + x11.size ≤ 9223372036854775807 then ((fuzzy_Dist.f x10 (x10 ++ x11)).bind fun t102 => (if t102 = (x1.length : Int) then (if x11.size + x10.size ≤ 9223372036854775807 then ((fuzzy_Dist.f (x11 ++ x10) x10).bind fun t103 => (if t103 = (x1.length : Int) then ((fuzzy_Dist.f x12 x13).bind fun t104 => (some (t104 == (mx (wrap64 (Int.tmod x2 30)) (wrap64 (Int.tmod x3 30)))))) else (some false))) else (none)) else (some false))) else (none)) else (some false))
end
def manteletlaw18_FuzzyLengths.f (k : Nat) (l0 : List Int) (l1 : List Int) (a2 : Int) (a3 : Int) : Option (Bool) := (manteletlaw18_shown.f).bind fun t101 => (if (l0.length : Int) > 40 then (manteletlaw18_FuzzyLengths.j0 k l0 l1 a2 a3 t101 true) else (manteletlaw18_FuzzyLengths.j0 k l0 l1 a2 a3 t101 (decide ((l1.length : Int) > 40))))
theorem manteletlaw18_FuzzyLengths.mono_l : ∀ k, (∀ y0 y1 y2 y3 y4 y5, LeO (manteletlaw18_FuzzyLengths.j0 k y0 y1 y2 y3 y4 y5) (manteletlaw18_FuzzyLengths.j0 (k + 1) y0 y1 y2 y3 y4 y5)) ∧ (∀ y0 y1 y2 y3 y4 y5 y6 y7 y8, LeO (manteletlaw18_FuzzyLengths.l0 k y0 y1 y2 y3 y4 y5 y6 y7 y8) (manteletlaw18_FuzzyLengths.l0 (k + 1) y0 y1 y2 y3 y4 y5 y6 y7 y8)) ∧ (∀ y0 y1 y2 y3 y4 y5 y6 y7 y8, LeO (manteletlaw18_FuzzyLengths.l1 k y0 y1 y2 y3 y4 y5 y6 y7 y8) (manteletlaw18_FuzzyLengths.l1 (k + 1) y0 y1 y2 y3 y4 y5 y6 y7 y8))
  | 0 => ⟨fun _ _ _ _ _ _ r h => by simp [manteletlaw18_FuzzyLengths.j0] at h, fun _ _ _ _ _ _ _ _ _ r h => by simp [manteletlaw18_FuzzyLengths.l0] at h, fun _ _ _ _ _ _ _ _ _ r h => by simp [manteletlaw18_FuzzyLengths.l1] at h⟩
  | k + 1 => by
    obtain ⟨ih0, ih1, ih2⟩ := manteletlaw18_FuzzyLengths.mono_l k
    refine ⟨?_, ?_, ?_⟩
    · intro y0 y1 y2 y3 y4 y5
      unfold manteletlaw18_FuzzyLengths.j0
      repeat' first
      | (with_reducible exact ih0 _ _ _ _ _ _)
      | (with_reducible exact ih1 _ _ _ _ _ _ _ _ _)
      | (with_reducible exact ih2 _ _ _ _ _ _ _ _ _)
      | (with_reducible exact LeO.refl _)
      | (with_reducible exact LeO.none _)
      | (with_reducible refine LeO.ite ?_ ?_)
      | (with_reducible refine LeO.bind ?_ (fun _ => ?_))
      | exact ih0 _ _ _ _ _ _
      | exact ih1 _ _ _ _ _ _ _ _ _
      | exact ih2 _ _ _ _ _ _ _ _ _
      | exact LeO.none _
      | refine LeO.ite ?_ ?_
      | refine LeO.bind ?_ (fun _ => ?_)
    · intro y0 y1 y2 y3 y4 y5 y6 y7 y8
      unfold manteletlaw18_FuzzyLengths.l0
      repeat' first
      | (with_reducible exact ih0 _ _ _ _ _ _)
      | (with_reducible exact ih1 _ _ _ _ _ _ _ _ _)
      | (with_reducible exact ih2 _ _ _ _ _ _ _ _ _)
      | (with_reducible exact LeO.refl _)
      | (with_reducible exact LeO.none _)
      | (with_reducible refine LeO.ite ?_ ?_)
      | (with_reducible refine LeO.bind ?_ (fun _ => ?_))
      | exact ih0 _ _ _ _ _ _
      | exact ih1 _ _ _ _ _ _ _ _ _
      | exact ih2 _ _ _ _ _ _ _ _ _
      | exact LeO.none _
      | refine LeO.ite ?_ ?_
      | refine LeO.bind ?_ (fun _ => ?_)
    · intro y0 y1 y2 y3 y4 y5 y6 y7 y8
      unfold manteletlaw18_FuzzyLengths.l1
      repeat' first
      | (with_reducible exact ih0 _ _ _ _ _ _)
      | (with_reducible exact ih1 _ _ _ _ _ _ _ _ _)
      | (with_reducible exact ih2 _ _ _ _ _ _ _ _ _)
      | (with_reducible exact LeO.refl _)
      | (with_reducible exact LeO.none _)
      | (with_reducible refine LeO.ite ?_ ?_)
      | (with_reducible refine LeO.bind ?_ (fun _ => ?_))
      | exact ih0 _ _ _ _ _ _
      | exact ih1 _ _ _ _ _ _ _ _ _
      | exact ih2 _ _ _ _ _ _ _ _ _
      | exact LeO.none _
      | refine LeO.ite ?_ ?_
      | refine LeO.bind ?_ (fun _ => ?_)
theorem manteletlaw18_FuzzyLengths.mono : ∀ a0 a1 a2 a3 k, LeO (manteletlaw18_FuzzyLengths.f k a0 a1 a2 a3) (manteletlaw18_FuzzyLengths.f (k + 1) a0 a1 a2 a3) := by
  intro a0 a1 a2 a3 k
  obtain ⟨ih0, ih1, ih2⟩ := manteletlaw18_FuzzyLengths.mono_l k
  unfold manteletlaw18_FuzzyLengths.f
  repeat' first
      | (with_reducible exact ih0 _ _ _ _ _ _)
      | (with_reducible exact ih1 _ _ _ _ _ _ _ _ _)
      | (with_reducible exact ih2 _ _ _ _ _ _ _ _ _)
      | (with_reducible exact LeO.refl _)
      | (with_reducible exact LeO.none _)
      | (with_reducible refine LeO.ite ?_ ?_)
      | (with_reducible refine LeO.bind ?_ (fun _ => ?_))
      | exact ih0 _ _ _ _ _ _
      | exact ih1 _ _ _ _ _ _ _ _ _
      | exact ih2 _ _ _ _ _ _ _ _ _
      | exact LeO.none _
      | refine LeO.ite ?_ ?_
      | refine LeO.bind ?_ (fun _ => ?_)
set_option maxHeartbeats 8000000 in
set_option maxRecDepth 100000 in
theorem manteletlaw18_FuzzyLengths.calls (k : Nat) (A0 : Option Addr) (c0 : Nat) (l0 : List Int) (A1 : Option Addr) (c1 : Nat) (l1 : List Int) (a2 : Int) (a3 : Int) (r : Bool) (w : World) (hr0 : Kd.C (Kd.int .i32) w A0 l0.length l0) (hc0 : l0.length ≤ c0) (hr1 : Kd.C (Kd.int .i32) w A1 l1.length l1) (hc1 : l1.length ≤ c1) (h : manteletlaw18_FuzzyLengths.f k l0 l1 a2 a3 = some r) :
    Calls Try.prog 7 #[.slice A0 l0.length c0, .slice A1 l1.length c1, .int .u8 a2, .int .u8 a3] w fun e w' => e = .returned (.bool r) ∧ Below w.heap.size w w' := by
  have HR0 := Aside0.mk hr0
  have HC0 := Aside0.mk hc0
  clear hr0 hc0
  have HR1 := Aside0.mk hr1
  have HC1 := Aside0.mk hc1
  clear hr1 hc1
  have HB := Aside0.mk (Below.refl w.heap.size w)
  have H : ((manteletlaw18_shown.f).bind fun t101 => (if (l0.length : Int) > 40 then (manteletlaw18_FuzzyLengths.j0 k l0 l1 a2 a3 t101 true) else (manteletlaw18_FuzzyLengths.j0 k l0 l1 a2 a3 t101 (decide ((l1.length : Int) > 40))))) = some r := h
  clear h
  replace H := Option.bind_eq_some_iff.mp H
  obtain ⟨t101, A50, H⟩ := H
  replace H : (if (l0.length : Int) > 40 then (manteletlaw18_FuzzyLengths.j0 k l0 l1 a2 a3 t101 true) else (manteletlaw18_FuzzyLengths.j0 k l0 l1 a2 a3 t101 (decide ((l1.length : Int) > 40)))) = some r := H
  have A5 := Aside0.mk A50
  clear A50
  have HC6 := Aside0.mk H
  clear H
  go_enter Try.func7, Try.ntmps7
  go_upto_region 2 with (first | ((with_reducible refine gate_callee (f := 16) rfl ?_); refine goesL_ (some 16) rfl rfl Try.func16 (by kernel_rfl) rfl #[] rfl (by (try simp only [List.map_toArray, List.map_cons, List.map_nil]); first | done | rfl | (simp only [List.length_drop, List.length_take]; rfl)) ?_; (with_reducible refine (manteletlaw18_shown.calls  t101 _ A5.out).mono ?_); rintro e w7 ⟨rfl, hb⟩; refine ⟨_, rfl, ?_⟩; have n0_ := Aside0.mk (below_step (by repeat (first | (with_reducible first | exact HB.out | apply below_alloc | apply pw_below_drewN | apply below_drew1) | exact HB.out)) hb); clear HB; have HB := n0_; clear n0_; (try clear hb); (try clear hb2); (try clear hk); (try clear hi)))
  (try simp only [Act.put, List.setIfInBounds_toArray, List.set_cons_zero, List.set_cons_succ])
  go_cut [24] (fun v24 wc => ∃ (kq : Nat) (x24_5 : Bool), v24 = .bool x24_5 ∧ Aside0 (manteletlaw18_FuzzyLengths.j0 kq l0 l1 a2 a3 t101 x24_5 = some r) ∧ Aside0 (kq ≤ k) ∧ Aside0 (Below w.heap.size w wc))
  case first =>
    have H := HC6.out
    clear HC6
    by_cases c8 : (l0.length : Int) > 40
    · rw [if_pos c8] at H
      have c8b0 : decide (40 < (l0.length : Int)) = true := decide_eq_true c8
      have c8b1 : decide (40 < l0.length) = true := decide_eq_true (by omega)
      clear c8
      (first | rw [c8b0] | (simp only [i64_w, i32_w]; rw [c8b0]) | skip)
      have H' := Aside0.mk H
      clear H
      go_wp2
      go_meet
      case rel => exact ⟨_, (true), (by first | rfl | (simp; done) | (simp [*]; done)), H', ⟨by first | omega | exact Nat.le_refl _⟩, ⟨by repeat (first | (with_reducible first | exact HB.out | apply below_alloc | apply pw_below_drewN | apply below_drew1) | exact HB.out)⟩⟩
    · rw [if_neg c8] at H
      have c8b0 : decide (40 < (l0.length : Int)) = false := decide_eq_false c8
      have c8b1 : decide (40 < l0.length) = false := decide_eq_false (by omega)
      clear c8
      (first | rw [c8b0] | (simp only [i64_w, i32_w]; rw [c8b0]) | skip)
      have H' := Aside0.mk H
      clear H
      go_wp2
      go_meet
      case rel => exact ⟨_, (decide ((l1.length : Int) > 40)), (by first | rfl | (simp; done) | (simp [*]; done)), H', ⟨by first | omega | exact Nat.le_refl _⟩, ⟨by repeat (first | (with_reducible first | exact HB.out | apply below_alloc | apply pw_below_drewN | apply below_drew1) | exact HB.out)⟩⟩
  case rest =>
    clear HC6
    try clear c1
    try clear p2
    try clear c7
    try clear c8
    try clear c8b0
    try clear c8b1
    obtain ⟨kq, x24_5, rfl, HA, HJ5, HB⟩ := hcut
    cases kq with
    | zero => exact absurd HA.out (by simp [manteletlaw18_FuzzyLengths.j0])
    | succ kj5 =>
      have H := HA.out
      clear HA
      simp only [manteletlaw18_FuzzyLengths.j0] at H
      by_cases c9 : x24_5 = true
      · subst c9
        have H1 : (some t101) = some r := by rw [if_pos rfl] at H; exact H
        clear H
        have H := H1
        clear H1
        obtain rfl := Option.some.inj H
        go_wp2
        go_ret
        exact ⟨by first | rfl | (simp [errW_none, errW_some] <;> rfl) | (simp [*, errW_none, errW_some] <;> rfl), by repeat (first | (with_reducible first | exact HB.out | apply below_alloc | apply pw_below_drewN | apply below_drew1) | exact HB.out)⟩
      · replace c9 := Bool.eq_false_iff.mpr c9
        subst c9
        have H1 : (manteletlaw18_FuzzyLengths.l0 kj5 l1 a2 a3 t101 (runesBytes l0) (runesBytes l1) (⟨#[]⟩ : ByteArray) (⟨#[]⟩ : ByteArray) 0) = some r := by rw [if_neg (show ¬ (false = true) by decide)] at H; exact H
        clear H
        have H := H1
        clear H1
        have H' := Aside0.mk H
        clear H
        have hcv10 := C_runes (P := Try.prog) (A := A0) (c := c0) Try.underlying25 Try.underlying21 Try.underlying9 (Kd.C_below HR0.out HB.out)
        have hcv11 := C_runes (P := Try.prog) (A := A1) (c := c1) Try.underlying25 Try.underlying21 Try.underlying9 (Kd.C_below HR1.out HB.out)
        go_wp2
        go_loopg [12, 14] kj5 (fun kq v12 v14 w' => ∃ (x12_2 : ByteArray) (x14_2 : Int), v12 = .string x12_2 ∧ v14 = .int .i64 x14_2 ∧ Aside0 (manteletlaw18_FuzzyLengths.l0 kq l1 a2 a3 t101 (runesBytes l0) (runesBytes l1) x12_2 (⟨#[]⟩ : ByteArray) x14_2 = some r) ∧ Aside0 (kq ≤ kj5) ∧ Aside0 (Below w.heap.size w w'))
        case atStart => exact ⟨((⟨#[]⟩ : ByteArray)), (0), (by first | rfl | (simp; done) | (simp [*]; done)), (by first | rfl | (simp; done) | (simp [*]; done)), H', ⟨Nat.le_refl _⟩, ⟨by repeat (first | (with_reducible first | exact HB.out | apply below_alloc | apply pw_below_drewN | apply below_drew1) | exact HB.out)⟩⟩
        case round =>
          clear H'
          try clear c1
          try clear hcv1
          try clear p2
          try clear c7
          try clear c8
          try clear c8b0
          try clear c8b1
          try clear c9
          try clear hcv10
          try clear hcv11
          try clear p2
          obtain ⟨x12_2, x14_2, rfl, rfl, HA, HK2, HB⟩ := hrel
          cases gk with
          | zero => exact absurd HA.out (by simp [manteletlaw18_FuzzyLengths.l0])
          | succ k2 =>
            have H := HA.out
            clear HA
            simp only [manteletlaw18_FuzzyLengths.l0] at H
            by_cases c12 : x14_2 < (wrap64 (Int.tmod a2 30))
            · rw [if_pos c12] at H
              have c12b0 : decide (x14_2 < (wrap64 (Int.tmod a2 30))) = true := decide_eq_true c12
              clear c12
              by_cases c13 : x12_2.size + 1 ≤ 9223372036854775807
              · rw [if_pos c13] at H
                have c13b0 := eq_true c13
                have c13b1 : decide (x12_2.size + 1 ≤ 9223372036854775807) = true := decide_eq_true c13
                try have c13b2 : (9223372036854775807 < x12_2.size + 1) = False := eq_false (Nat.not_lt.2 c13)
                have H' := Aside0.mk H
                clear H
                go_wp2
                go_roundg k2
                case measure => have := HJ5.out; have := HK2.out; omega
                case rel => exact ⟨(x12_2 ++ (⟨#[120]⟩ : ByteArray)), (wrap64 (x14_2 + 1)), (by first | rfl | (simp; done) | (simp [*]; done)), (by first | rfl | (simp; done) | (simp [*]; done)), H', ⟨by have := HJ5.out; have := HK2.out; omega⟩, ⟨by repeat (first | (with_reducible first | exact HB.out | apply below_alloc | apply pw_below_drewN | apply below_drew1) | exact HB.out)⟩⟩
              · rw [if_neg c13] at H
                exact absurd H (by simp)
            · rw [if_neg c12] at H
              have c12b0 : decide (x14_2 < (wrap64 (Int.tmod a2 30))) = false := decide_eq_false c12
              clear c12
              have H' := Aside0.mk H
              clear H
              go_wp2
              go_loopg [13, 15] k2 (fun kq v13 v15 w' => ∃ (x13_3 : ByteArray) (x15_3 : Int), v13 = .string x13_3 ∧ v15 = .int .i64 x15_3 ∧ Aside0 (manteletlaw18_FuzzyLengths.l1 kq l1 a2 a3 t101 (runesBytes l0) (runesBytes l1) x12_2 x13_3 x15_3 = some r) ∧ Aside0 (kq ≤ k2) ∧ Aside0 (Below w.heap.size w w'))
              case atStart => exact ⟨((⟨#[]⟩ : ByteArray)), (0), (by first | rfl | (simp; done) | (simp [*]; done)), (by first | rfl | (simp; done) | (simp [*]; done)), H', ⟨Nat.le_refl _⟩, ⟨by repeat (first | (with_reducible first | exact HB.out | apply below_alloc | apply pw_below_drewN | apply below_drew1) | exact HB.out)⟩⟩
              case round =>
                clear H'
                try clear c1
                try clear hcv1
                try clear p2
                try clear p6
                try clear c7
                try clear c8
                try clear c8b0
                try clear c8b1
                try clear c9
                try clear hcv10
                try clear hcv11
                try clear c12
                try clear c12b0
                try clear c13
                try clear c13b0
                try clear c13b1
                try clear c13b2
                try clear p2
                obtain ⟨x13_3, x15_3, rfl, rfl, HA, HK3, HB⟩ := hrel
                cases gk with
                | zero => exact absurd HA.out (by simp [manteletlaw18_FuzzyLengths.l1])
                | succ k3 =>
                  have H := HA.out
                  clear HA
                  simp only [manteletlaw18_FuzzyLengths.l1] at H
                  by_cases c14 : x15_3 < (wrap64 (Int.tmod a3 30))
                  · rw [if_pos c14] at H
                    have c14b0 : decide (x15_3 < (wrap64 (Int.tmod a3 30))) = true := decide_eq_true c14
                    clear c14
                    by_cases c15 : x13_3.size + 2 ≤ 9223372036854775807
                    · rw [if_pos c15] at H
                      have c15b0 := eq_true c15
                      have c15b1 : decide (x13_3.size + 2 ≤ 9223372036854775807) = true := decide_eq_true c15
                      try have c15b2 : (9223372036854775807 < x13_3.size + 2) = False := eq_false (Nat.not_lt.2 c15)
                      have H' := Aside0.mk H
                      clear H
                      go_wp2
                      go_roundg k3
                      case measure => have := HJ5.out; have := HK2.out; have := HK3.out; omega
                      case rel => exact ⟨(x13_3 ++ (⟨#[195, 164]⟩ : ByteArray)), (wrap64 (x15_3 + 1)), (by first | rfl | (simp; done) | (simp [*]; done)), (by first | rfl | (simp; done) | (simp [*]; done)), H', ⟨by have := HJ5.out; have := HK2.out; have := HK3.out; omega⟩, ⟨by repeat (first | (with_reducible first | exact HB.out | apply below_alloc | apply pw_below_drewN | apply below_drew1) | exact HB.out)⟩⟩
                    · rw [if_neg c15] at H
                      exact absurd H (by simp)
                  · rw [if_neg c14] at H
                    have c14b0 : decide (x15_3 < (wrap64 (Int.tmod a3 30))) = false := decide_eq_false c14
                    clear c14
                    by_cases c16 : t101 = true
                    · subst c16
                      have H1 : (if (runesBytes l0).size + (runesBytes l1).size ≤ 9223372036854775807 then ((fuzzy_Dist.f (runesBytes l0) ((runesBytes l0) ++ (runesBytes l1))).bind fun t102 => (if t102 = (l1.length : Int) then (if (runesBytes l1).size + (runesBytes l0).size ≤ 9223372036854775807 then ((fuzzy_Dist.f ((runesBytes l1) ++ (runesBytes l0)) (runesBytes l0)).bind fun t103 => (if t103 = (l1.length : Int) then ((fuzzy_Dist.f x12_2 x13_3).bind fun t104 => (some (t104 == (mx (wrap64 (Int.tmod a2 30)) (wrap64 (Int.tmod a3 30)))))) else (some false))) else (none)) else (some false))) else (none)) = some r := by rw [if_pos rfl] at H; exact H
                      clear H
                      have H := H1
                      clear H1
                      by_cases c17 : (runesBytes l0).size + (runesBytes l1).size ≤ 9223372036854775807
                      · rw [if_pos c17] at H
                        have c17b0 := eq_true c17
                        have c17b1 : decide ((runesBytes l0).size + (runesBytes l1).size ≤ 9223372036854775807) = true := decide_eq_true c17
                        try have c17b2 : (9223372036854775807 < (runesBytes l0).size + (runesBytes l1).size) = False := eq_false (Nat.not_lt.2 c17)
                        replace H := Option.bind_eq_some_iff.mp H
                        obtain ⟨t102, A180, H⟩ := H
                        replace H : (if t102 = (l1.length : Int) then (if (runesBytes l1).size + (runesBytes l0).size ≤ 9223372036854775807 then ((fuzzy_Dist.f ((runesBytes l1) ++ (runesBytes l0)) (runesBytes l0)).bind fun t103 => (if t103 = (l1.length : Int) then ((fuzzy_Dist.f x12_2 x13_3).bind fun t104 => (some (t104 == (mx (wrap64 (Int.tmod a2 30)) (wrap64 (Int.tmod a3 30)))))) else (some false))) else (none)) else (some false)) = some r := H
                        have A18 := Aside0.mk A180
                        clear A180
                        by_cases c19 : t102 = (l1.length : Int)
                        · rw [if_pos c19] at H
                          have c19b0 : (t102 == (l1.length : Int)) = true := beq_iff_eq.mpr c19
                          have c19b1 : (t102 != (l1.length : Int)) = false := bne_eq_false_iff_eq.mpr c19
                          clear c19
                          by_cases c20 : (runesBytes l1).size + (runesBytes l0).size ≤ 9223372036854775807
                          · rw [if_pos c20] at H
                            have c20b0 := eq_true c20
                            have c20b1 : decide ((runesBytes l1).size + (runesBytes l0).size ≤ 9223372036854775807) = true := decide_eq_true c20
                            try have c20b2 : (9223372036854775807 < (runesBytes l1).size + (runesBytes l0).size) = False := eq_false (Nat.not_lt.2 c20)
                            replace H := Option.bind_eq_some_iff.mp H
                            obtain ⟨t103, A210, H⟩ := H
                            replace H : (if t103 = (l1.length : Int) then ((fuzzy_Dist.f x12_2 x13_3).bind fun t104 => (some (t104 == (mx (wrap64 (Int.tmod a2 30)) (wrap64 (Int.tmod a3 30)))))) else (some false)) = some r := H
                            have A21 := Aside0.mk A210
                            clear A210
                            by_cases c22 : t103 = (l1.length : Int)
                            · rw [if_pos c22] at H
                              have c22b0 : (t103 == (l1.length : Int)) = true := beq_iff_eq.mpr c22
                              have c22b1 : (t103 != (l1.length : Int)) = false := bne_eq_false_iff_eq.mpr c22
                              clear c22
                              replace H := Option.bind_eq_some_iff.mp H
                              obtain ⟨t104, A230, H⟩ := H
                              replace H : (some (t104 == (mx (wrap64 (Int.tmod a2 30)) (wrap64 (Int.tmod a3 30))))) = some r := H
                              have A23 := Aside0.mk A230
                              clear A230
                              obtain ⟨ji24, hji24⟩ : ∃ j_ : Int, (mx (wrap64 (Int.tmod a2 30)) (wrap64 (Int.tmod a3 30))) = j_ := ⟨_, rfl⟩
                              replace H : (some (t104 == (ji24))) = some r := by first | (rw [hji24] at H; exact H) | (simp only [hji24] at H ⊢; exact H)
                              (try rw [hji24] at A18)
                              (try rw [hji24] at A21)
                              (try rw [hji24] at A23)
                              have hji24_ : (if (wrap64 (Int.tmod a2 30)) < (wrap64 (Int.tmod a3 30)) then (wrap64 (Int.tmod a3 30)) else (wrap64 (Int.tmod a2 30))) = ji24 := hji24
                              obtain rfl := Option.some.inj H
                              go_wp2_with (first | (go_at_call 17; (with_reducible refine (fuzzy_Dist.calls (runesBytes l0) ((runesBytes l0) ++ (runesBytes l1)) t102 _ A18.out).mono ?_); rintro e w25 ⟨rfl, hb⟩; have n0_ := Aside0.mk (below_step (by repeat (first | (with_reducible first | exact HB.out | apply below_alloc | apply pw_below_drewN | apply below_drew1) | exact HB.out)) hb); clear HB; have HB := n0_; clear n0_; (try clear hb); (try clear hb2); (try clear hk); (try clear hi)) | (go_at_call 17; (with_reducible refine (fuzzy_Dist.calls ((runesBytes l1) ++ (runesBytes l0)) (runesBytes l0) t103 _ A21.out).mono ?_); rintro e w26 ⟨rfl, hb⟩; have n0_ := Aside0.mk (below_step (by repeat (first | (with_reducible first | exact HB.out | apply below_alloc | apply pw_below_drewN | apply below_drew1) | exact HB.out)) hb); clear HB; have HB := n0_; clear n0_; (try clear hb); (try clear hb2); (try clear hk); (try clear hi)) | (go_at_call 17; (with_reducible refine (fuzzy_Dist.calls x12_2 x13_3 t104 _ A23.out).mono ?_); rintro e w27 ⟨rfl, hb⟩; have n0_ := Aside0.mk (below_step (by repeat (first | (with_reducible first | exact HB.out | apply below_alloc | apply pw_below_drewN | apply below_drew1) | exact HB.out)) hb); clear HB; have HB := n0_; clear n0_; (try clear hb); (try clear hb2); (try clear hk); (try clear hi)))
                              go_ret
                              exact ⟨by first | rfl | (simp [errW_none, errW_some] <;> rfl) | (simp only [← hji24]; first | rfl | (simp [errW_none, errW_some] <;> rfl)) | (simp [*, errW_none, errW_some] <;> rfl), by repeat (first | (with_reducible first | exact HB.out | apply below_alloc | apply pw_below_drewN | apply below_drew1) | exact HB.out)⟩
                            · rw [if_neg c22] at H
                              have c22b0 : (t103 == (l1.length : Int)) = false := beq_eq_false_iff_ne.mpr c22
                              have c22b1 : (t103 != (l1.length : Int)) = true := bne_iff_ne.mpr c22
                              obtain rfl := Option.some.inj H
                              go_wp2_with (first | (go_at_call 17; (with_reducible refine (fuzzy_Dist.calls (runesBytes l0) ((runesBytes l0) ++ (runesBytes l1)) t102 _ A18.out).mono ?_); rintro e w28 ⟨rfl, hb⟩; have n0_ := Aside0.mk (below_step (by repeat (first | (with_reducible first | exact HB.out | apply below_alloc | apply pw_below_drewN | apply below_drew1) | exact HB.out)) hb); clear HB; have HB := n0_; clear n0_; (try clear hb); (try clear hb2); (try clear hk); (try clear hi)) | (go_at_call 17; (with_reducible refine (fuzzy_Dist.calls ((runesBytes l1) ++ (runesBytes l0)) (runesBytes l0) t103 _ A21.out).mono ?_); rintro e w29 ⟨rfl, hb⟩; have n0_ := Aside0.mk (below_step (by repeat (first | (with_reducible first | exact HB.out | apply below_alloc | apply pw_below_drewN | apply below_drew1) | exact HB.out)) hb); clear HB; have HB := n0_; clear n0_; (try clear hb); (try clear hb2); (try clear hk); (try clear hi)))
                              go_ret
                              exact ⟨by first | rfl | (simp [errW_none, errW_some] <;> rfl) | (simp [*, errW_none, errW_some] <;> rfl), by repeat (first | (with_reducible first | exact HB.out | apply below_alloc | apply pw_below_drewN | apply below_drew1) | exact HB.out)⟩
                          · rw [if_neg c20] at H
                            exact absurd H (by simp)
                        · rw [if_neg c19] at H
                          have c19b0 : (t102 == (l1.length : Int)) = false := beq_eq_false_iff_ne.mpr c19
                          have c19b1 : (t102 != (l1.length : Int)) = true := bne_iff_ne.mpr c19
                          obtain rfl := Option.some.inj H
                          go_wp2_with (first | (go_at_call 17; (with_reducible refine (fuzzy_Dist.calls (runesBytes l0) ((runesBytes l0) ++ (runesBytes l1)) t102 _ A18.out).mono ?_); rintro e w30 ⟨rfl, hb⟩; have n0_ := Aside0.mk (below_step (by repeat (first | (with_reducible first | exact HB.out | apply below_alloc | apply pw_below_drewN | apply below_drew1) | exact HB.out)) hb); clear HB; have HB := n0_; clear n0_; (try clear hb); (try clear hb2); (try clear hk); (try clear hi)))
                          go_ret
                          exact ⟨by first | rfl | (simp [errW_none, errW_some] <;> rfl) | (simp [*, errW_none, errW_some] <;> rfl), by repeat (first | (with_reducible first | exact HB.out | apply below_alloc | apply pw_below_drewN | apply below_drew1) | exact HB.out)⟩
                      · rw [if_neg c17] at H
                        exact absurd H (by simp)
                    · replace c16 := Bool.eq_false_iff.mpr c16
                      subst c16
                      have H1 : (some false) = some r := by rw [if_neg (show ¬ (false = true) by decide)] at H; exact H
                      clear H
                      have H := H1
                      clear H1
                      obtain rfl := Option.some.inj H
                      go_wp2
                      go_ret
                      exact ⟨by first | rfl | (simp [errW_none, errW_some] <;> rfl) | (simp [*, errW_none, errW_some] <;> rfl), by repeat (first | (with_reducible first | exact HB.out | apply below_alloc | apply pw_below_drewN | apply below_drew1) | exact HB.out)⟩

/-- THE ONE PURE STATEMENT of manteletlaw18_FuzzyLengths: yours. -/
def manteletlaw18_FuzzyLengths.Pure : Prop := ∀ (l0 : List Int) (l1 : List Int) (a2 : Int) (a3 : Int), l0.length ≤ maxLen → l0.length * 4 ≤ 140737488351232 → (∀ x ∈ l0, (Lit.int .i32 x).wf = true) → l1.length ≤ maxLen → l1.length * 4 ≤ 140737488351232 → (∀ x ∈ l1, (Lit.int .i32 x).wf = true) → (Lit.int .u8 a2).wf = true → (Lit.int .u8 a3).wf = true → ∃ k, manteletlaw18_FuzzyLengths.f k l0 l1 a2 a3 = some true
theorem manteletlaw18_FuzzyLengths.walk (P : manteletlaw18_FuzzyLengths.Pure) (a0 : Option Addr) (len0 cap0 : Nat) (z0 : List Int) (a1 : Option Addr) (len1 cap1 : Nat) (z1 : List Int) (a2 : Int) (a3 : Int) (w : World) (w0 : (a0 = none ∧ len0 = 0 ∧ cap0 = 0 ∧ z0 = []) ∨ ∃ x, a0 = some x ∧ len0 ≤ cap0 ∧ cap0 ≤ maxLen ∧ z0.length = cap0 ∧ (∀ i, i < z0.length → w.cell? (x.add i) = some (.int .i32 (z0.getD i 0))) ∧ ∀ n ∈ z0, (Lit.int .i32 n).wf = true) (y0 : len0 * 4 ≤ 140737488351232) (w1 : (a1 = none ∧ len1 = 0 ∧ cap1 = 0 ∧ z1 = []) ∨ ∃ x, a1 = some x ∧ len1 ≤ cap1 ∧ cap1 ≤ maxLen ∧ z1.length = cap1 ∧ (∀ i, i < z1.length → w.cell? (x.add i) = some (.int .i32 (z1.getD i 0))) ∧ ∀ n ∈ z1, (Lit.int .i32 n).wf = true) (y1 : len1 * 4 ≤ 140737488351232) (w2 : (Lit.int .u8 a2).wf = true) (w3 : (Lit.int .u8 a3).wf = true) :
    Calls Try.prog 7 #[.slice a0 len0 cap0, .slice a1 len1 cap1, .int .u8 a2, .int .u8 a3] w fun e w' => e = .returned (.bool true) ∧ Below w.heap.size w w' := by
  obtain ⟨l0, rfl, hr0, hm0, hw0, hc0⟩ := ReadsInt.ofRowC w0
  obtain ⟨l1, rfl, hr1, hm1, hw1, hc1⟩ := ReadsInt.ofRowC w1
  obtain ⟨k, h⟩ := P l0 l1 a2 a3 hm0 y0 hw0 hm1 y1 hw1 w2 w3
  refine (manteletlaw18_FuzzyLengths.calls k _ _ l0 _ _ l1 a2 a3 true w (Kd.C_of_reads (d := (0 : Int)) (h1 := fun _ => rfl) hr0) hc0 (Kd.C_of_reads (d := (0 : Int)) (h1 := fun _ => rfl) hr1) hc1 h).mono ?_
  rintro e w' ⟨rfl, hd⟩
  exact ⟨rfl, hd⟩

end Go.Proofs.Ytbnjakihgmhpdaa.PFuzzyLengths
