-- Written by xprint.py of this repo, over the kit's printer and contracts proved by hand.
import Derived.Test.YthpemcchgebecaaPFoldTextsx0
namespace Go.Proofs.Ythpemcchgebecaa.PFoldTexts
open Go.RowKit Go.Proofs.YthpemcchgebecaaW.PrintWords Go.Proofs.YthpemcchgebecaaW.PrintLast Go.Proofs.YthpemcchgebecaaW.PrintMore Go.Proofs.Ythpemcchgebecaa.K Go.Proofs.Ythpemcchgebecaa.PFold Go.Proofs.Ythpemcchgebecaa.PSh05
attribute [local go_sem] max2_int min2_int max_two min_two max_three min_three max_four min_four   -- for this text's walks alone
set_option linter.unusedVariables false
set_option linter.unusedSimpArgs false

/-! ### manteletlaw05_FoldTexts: function 6 -/
def manteletlaw05_FoldTexts.j0 : Nat → List Int → List Int → Bool → Bool → Option (Bool)
  | 0, _, _, _, _ => none
  | k + 1, x0, x1, x5, x16 => if x16 = true then (some x5) else ((fold_Text.f (runesBytes x0)).bind fun t102 => ((fold_Text.f (runesBytes x1)).bind fun t103 => (if x5 = true then ((fold_Text.f t102).bind fun t104 => (if t104.toList = t102.toList then (if (runesBytes x0).size + (runesBytes x1).size ≤ 9223372036854775807 then ((fold_Text.f ((runesBytes x0) ++ (runesBytes x1))).bind fun t105 => (if t102.size + t103.size ≤ 9223372036854775807 then (if t105.toList = (t102 ++ t103).toList then (if t102.size ≤ 70368744177664 then (some (((Utf.runesZ t102).length : Int) == (x0.length : Int))) else (none)) else (some false)) else (none))) else (none)) else (some false))) else (some false))))
def manteletlaw05_FoldTexts.f (k : Nat) (l0 : List Int) (l1 : List Int) : Option (Bool) := (manteletlaw05_shown.f k).bind fun t101 => (if (l0.length : Int) > 2000 then (manteletlaw05_FoldTexts.j0 k l0 l1 t101 true) else (manteletlaw05_FoldTexts.j0 k l0 l1 t101 (decide ((l1.length : Int) > 2000))))
theorem manteletlaw05_FoldTexts.mono_l : ∀ k, (∀ y0 y1 y2 y3, LeO (manteletlaw05_FoldTexts.j0 k y0 y1 y2 y3) (manteletlaw05_FoldTexts.j0 (k + 1) y0 y1 y2 y3))
  | 0 => fun _ _ _ _ r h => by simp [manteletlaw05_FoldTexts.j0] at h
  | k + 1 => by
    have ih0 := manteletlaw05_FoldTexts.mono_l k
    · intro y0 y1 y2 y3
      unfold manteletlaw05_FoldTexts.j0
      repeat' first
      | (with_reducible exact ih0 _ _ _ _)
      | (with_reducible exact manteletlaw05_shown.mono _)
      | (with_reducible exact LeO.refl _)
      | (with_reducible exact LeO.none _)
      | (with_reducible refine LeO.ite ?_ ?_)
      | (with_reducible refine LeO.bind ?_ (fun _ => ?_))
      | exact ih0 _ _ _ _
      | exact manteletlaw05_shown.mono _
      | exact LeO.none _
      | refine LeO.ite ?_ ?_
      | refine LeO.bind ?_ (fun _ => ?_)
theorem manteletlaw05_FoldTexts.mono : ∀ a0 a1 k, LeO (manteletlaw05_FoldTexts.f k a0 a1) (manteletlaw05_FoldTexts.f (k + 1) a0 a1) := by
  intro a0 a1 k
  have ih0 := manteletlaw05_FoldTexts.mono_l k
  unfold manteletlaw05_FoldTexts.f
  repeat' first
      | (with_reducible exact ih0 _ _ _ _)
      | (with_reducible exact manteletlaw05_shown.mono _)
      | (with_reducible exact LeO.refl _)
      | (with_reducible exact LeO.none _)
      | (with_reducible refine LeO.ite ?_ ?_)
      | (with_reducible refine LeO.bind ?_ (fun _ => ?_))
      | exact ih0 _ _ _ _
      | exact manteletlaw05_shown.mono _
      | exact LeO.none _
      | refine LeO.ite ?_ ?_
      | refine LeO.bind ?_ (fun _ => ?_)
set_option maxHeartbeats 8000000 in
set_option maxRecDepth 100000 in
theorem manteletlaw05_FoldTexts.calls (k : Nat) (A0 : Option Addr) (c0 : Nat) (l0 : List Int) (A1 : Option Addr) (c1 : Nat) (l1 : List Int) (r : Bool) (w : World) (hr0 : Kd.C (Kd.int .i32) w A0 l0.length l0) (hc0 : l0.length ≤ c0) (hr1 : Kd.C (Kd.int .i32) w A1 l1.length l1) (hc1 : l1.length ≤ c1) (h : manteletlaw05_FoldTexts.f k l0 l1 = some r) :
    Calls Try.prog 6 #[.slice A0 l0.length c0, .slice A1 l1.length c1] w fun e w' => e = .returned (.bool r) ∧ Below w.heap.size w w' := by
  have HR0 := Aside0.mk hr0
  have HC0 := Aside0.mk hc0
  clear hr0 hc0
  have HR1 := Aside0.mk hr1
  have HC1 := Aside0.mk hc1
  clear hr1 hc1
  have HB := Aside0.mk (Below.refl w.heap.size w)
  have H : ((manteletlaw05_shown.f k).bind fun t101 => (if (l0.length : Int) > 2000 then (manteletlaw05_FoldTexts.j0 k l0 l1 t101 true) else (manteletlaw05_FoldTexts.j0 k l0 l1 t101 (decide ((l1.length : Int) > 2000))))) = some r := h
  clear h
  replace H := Option.bind_eq_some_iff.mp H
  obtain ⟨t101, A30, H⟩ := H
  replace H : (if (l0.length : Int) > 2000 then (manteletlaw05_FoldTexts.j0 k l0 l1 t101 true) else (manteletlaw05_FoldTexts.j0 k l0 l1 t101 (decide ((l1.length : Int) > 2000)))) = some r := H
  have A3 := Aside0.mk A30
  clear A30
  have HC4 := Aside0.mk H
  clear H
  go_enter Try.func6, Try.ntmps6
  go_upto_region 2 with (first | ((with_reducible refine gate_callee (f := 11) rfl ?_); refine goesL_ (some 8) rfl rfl Try.func11 (by kernel_rfl) rfl #[] rfl (by (try simp only [List.map_toArray, List.map_cons, List.map_nil]); first | done | rfl | (simp only [List.length_drop, List.length_take]; rfl)) ?_; (with_reducible refine (manteletlaw05_shown.calls k  t101 _ A3.out).mono ?_); rintro e w5 ⟨rfl, hb⟩; refine ⟨_, rfl, ?_⟩; have n0_ := Aside0.mk (below_step (by repeat (first | (with_reducible first | exact HB.out | apply below_alloc | apply pw_below_drewN | apply below_drew1) | exact HB.out)) hb); clear HB; have HB := n0_; clear n0_; (try clear hb); (try clear hb2); (try clear hk); (try clear hi)))
  (try simp only [Act.put, List.setIfInBounds_toArray, List.set_cons_zero, List.set_cons_succ])
  go_cut [16] (fun v16 wc => ∃ (kq : Nat) (x16_3 : Bool), v16 = .bool x16_3 ∧ Aside0 (manteletlaw05_FoldTexts.j0 kq l0 l1 t101 x16_3 = some r) ∧ Aside0 (kq ≤ k) ∧ Aside0 (Below w.heap.size w wc))
  case first =>
    have H := HC4.out
    clear HC4
    by_cases c6 : (l0.length : Int) > 2000
    · rw [if_pos c6] at H
      have c6b0 : decide (2000 < (l0.length : Int)) = true := decide_eq_true c6
      have c6b1 : decide (2000 < l0.length) = true := decide_eq_true (by omega)
      clear c6
      (first | rw [c6b0] | (simp only [i64_w, i32_w]; rw [c6b0]) | skip)
      have H' := Aside0.mk H
      clear H
      go_wp2
      go_meet
      case rel => exact ⟨_, (true), (by first | rfl | (simp; done) | (simp [*]; done)), H', ⟨by first | omega | exact Nat.le_refl _⟩, ⟨by repeat (first | (with_reducible first | exact HB.out | apply below_alloc | apply pw_below_drewN | apply below_drew1) | exact HB.out)⟩⟩
    · rw [if_neg c6] at H
      have c6b0 : decide (2000 < (l0.length : Int)) = false := decide_eq_false c6
      have c6b1 : decide (2000 < l0.length) = false := decide_eq_false (by omega)
      clear c6
      (first | rw [c6b0] | (simp only [i64_w, i32_w]; rw [c6b0]) | skip)
      have H' := Aside0.mk H
      clear H
      go_wp2
      go_meet
      case rel => exact ⟨_, (decide ((l1.length : Int) > 2000)), (by first | rfl | (simp; done) | (simp [*]; done)), H', ⟨by first | omega | exact Nat.le_refl _⟩, ⟨by repeat (first | (with_reducible first | exact HB.out | apply below_alloc | apply pw_below_drewN | apply below_drew1) | exact HB.out)⟩⟩
  case rest =>
    clear HC4
    try clear c1
    try clear p2
    try clear c6
    try clear c6b0
    try clear c6b1
    obtain ⟨kq, x16_3, rfl, HA, HJ3, HB⟩ := hcut
    cases kq with
    | zero => exact absurd HA.out (by simp [manteletlaw05_FoldTexts.j0])
    | succ kj3 =>
      have H := HA.out
      clear HA
      simp only [manteletlaw05_FoldTexts.j0] at H
      by_cases c7 : x16_3 = true
      · subst c7
        have H1 : (some t101) = some r := by rw [if_pos rfl] at H; exact H
        clear H
        have H := H1
        clear H1
        obtain rfl := Option.some.inj H
        go_wp2
        go_ret
        exact ⟨by first | rfl | (simp [errW_none, errW_some] <;> rfl) | (simp [*, errW_none, errW_some] <;> rfl), by repeat (first | (with_reducible first | exact HB.out | apply below_alloc | apply pw_below_drewN | apply below_drew1) | exact HB.out)⟩
      · replace c7 := Bool.eq_false_iff.mpr c7
        subst c7
        have H1 : ((fold_Text.f (runesBytes l0)).bind fun t102 => ((fold_Text.f (runesBytes l1)).bind fun t103 => (if t101 = true then ((fold_Text.f t102).bind fun t104 => (if t104.toList = t102.toList then (if (runesBytes l0).size + (runesBytes l1).size ≤ 9223372036854775807 then ((fold_Text.f ((runesBytes l0) ++ (runesBytes l1))).bind fun t105 => (if t102.size + t103.size ≤ 9223372036854775807 then (if t105.toList = (t102 ++ t103).toList then (if t102.size ≤ 70368744177664 then (some (((Utf.runesZ t102).length : Int) == (l0.length : Int))) else (none)) else (some false)) else (none))) else (none)) else (some false))) else (some false)))) = some r := by rw [if_neg (show ¬ (false = true) by decide)] at H; exact H
        clear H
        have H := H1
        clear H1
        replace H := Option.bind_eq_some_iff.mp H
        obtain ⟨t102, A80, H⟩ := H
        replace H : ((fold_Text.f (runesBytes l1)).bind fun t103 => (if t101 = true then ((fold_Text.f t102).bind fun t104 => (if t104.toList = t102.toList then (if (runesBytes l0).size + (runesBytes l1).size ≤ 9223372036854775807 then ((fold_Text.f ((runesBytes l0) ++ (runesBytes l1))).bind fun t105 => (if t102.size + t103.size ≤ 9223372036854775807 then (if t105.toList = (t102 ++ t103).toList then (if t102.size ≤ 70368744177664 then (some (((Utf.runesZ t102).length : Int) == (l0.length : Int))) else (none)) else (some false)) else (none))) else (none)) else (some false))) else (some false))) = some r := H
        have A8 := Aside0.mk A80
        clear A80
        replace H := Option.bind_eq_some_iff.mp H
        obtain ⟨t103, A90, H⟩ := H
        replace H : (if t101 = true then ((fold_Text.f t102).bind fun t104 => (if t104.toList = t102.toList then (if (runesBytes l0).size + (runesBytes l1).size ≤ 9223372036854775807 then ((fold_Text.f ((runesBytes l0) ++ (runesBytes l1))).bind fun t105 => (if t102.size + t103.size ≤ 9223372036854775807 then (if t105.toList = (t102 ++ t103).toList then (if t102.size ≤ 70368744177664 then (some (((Utf.runesZ t102).length : Int) == (l0.length : Int))) else (none)) else (some false)) else (none))) else (none)) else (some false))) else (some false)) = some r := H
        have A9 := Aside0.mk A90
        clear A90
        by_cases c10 : t101 = true
        · subst c10
          have H1 : ((fold_Text.f t102).bind fun t104 => (if t104.toList = t102.toList then (if (runesBytes l0).size + (runesBytes l1).size ≤ 9223372036854775807 then ((fold_Text.f ((runesBytes l0) ++ (runesBytes l1))).bind fun t105 => (if t102.size + t103.size ≤ 9223372036854775807 then (if t105.toList = (t102 ++ t103).toList then (if t102.size ≤ 70368744177664 then (some (((Utf.runesZ t102).length : Int) == (l0.length : Int))) else (none)) else (some false)) else (none))) else (none)) else (some false))) = some r := by rw [if_pos rfl] at H; exact H
          clear H
          have H := H1
          clear H1
          replace H := Option.bind_eq_some_iff.mp H
          obtain ⟨t104, A110, H⟩ := H
          replace H : (if t104.toList = t102.toList then (if (runesBytes l0).size + (runesBytes l1).size ≤ 9223372036854775807 then ((fold_Text.f ((runesBytes l0) ++ (runesBytes l1))).bind fun t105 => (if t102.size + t103.size ≤ 9223372036854775807 then (if t105.toList = (t102 ++ t103).toList then (if t102.size ≤ 70368744177664 then (some (((Utf.runesZ t102).length : Int) == (l0.length : Int))) else (none)) else (some false)) else (none))) else (none)) else (some false)) = some r := H
          have A11 := Aside0.mk A110
          clear A110
          by_cases c12 : t104.toList = t102.toList
          · rw [if_pos c12] at H
            have c12b0 : (t104.toList == t102.toList) = true := beq_iff_eq.mpr c12
            have c12b1 : (t104.toList != t102.toList) = false := bne_eq_false_iff_eq.mpr c12
            clear c12
            by_cases c13 : (runesBytes l0).size + (runesBytes l1).size ≤ 9223372036854775807
            · rw [if_pos c13] at H
              have c13b0 := eq_true c13
              have c13b1 : decide ((runesBytes l0).size + (runesBytes l1).size ≤ 9223372036854775807) = true := decide_eq_true c13
              try have c13b2 : (9223372036854775807 < (runesBytes l0).size + (runesBytes l1).size) = False := eq_false (Nat.not_lt.2 c13)
              replace H := Option.bind_eq_some_iff.mp H
              obtain ⟨t105, A140, H⟩ := H
              replace H : (if t102.size + t103.size ≤ 9223372036854775807 then (if t105.toList = (t102 ++ t103).toList then (if t102.size ≤ 70368744177664 then (some (((Utf.runesZ t102).length : Int) == (l0.length : Int))) else (none)) else (some false)) else (none)) = some r := H
              have A14 := Aside0.mk A140
              clear A140
              by_cases c15 : t102.size + t103.size ≤ 9223372036854775807
              · rw [if_pos c15] at H
                have c15b0 := eq_true c15
                have c15b1 : decide (t102.size + t103.size ≤ 9223372036854775807) = true := decide_eq_true c15
                try have c15b2 : (9223372036854775807 < t102.size + t103.size) = False := eq_false (Nat.not_lt.2 c15)
                by_cases c16 : t105.toList = (t102 ++ t103).toList
                · rw [if_pos c16] at H
                  have c16b0 : (t105.toList == (t102 ++ t103).toList) = true := beq_iff_eq.mpr c16
                  have c16b1 : (t105.toList != (t102 ++ t103).toList) = false := bne_eq_false_iff_eq.mpr c16
                  clear c16
                  by_cases c17 : t102.size ≤ 70368744177664
                  · rw [if_pos c17] at H
                    have c17b0 := eq_true c17
                    have c17b1 : decide (t102.size ≤ 70368744177664) = true := decide_eq_true c17
                    clear c17
                    obtain ⟨y106, hy106⟩ : ∃ y_ : List Int, y_ = (Utf.runesZ t102) := ⟨_, rfl⟩
                    replace H : (some ((y106.length : Int) == (l0.length : Int))) = some r := by first | (rw [hy106]; with_reducible exact H) | (have H2_ := (Option.bind_some _ _).symm.trans H; rw [hy106]; with_reducible exact H2_) | (have H2_ := (Option.bind_some _ _).symm.trans H; with_reducible exact H2_) | with_reducible exact H | (rw [hy106]; exact H) | exact H
                    have Ny106 := Aside0.mk hy106
                    clear hy106
                    obtain rfl := Option.some.inj H
                    have hcv18 := C_runes (P := Try.prog) (A := A0) (c := c0) Try.underlying29 Try.underlying21 Try.underlying9 (Kd.C_below HR0.out HB.out)
                    go_wp2_with (first | ((with_reducible refine gate_callee (f := 18) rfl ?_); refine goesL_ (some 20) rfl rfl Try.func18 (by kernel_rfl) rfl #[.string (runesBytes l0)] rfl (by (try simp only [List.map_toArray, List.map_cons, List.map_nil]); first | done | rfl | (simp only [List.length_drop, List.length_take]; rfl)) ?_; (with_reducible refine (fold_Text.calls (runesBytes l0) t102 _ A8.out).mono ?_); rintro e w19 ⟨rfl, hb⟩; refine ⟨_, rfl, ?_⟩; have n0_ := Aside0.mk (below_step (by repeat (first | (with_reducible first | exact HB.out | apply below_alloc | apply pw_below_drewN | apply below_drew1) | exact HB.out)) hb); clear HB; have HB := n0_; clear n0_; (try clear hb); (try clear hb2); (try clear hk); (try clear hi); have hcv20 := C_runes (P := Try.prog) (A := A1) (c := c1) Try.underlying29 Try.underlying21 Try.underlying9 (Kd.C_below HR1.out HB.out)) | ((with_reducible refine gate_callee (f := 18) rfl ?_); refine goesL_ (some 23) rfl rfl Try.func18 (by kernel_rfl) rfl #[.string (runesBytes l1)] rfl (by (try simp only [List.map_toArray, List.map_cons, List.map_nil]); first | done | rfl | (simp only [List.length_drop, List.length_take]; rfl)) ?_; (with_reducible refine (fold_Text.calls (runesBytes l1) t103 _ A9.out).mono ?_); rintro e w21 ⟨rfl, hb⟩; refine ⟨_, rfl, ?_⟩; have n0_ := Aside0.mk (below_step (by repeat (first | (with_reducible first | exact HB.out | apply below_alloc | apply pw_below_drewN | apply below_drew1) | exact HB.out)) hb); clear HB; have HB := n0_; clear n0_; (try clear hb); (try clear hb2); (try clear hk); (try clear hi)) | (go_at_call 18; (with_reducible refine (fold_Text.calls t102 t104 _ A11.out).mono ?_); rintro e w22 ⟨rfl, hb⟩; have n0_ := Aside0.mk (below_step (by repeat (first | (with_reducible first | exact HB.out | apply below_alloc | apply pw_below_drewN | apply below_drew1) | exact HB.out)) hb); clear HB; have HB := n0_; clear n0_; (try clear hb); (try clear hb2); (try clear hk); (try clear hi); have hcv23 := C_runes (P := Try.prog) (A := A0) (c := c0) Try.underlying29 Try.underlying21 Try.underlying9 (Kd.C_below HR0.out HB.out); have hcv24 := C_runes (P := Try.prog) (A := A1) (c := c1) Try.underlying29 Try.underlying21 Try.underlying9 (Kd.C_below HR1.out HB.out)) | (go_at_call 18; (with_reducible refine (fold_Text.calls ((runesBytes l0) ++ (runesBytes l1)) t105 _ A14.out).mono ?_); rintro e w25 ⟨rfl, hb⟩; have n0_ := Aside0.mk (below_step (by repeat (first | (with_reducible first | exact HB.out | apply below_alloc | apply pw_below_drewN | apply below_drew1) | exact HB.out)) hb); clear HB; have HB := n0_; clear n0_; (try clear hb); (try clear hb2); (try clear hk); (try clear hi)) | ((with_reducible refine gate_dst (N := 45) rfl ?_); (try (refine gate_guard (by rfl) ?_; dsimp only)); refine R_convr _ Try.underlying9 Try.underlying29 Try.underlying21 ?hg (N := 45) ?hd (xs := (Utf.runesZ t102)) (s := t102) (ok := fun _ => True) (okp := fun _ => True) ?hr ?hx (fun _ hk => hk) trivial (Below.refl _ _) (Nat.le_refl _) (of_decide_eq_true (by first | (with_reducible assumption) | assumption)) ?_; (case hd => rfl); (case hg => rfl); (case hx => rfl); (case hr => first | (go_simp; done) | (go_simp; rfl)); intro v107 w26 ho27 hb hg_ hnew_; clear hg_ hnew_; (first | rw [← Ny106.out] at ho27 | (simp only [Int.reduceToNat] at ho27; rw [← Ny106.out] at ho27)); have n0_ := Aside0.mk (Kd.R_lower ho27 (below_size (by repeat (first | (with_reducible first | exact HB.out | apply below_alloc | apply pw_below_drewN | apply below_drew1) | exact HB.out)))); have n1_ := Aside0.mk (below_step (by repeat (first | (with_reducible first | exact HB.out | apply below_alloc | apply pw_below_drewN | apply below_drew1) | exact HB.out)) hb); clear HB; have HO108 := n0_; have HB := n1_; clear n0_ n1_; clear hb ho27; obtain ⟨Ao28, co28, eo28⟩ := Kd.R_slice HO108.out; subst eo28))
                    go_ret
                    exact ⟨by first | rfl | (simp [errW_none, errW_some] <;> rfl) | (simp [*, errW_none, errW_some] <;> rfl), by repeat (first | (with_reducible first | exact HB.out | apply below_alloc | apply pw_below_drewN | apply below_drew1) | exact HB.out)⟩
                  · rw [if_neg c17] at H
                    exact absurd H (by simp)
                · rw [if_neg c16] at H
                  have c16b0 : (t105.toList == (t102 ++ t103).toList) = false := beq_eq_false_iff_ne.mpr c16
                  have c16b1 : (t105.toList != (t102 ++ t103).toList) = true := bne_iff_ne.mpr c16
                  obtain rfl := Option.some.inj H
                  have hcv29 := C_runes (P := Try.prog) (A := A0) (c := c0) Try.underlying29 Try.underlying21 Try.underlying9 (Kd.C_below HR0.out HB.out)
                  go_wp2_with (first | ((with_reducible refine gate_callee (f := 18) rfl ?_); refine goesL_ (some 20) rfl rfl Try.func18 (by kernel_rfl) rfl #[.string (runesBytes l0)] rfl (by (try simp only [List.map_toArray, List.map_cons, List.map_nil]); first | done | rfl | (simp only [List.length_drop, List.length_take]; rfl)) ?_; (with_reducible refine (fold_Text.calls (runesBytes l0) t102 _ A8.out).mono ?_); rintro e w30 ⟨rfl, hb⟩; refine ⟨_, rfl, ?_⟩; have n0_ := Aside0.mk (below_step (by repeat (first | (with_reducible first | exact HB.out | apply below_alloc | apply pw_below_drewN | apply below_drew1) | exact HB.out)) hb); clear HB; have HB := n0_; clear n0_; (try clear hb); (try clear hb2); (try clear hk); (try clear hi); have hcv31 := C_runes (P := Try.prog) (A := A1) (c := c1) Try.underlying29 Try.underlying21 Try.underlying9 (Kd.C_below HR1.out HB.out)) | ((with_reducible refine gate_callee (f := 18) rfl ?_); refine goesL_ (some 23) rfl rfl Try.func18 (by kernel_rfl) rfl #[.string (runesBytes l1)] rfl (by (try simp only [List.map_toArray, List.map_cons, List.map_nil]); first | done | rfl | (simp only [List.length_drop, List.length_take]; rfl)) ?_; (with_reducible refine (fold_Text.calls (runesBytes l1) t103 _ A9.out).mono ?_); rintro e w32 ⟨rfl, hb⟩; refine ⟨_, rfl, ?_⟩; have n0_ := Aside0.mk (below_step (by repeat (first | (with_reducible first | exact HB.out | apply below_alloc | apply pw_below_drewN | apply below_drew1) | exact HB.out)) hb); clear HB; have HB := n0_; clear n0_; (try clear hb); (try clear hb2); (try clear hk); (try clear hi)) | (go_at_call 18; (with_reducible refine (fold_Text.calls t102 t104 _ A11.out).mono ?_); rintro e w33 ⟨rfl, hb⟩; have n0_ := Aside0.mk (below_step (by repeat (first | (with_reducible first | exact HB.out | apply below_alloc | apply pw_below_drewN | apply below_drew1) | exact HB.out)) hb); clear HB; have HB := n0_; clear n0_; (try clear hb); (try clear hb2); (try clear hk); (try clear hi); have hcv34 := C_runes (P := Try.prog) (A := A0) (c := c0) Try.underlying29 Try.underlying21 Try.underlying9 (Kd.C_below HR0.out HB.out); have hcv35 := C_runes (P := Try.prog) (A := A1) (c := c1) Try.underlying29 Try.underlying21 Try.underlying9 (Kd.C_below HR1.out HB.out)) | (go_at_call 18; (with_reducible refine (fold_Text.calls ((runesBytes l0) ++ (runesBytes l1)) t105 _ A14.out).mono ?_); rintro e w36 ⟨rfl, hb⟩; have n0_ := Aside0.mk (below_step (by repeat (first | (with_reducible first | exact HB.out | apply below_alloc | apply pw_below_drewN | apply below_drew1) | exact HB.out)) hb); clear HB; have HB := n0_; clear n0_; (try clear hb); (try clear hb2); (try clear hk); (try clear hi)))
                  go_ret
                  exact ⟨by first | rfl | (simp [errW_none, errW_some] <;> rfl) | (simp [*, errW_none, errW_some] <;> rfl), by repeat (first | (with_reducible first | exact HB.out | apply below_alloc | apply pw_below_drewN | apply below_drew1) | exact HB.out)⟩
              · rw [if_neg c15] at H
                exact absurd H (by simp)
            · rw [if_neg c13] at H
              exact absurd H (by simp)
          · rw [if_neg c12] at H
            have c12b0 : (t104.toList == t102.toList) = false := beq_eq_false_iff_ne.mpr c12
            have c12b1 : (t104.toList != t102.toList) = true := bne_iff_ne.mpr c12
            obtain rfl := Option.some.inj H
            have hcv37 := C_runes (P := Try.prog) (A := A0) (c := c0) Try.underlying29 Try.underlying21 Try.underlying9 (Kd.C_below HR0.out HB.out)
            go_wp2_with (first | ((with_reducible refine gate_callee (f := 18) rfl ?_); refine goesL_ (some 20) rfl rfl Try.func18 (by kernel_rfl) rfl #[.string (runesBytes l0)] rfl (by (try simp only [List.map_toArray, List.map_cons, List.map_nil]); first | done | rfl | (simp only [List.length_drop, List.length_take]; rfl)) ?_; (with_reducible refine (fold_Text.calls (runesBytes l0) t102 _ A8.out).mono ?_); rintro e w38 ⟨rfl, hb⟩; refine ⟨_, rfl, ?_⟩; have n0_ := Aside0.mk (below_step (by repeat (first | (with_reducible first | exact HB.out | apply below_alloc | apply pw_below_drewN | apply below_drew1) | exact HB.out)) hb); clear HB; have HB := n0_; clear n0_; (try clear hb); (try clear hb2); (try clear hk); (try clear hi); have hcv39 := C_runes (P := Try.prog) (A := A1) (c := c1) Try.underlying29 Try.underlying21 Try.underlying9 (Kd.C_below HR1.out HB.out)) | ((with_reducible refine gate_callee (f := 18) rfl ?_); refine goesL_ (some 23) rfl rfl Try.func18 (by kernel_rfl) rfl #[.string (runesBytes l1)] rfl (by (try simp only [List.map_toArray, List.map_cons, List.map_nil]); first | done | rfl | (simp only [List.length_drop, List.length_take]; rfl)) ?_; (with_reducible refine (fold_Text.calls (runesBytes l1) t103 _ A9.out).mono ?_); rintro e w40 ⟨rfl, hb⟩; refine ⟨_, rfl, ?_⟩; have n0_ := Aside0.mk (below_step (by repeat (first | (with_reducible first | exact HB.out | apply below_alloc | apply pw_below_drewN | apply below_drew1) | exact HB.out)) hb); clear HB; have HB := n0_; clear n0_; (try clear hb); (try clear hb2); (try clear hk); (try clear hi)) | (go_at_call 18; (with_reducible refine (fold_Text.calls t102 t104 _ A11.out).mono ?_); rintro e w41 ⟨rfl, hb⟩; have n0_ := Aside0.mk (below_step (by repeat (first | (with_reducible first | exact HB.out | apply below_alloc | apply pw_below_drewN | apply below_drew1) | exact HB.out)) hb); clear HB; have HB := n0_; clear n0_; (try clear hb); (try clear hb2); (try clear hk); (try clear hi)))
            go_ret
            exact ⟨by first | rfl | (simp [errW_none, errW_some] <;> rfl) | (simp [*, errW_none, errW_some] <;> rfl), by repeat (first | (with_reducible first | exact HB.out | apply below_alloc | apply pw_below_drewN | apply below_drew1) | exact HB.out)⟩
        · replace c10 := Bool.eq_false_iff.mpr c10
          subst c10
          have H1 : (some false) = some r := by rw [if_neg (show ¬ (false = true) by decide)] at H; exact H
          clear H
          have H := H1
          clear H1
          obtain rfl := Option.some.inj H
          have hcv42 := C_runes (P := Try.prog) (A := A0) (c := c0) Try.underlying29 Try.underlying21 Try.underlying9 (Kd.C_below HR0.out HB.out)
          go_wp2_with (first | ((with_reducible refine gate_callee (f := 18) rfl ?_); refine goesL_ (some 20) rfl rfl Try.func18 (by kernel_rfl) rfl #[.string (runesBytes l0)] rfl (by (try simp only [List.map_toArray, List.map_cons, List.map_nil]); first | done | rfl | (simp only [List.length_drop, List.length_take]; rfl)) ?_; (with_reducible refine (fold_Text.calls (runesBytes l0) t102 _ A8.out).mono ?_); rintro e w43 ⟨rfl, hb⟩; refine ⟨_, rfl, ?_⟩; have n0_ := Aside0.mk (below_step (by repeat (first | (with_reducible first | exact HB.out | apply below_alloc | apply pw_below_drewN | apply below_drew1) | exact HB.out)) hb); clear HB; have HB := n0_; clear n0_; (try clear hb); (try clear hb2); (try clear hk); (try clear hi); have hcv44 := C_runes (P := Try.prog) (A := A1) (c := c1) Try.underlying29 Try.underlying21 Try.underlying9 (Kd.C_below HR1.out HB.out)) | ((with_reducible refine gate_callee (f := 18) rfl ?_); refine goesL_ (some 23) rfl rfl Try.func18 (by kernel_rfl) rfl #[.string (runesBytes l1)] rfl (by (try simp only [List.map_toArray, List.map_cons, List.map_nil]); first | done | rfl | (simp only [List.length_drop, List.length_take]; rfl)) ?_; (with_reducible refine (fold_Text.calls (runesBytes l1) t103 _ A9.out).mono ?_); rintro e w45 ⟨rfl, hb⟩; refine ⟨_, rfl, ?_⟩; have n0_ := Aside0.mk (below_step (by repeat (first | (with_reducible first | exact HB.out | apply below_alloc | apply pw_below_drewN | apply below_drew1) | exact HB.out)) hb); clear HB; have HB := n0_; clear n0_; (try clear hb); (try clear hb2); (try clear hk); (try clear hi)))
          go_ret
          exact ⟨by first | rfl | (simp [errW_none, errW_some] <;> rfl) | (simp [*, errW_none, errW_some] <;> rfl), by repeat (first | (with_reducible first | exact HB.out | apply below_alloc | apply pw_below_drewN | apply below_drew1) | exact HB.out)⟩

/-- THE ONE PURE STATEMENT of manteletlaw05_FoldTexts: yours. -/
def manteletlaw05_FoldTexts.Pure : Prop := ∀ (l0 : List Int) (l1 : List Int), l0.length ≤ maxLen → l0.length * 4 ≤ 140737488351232 → (∀ x ∈ l0, (Lit.int .i32 x).wf = true) → l1.length ≤ maxLen → l1.length * 4 ≤ 140737488351232 → (∀ x ∈ l1, (Lit.int .i32 x).wf = true) → ∃ k, manteletlaw05_FoldTexts.f k l0 l1 = some true
theorem manteletlaw05_FoldTexts.walk (P : manteletlaw05_FoldTexts.Pure) (a0 : Option Addr) (len0 cap0 : Nat) (z0 : List Int) (a1 : Option Addr) (len1 cap1 : Nat) (z1 : List Int) (w : World) (w0 : (a0 = none ∧ len0 = 0 ∧ cap0 = 0 ∧ z0 = []) ∨ ∃ x, a0 = some x ∧ len0 ≤ cap0 ∧ cap0 ≤ maxLen ∧ z0.length = cap0 ∧ (∀ i, i < z0.length → w.cell? (x.add i) = some (.int .i32 (z0.getD i 0))) ∧ ∀ n ∈ z0, (Lit.int .i32 n).wf = true) (y0 : len0 * 4 ≤ 140737488351232) (w1 : (a1 = none ∧ len1 = 0 ∧ cap1 = 0 ∧ z1 = []) ∨ ∃ x, a1 = some x ∧ len1 ≤ cap1 ∧ cap1 ≤ maxLen ∧ z1.length = cap1 ∧ (∀ i, i < z1.length → w.cell? (x.add i) = some (.int .i32 (z1.getD i 0))) ∧ ∀ n ∈ z1, (Lit.int .i32 n).wf = true) (y1 : len1 * 4 ≤ 140737488351232) :
    Calls Try.prog 6 #[.slice a0 len0 cap0, .slice a1 len1 cap1] w fun e w' => e = .returned (.bool true) ∧ Below w.heap.size w w' := by
  obtain ⟨l0, rfl, hr0, hm0, hw0, hc0⟩ := ReadsInt.ofRowC w0
  obtain ⟨l1, rfl, hr1, hm1, hw1, hc1⟩ := ReadsInt.ofRowC w1
  obtain ⟨k, h⟩ := P l0 l1 hm0 y0 hw0 hm1 y1 hw1
  refine (manteletlaw05_FoldTexts.calls k _ _ l0 _ _ l1 true w (Kd.C_of_reads (d := (0 : Int)) (h1 := fun _ => rfl) hr0) hc0 (Kd.C_of_reads (d := (0 : Int)) (h1 := fun _ => rfl) hr1) hc1 h).mono ?_
  rintro e w' ⟨rfl, hd⟩
  exact ⟨rfl, hd⟩

end Go.Proofs.Ythpemcchgebecaa.PFoldTexts
