-- Written by xprint.py of this repo, over the kit's printer and contracts proved by hand.
import Derived.Test.YthpemcchgebecaaPFoldTellsx0
namespace Go.Proofs.Ythpemcchgebecaa.PFoldTells
open Go.RowKit Go.Proofs.YthpemcchgebecaaW.PrintWords Go.Proofs.YthpemcchgebecaaW.PrintLast Go.Proofs.YthpemcchgebecaaW.PrintMore Go.Proofs.Ythpemcchgebecaa.K Go.Proofs.Ythpemcchgebecaa.PFold Go.Proofs.Ythpemcchgebecaa.PSh05
attribute [local go_sem] max2_int min2_int max_two min_two max_three min_three max_four min_four   -- for this text's walks alone
set_option linter.unusedVariables false
set_option linter.unusedSimpArgs false

/-! ### manteletlaw05_FoldTells: function 3 -/
def manteletlaw05_FoldTells.f (k : Nat) (a0 : Int) (a1 : ByteArray) : Option (Bool) := (manteletlaw05_shown.f k).bind fun t101 => (if (a1.size : Int) > 20000 then (some t101) else (if t101 = true then ((fold_Letter.f a0).bind fun t102 => ((manteletref05_Letter.f a0).bind fun t103 => (if (t102 == t103) = true then ((fold_Mark.f a0).bind fun t104 => ((manteletref05_Mark.f a0).bind fun t105 => (if (t104 == t105) = true then ((fold_Fold.f k a0).bind fun t106 => ((manteletref05_Fold.f k a0).bind fun t107 => (if t106 = t107 then ((fold_Text.f a1).bind fun t108 => ((manteletref05_Text.f k a1).bind fun t109 => (some (t108.toList == t109.toList)))) else (some false)))) else (some false)))) else (some false)))) else (some false)))
theorem manteletlaw05_FoldTells.mono : ∀ a0 a1 k, LeO (manteletlaw05_FoldTells.f k a0 a1) (manteletlaw05_FoldTells.f (k + 1) a0 a1) := by
  intro a0 a1 k
  unfold manteletlaw05_FoldTells.f
  repeat' first
      | (with_reducible exact fold_Fold.mono _ _)
      | (with_reducible exact manteletlaw05_shown.mono _)
      | (with_reducible exact manteletref05_Fold.mono _ _)
      | (with_reducible exact manteletref05_Text.mono _ _)
      | (with_reducible exact LeO.refl _)
      | (with_reducible exact LeO.none _)
      | (with_reducible refine LeO.ite ?_ ?_)
      | (with_reducible refine LeO.bind ?_ (fun _ => ?_))
      | exact fold_Fold.mono _ _
      | exact manteletlaw05_shown.mono _
      | exact manteletref05_Fold.mono _ _
      | exact manteletref05_Text.mono _ _
      | exact LeO.none _
      | refine LeO.ite ?_ ?_
      | refine LeO.bind ?_ (fun _ => ?_)
set_option maxHeartbeats 8000000 in
set_option maxRecDepth 100000 in
theorem manteletlaw05_FoldTells.calls (k : Nat) (a0 : Int) (a1 : ByteArray) (r : Bool) (w : World) (h : manteletlaw05_FoldTells.f k a0 a1 = some r) :
    Calls Try.prog 3 #[.int .i32 a0, .string a1] w fun e w' => e = .returned (.bool r) ∧ Below w.heap.size w w' := by
  have HB := Aside0.mk (Below.refl w.heap.size w)
  have H : ((manteletlaw05_shown.f k).bind fun t101 => (if (a1.size : Int) > 20000 then (some t101) else (if t101 = true then ((fold_Letter.f a0).bind fun t102 => ((manteletref05_Letter.f a0).bind fun t103 => (if (t102 == t103) = true then ((fold_Mark.f a0).bind fun t104 => ((manteletref05_Mark.f a0).bind fun t105 => (if (t104 == t105) = true then ((fold_Fold.f k a0).bind fun t106 => ((manteletref05_Fold.f k a0).bind fun t107 => (if t106 = t107 then ((fold_Text.f a1).bind fun t108 => ((manteletref05_Text.f k a1).bind fun t109 => (some (t108.toList == t109.toList)))) else (some false)))) else (some false)))) else (some false)))) else (some false)))) = some r := h
  clear h
  replace H := Option.bind_eq_some_iff.mp H
  obtain ⟨t101, A30, H⟩ := H
  replace H : (if (a1.size : Int) > 20000 then (some t101) else (if t101 = true then ((fold_Letter.f a0).bind fun t102 => ((manteletref05_Letter.f a0).bind fun t103 => (if (t102 == t103) = true then ((fold_Mark.f a0).bind fun t104 => ((manteletref05_Mark.f a0).bind fun t105 => (if (t104 == t105) = true then ((fold_Fold.f k a0).bind fun t106 => ((manteletref05_Fold.f k a0).bind fun t107 => (if t106 = t107 then ((fold_Text.f a1).bind fun t108 => ((manteletref05_Text.f k a1).bind fun t109 => (some (t108.toList == t109.toList)))) else (some false)))) else (some false)))) else (some false)))) else (some false))) = some r := H
  have A3 := Aside0.mk A30
  clear A30
  by_cases c4 : (a1.size : Int) > 20000
  · rw [if_pos c4] at H
    have c4b0 : decide (20000 < (a1.size : Int)) = true := decide_eq_true c4
    have c4b1 : decide (20000 < a1.size) = true := decide_eq_true (by omega)
    clear c4
    obtain rfl := Option.some.inj H
    go_enter Try.func3, Try.ntmps3
    go_wp2_with (first | ((with_reducible refine gate_callee (f := 11) rfl ?_); refine goesL_ (some 6) rfl rfl Try.func11 (by kernel_rfl) rfl #[] rfl (by (try simp only [List.map_toArray, List.map_cons, List.map_nil]); first | done | rfl | (simp only [List.length_drop, List.length_take]; rfl)) ?_; (with_reducible refine (manteletlaw05_shown.calls k  t101 _ A3.out).mono ?_); rintro e w5 ⟨rfl, hb⟩; refine ⟨_, rfl, ?_⟩; have n0_ := Aside0.mk (below_step (by repeat (first | (with_reducible first | exact HB.out | apply below_alloc | apply pw_below_drewN | apply below_drew1) | exact HB.out)) hb); clear HB; have HB := n0_; clear n0_; (try clear hb); (try clear hb2); (try clear hk); (try clear hi)))
    go_ret
    exact ⟨by first | rfl | (simp [errW_none, errW_some] <;> rfl) | (simp [*, errW_none, errW_some] <;> rfl), by repeat (first | (with_reducible first | exact HB.out | apply below_alloc | apply pw_below_drewN | apply below_drew1) | exact HB.out)⟩
  · rw [if_neg c4] at H
    have c4b0 : decide (20000 < (a1.size : Int)) = false := decide_eq_false c4
    have c4b1 : decide (20000 < a1.size) = false := decide_eq_false (by omega)
    clear c4
    by_cases c6 : t101 = true
    · subst c6
      have H1 : ((fold_Letter.f a0).bind fun t102 => ((manteletref05_Letter.f a0).bind fun t103 => (if (t102 == t103) = true then ((fold_Mark.f a0).bind fun t104 => ((manteletref05_Mark.f a0).bind fun t105 => (if (t104 == t105) = true then ((fold_Fold.f k a0).bind fun t106 => ((manteletref05_Fold.f k a0).bind fun t107 => (if t106 = t107 then ((fold_Text.f a1).bind fun t108 => ((manteletref05_Text.f k a1).bind fun t109 => (some (t108.toList == t109.toList)))) else (some false)))) else (some false)))) else (some false)))) = some r := by rw [if_pos rfl] at H; exact H
      clear H
      have H := H1
      clear H1
      replace H := Option.bind_eq_some_iff.mp H
      obtain ⟨t102, A70, H⟩ := H
      replace H : ((manteletref05_Letter.f a0).bind fun t103 => (if (t102 == t103) = true then ((fold_Mark.f a0).bind fun t104 => ((manteletref05_Mark.f a0).bind fun t105 => (if (t104 == t105) = true then ((fold_Fold.f k a0).bind fun t106 => ((manteletref05_Fold.f k a0).bind fun t107 => (if t106 = t107 then ((fold_Text.f a1).bind fun t108 => ((manteletref05_Text.f k a1).bind fun t109 => (some (t108.toList == t109.toList)))) else (some false)))) else (some false)))) else (some false))) = some r := H
      have A7 := Aside0.mk A70
      clear A70
      replace H := Option.bind_eq_some_iff.mp H
      obtain ⟨t103, A80, H⟩ := H
      replace H : (if (t102 == t103) = true then ((fold_Mark.f a0).bind fun t104 => ((manteletref05_Mark.f a0).bind fun t105 => (if (t104 == t105) = true then ((fold_Fold.f k a0).bind fun t106 => ((manteletref05_Fold.f k a0).bind fun t107 => (if t106 = t107 then ((fold_Text.f a1).bind fun t108 => ((manteletref05_Text.f k a1).bind fun t109 => (some (t108.toList == t109.toList)))) else (some false)))) else (some false)))) else (some false)) = some r := H
      have A8 := Aside0.mk A80
      clear A80
      by_cases c9 : (t102 == t103) = true
      · rw [if_pos c9] at H
        have c9b0 : (t102 == t103) = true := c9
        (try (have c9b1 : decide (t102 = t103) = true := by simpa using c9))
        (try (have c9b2 : (t102 == t103) = true := by simpa using c9))
        clear c9
        replace H := Option.bind_eq_some_iff.mp H
        obtain ⟨t104, A100, H⟩ := H
        replace H : ((manteletref05_Mark.f a0).bind fun t105 => (if (t104 == t105) = true then ((fold_Fold.f k a0).bind fun t106 => ((manteletref05_Fold.f k a0).bind fun t107 => (if t106 = t107 then ((fold_Text.f a1).bind fun t108 => ((manteletref05_Text.f k a1).bind fun t109 => (some (t108.toList == t109.toList)))) else (some false)))) else (some false))) = some r := H
        have A10 := Aside0.mk A100
        clear A100
        replace H := Option.bind_eq_some_iff.mp H
        obtain ⟨t105, A110, H⟩ := H
        replace H : (if (t104 == t105) = true then ((fold_Fold.f k a0).bind fun t106 => ((manteletref05_Fold.f k a0).bind fun t107 => (if t106 = t107 then ((fold_Text.f a1).bind fun t108 => ((manteletref05_Text.f k a1).bind fun t109 => (some (t108.toList == t109.toList)))) else (some false)))) else (some false)) = some r := H
        have A11 := Aside0.mk A110
        clear A110
        by_cases c12 : (t104 == t105) = true
        · rw [if_pos c12] at H
          have c12b0 : (t104 == t105) = true := c12
          (try (have c12b1 : decide (t104 = t105) = true := by simpa using c12))
          (try (have c12b2 : (t104 == t105) = true := by simpa using c12))
          clear c12
          replace H := Option.bind_eq_some_iff.mp H
          obtain ⟨t106, A130, H⟩ := H
          replace H : ((manteletref05_Fold.f k a0).bind fun t107 => (if t106 = t107 then ((fold_Text.f a1).bind fun t108 => ((manteletref05_Text.f k a1).bind fun t109 => (some (t108.toList == t109.toList)))) else (some false))) = some r := H
          have A13 := Aside0.mk A130
          clear A130
          replace H := Option.bind_eq_some_iff.mp H
          obtain ⟨t107, A140, H⟩ := H
          replace H : (if t106 = t107 then ((fold_Text.f a1).bind fun t108 => ((manteletref05_Text.f k a1).bind fun t109 => (some (t108.toList == t109.toList)))) else (some false)) = some r := H
          have A14 := Aside0.mk A140
          clear A140
          by_cases c15 : t106 = t107
          · rw [if_pos c15] at H
            have c15b0 : (t106 == t107) = true := beq_iff_eq.mpr c15
            have c15b1 : (t106 != t107) = false := bne_eq_false_iff_eq.mpr c15
            clear c15
            replace H := Option.bind_eq_some_iff.mp H
            obtain ⟨t108, A160, H⟩ := H
            replace H : ((manteletref05_Text.f k a1).bind fun t109 => (some (t108.toList == t109.toList))) = some r := H
            have A16 := Aside0.mk A160
            clear A160
            replace H := Option.bind_eq_some_iff.mp H
            obtain ⟨t109, A170, H⟩ := H
            replace H : (some (t108.toList == t109.toList)) = some r := H
            have A17 := Aside0.mk A170
            clear A170
            obtain rfl := Option.some.inj H
            go_enter Try.func3, Try.ntmps3
            go_wp2_with (first | ((with_reducible refine gate_callee (f := 11) rfl ?_); refine goesL_ (some 6) rfl rfl Try.func11 (by kernel_rfl) rfl #[] rfl (by (try simp only [List.map_toArray, List.map_cons, List.map_nil]); first | done | rfl | (simp only [List.length_drop, List.length_take]; rfl)) ?_; (with_reducible refine (manteletlaw05_shown.calls k  true _ A3.out).mono ?_); rintro e w18 ⟨rfl, hb⟩; refine ⟨_, rfl, ?_⟩; have n0_ := Aside0.mk (below_step (by repeat (first | (with_reducible first | exact HB.out | apply below_alloc | apply pw_below_drewN | apply below_drew1) | exact HB.out)) hb); clear HB; have HB := n0_; clear n0_; (try clear hb); (try clear hb2); (try clear hk); (try clear hi)) | (go_at_call 12; (with_reducible refine (fold_Letter.calls a0 t102 _ A7.out).mono ?_); rintro e w19 ⟨rfl, hb⟩; have n0_ := Aside0.mk (below_step (by repeat (first | (with_reducible first | exact HB.out | apply below_alloc | apply pw_below_drewN | apply below_drew1) | exact HB.out)) hb); clear HB; have HB := n0_; clear n0_; (try clear hb); (try clear hb2); (try clear hk); (try clear hi)) | (go_at_call 13; (with_reducible refine (manteletref05_Letter.calls a0 t103 _ A8.out).mono ?_); rintro e w' ⟨rfl, ⟨nd, rfl⟩⟩) | (go_at_call 14; (with_reducible refine (fold_Mark.calls a0 t104 _ A10.out).mono ?_); rintro e w' ⟨rfl, ⟨nd, rfl⟩⟩) | (go_at_call 15; (with_reducible refine (manteletref05_Mark.calls a0 t105 _ A11.out).mono ?_); rintro e w' ⟨rfl, ⟨nd, rfl⟩⟩) | (go_at_call 16; (with_reducible refine (fold_Fold.calls k a0 t106 _ A13.out).mono ?_); rintro e w20 ⟨rfl, hb⟩; have n0_ := Aside0.mk (below_step (by repeat (first | (with_reducible first | exact HB.out | apply below_alloc | apply pw_below_drewN | apply below_drew1) | exact HB.out)) hb); clear HB; have HB := n0_; clear n0_; (try clear hb); (try clear hb2); (try clear hk); (try clear hi)) | (go_at_call 17; (with_reducible refine (manteletref05_Fold.calls k a0 t107 _ A14.out).mono ?_); rintro e w' ⟨rfl, ⟨nd, rfl⟩⟩) | (go_at_call 18; (with_reducible refine (fold_Text.calls a1 t108 _ A16.out).mono ?_); rintro e w21 ⟨rfl, hb⟩; have n0_ := Aside0.mk (below_step (by repeat (first | (with_reducible first | exact HB.out | apply below_alloc | apply pw_below_drewN | apply below_drew1) | exact HB.out)) hb); clear HB; have HB := n0_; clear n0_; (try clear hb); (try clear hb2); (try clear hk); (try clear hi)) | (go_at_call 19; (with_reducible refine (manteletref05_Text.calls k a1 t109 _ A17.out).mono ?_); rintro e w22 ⟨rfl, hb⟩; have n0_ := Aside0.mk (below_step (by repeat (first | (with_reducible first | exact HB.out | apply below_alloc | apply pw_below_drewN | apply below_drew1) | exact HB.out)) hb); clear HB; have HB := n0_; clear n0_; (try clear hb); (try clear hb2); (try clear hk); (try clear hi)))
            go_ret
            exact ⟨by first | rfl | (simp [errW_none, errW_some] <;> rfl) | (simp [*, errW_none, errW_some] <;> rfl), by repeat (first | (with_reducible first | exact HB.out | apply below_alloc | apply pw_below_drewN | apply below_drew1) | exact HB.out)⟩
          · rw [if_neg c15] at H
            have c15b0 : (t106 == t107) = false := beq_eq_false_iff_ne.mpr c15
            have c15b1 : (t106 != t107) = true := bne_iff_ne.mpr c15
            obtain rfl := Option.some.inj H
            go_enter Try.func3, Try.ntmps3
            go_wp2_with (first | ((with_reducible refine gate_callee (f := 11) rfl ?_); refine goesL_ (some 6) rfl rfl Try.func11 (by kernel_rfl) rfl #[] rfl (by (try simp only [List.map_toArray, List.map_cons, List.map_nil]); first | done | rfl | (simp only [List.length_drop, List.length_take]; rfl)) ?_; (with_reducible refine (manteletlaw05_shown.calls k  true _ A3.out).mono ?_); rintro e w23 ⟨rfl, hb⟩; refine ⟨_, rfl, ?_⟩; have n0_ := Aside0.mk (below_step (by repeat (first | (with_reducible first | exact HB.out | apply below_alloc | apply pw_below_drewN | apply below_drew1) | exact HB.out)) hb); clear HB; have HB := n0_; clear n0_; (try clear hb); (try clear hb2); (try clear hk); (try clear hi)) | (go_at_call 12; (with_reducible refine (fold_Letter.calls a0 t102 _ A7.out).mono ?_); rintro e w24 ⟨rfl, hb⟩; have n0_ := Aside0.mk (below_step (by repeat (first | (with_reducible first | exact HB.out | apply below_alloc | apply pw_below_drewN | apply below_drew1) | exact HB.out)) hb); clear HB; have HB := n0_; clear n0_; (try clear hb); (try clear hb2); (try clear hk); (try clear hi)) | (go_at_call 13; (with_reducible refine (manteletref05_Letter.calls a0 t103 _ A8.out).mono ?_); rintro e w' ⟨rfl, ⟨nd, rfl⟩⟩) | (go_at_call 14; (with_reducible refine (fold_Mark.calls a0 t104 _ A10.out).mono ?_); rintro e w' ⟨rfl, ⟨nd, rfl⟩⟩) | (go_at_call 15; (with_reducible refine (manteletref05_Mark.calls a0 t105 _ A11.out).mono ?_); rintro e w' ⟨rfl, ⟨nd, rfl⟩⟩) | (go_at_call 16; (with_reducible refine (fold_Fold.calls k a0 t106 _ A13.out).mono ?_); rintro e w25 ⟨rfl, hb⟩; have n0_ := Aside0.mk (below_step (by repeat (first | (with_reducible first | exact HB.out | apply below_alloc | apply pw_below_drewN | apply below_drew1) | exact HB.out)) hb); clear HB; have HB := n0_; clear n0_; (try clear hb); (try clear hb2); (try clear hk); (try clear hi)) | (go_at_call 17; (with_reducible refine (manteletref05_Fold.calls k a0 t107 _ A14.out).mono ?_); rintro e w' ⟨rfl, ⟨nd, rfl⟩⟩))
            go_ret
            exact ⟨by first | rfl | (simp [errW_none, errW_some] <;> rfl) | (simp [*, errW_none, errW_some] <;> rfl), by repeat (first | (with_reducible first | exact HB.out | apply below_alloc | apply pw_below_drewN | apply below_drew1) | exact HB.out)⟩
        · rw [if_neg c12] at H
          have c12b0 : (t104 == t105) = false := by simpa using c12
          (try (have c12b1 : decide (t104 = t105) = false := by simpa using c12))
          (try (have c12b2 : (t104 == t105) = false := by simpa using c12))
          (try (have c12b3 : ¬ (t104 = t105) := by simpa using c12))
          clear c12
          obtain rfl := Option.some.inj H
          go_enter Try.func3, Try.ntmps3
          go_wp2_with (first | ((with_reducible refine gate_callee (f := 11) rfl ?_); refine goesL_ (some 6) rfl rfl Try.func11 (by kernel_rfl) rfl #[] rfl (by (try simp only [List.map_toArray, List.map_cons, List.map_nil]); first | done | rfl | (simp only [List.length_drop, List.length_take]; rfl)) ?_; (with_reducible refine (manteletlaw05_shown.calls k  true _ A3.out).mono ?_); rintro e w26 ⟨rfl, hb⟩; refine ⟨_, rfl, ?_⟩; have n0_ := Aside0.mk (below_step (by repeat (first | (with_reducible first | exact HB.out | apply below_alloc | apply pw_below_drewN | apply below_drew1) | exact HB.out)) hb); clear HB; have HB := n0_; clear n0_; (try clear hb); (try clear hb2); (try clear hk); (try clear hi)) | (go_at_call 12; (with_reducible refine (fold_Letter.calls a0 t102 _ A7.out).mono ?_); rintro e w27 ⟨rfl, hb⟩; have n0_ := Aside0.mk (below_step (by repeat (first | (with_reducible first | exact HB.out | apply below_alloc | apply pw_below_drewN | apply below_drew1) | exact HB.out)) hb); clear HB; have HB := n0_; clear n0_; (try clear hb); (try clear hb2); (try clear hk); (try clear hi)) | (go_at_call 13; (with_reducible refine (manteletref05_Letter.calls a0 t103 _ A8.out).mono ?_); rintro e w' ⟨rfl, ⟨nd, rfl⟩⟩) | (go_at_call 14; (with_reducible refine (fold_Mark.calls a0 t104 _ A10.out).mono ?_); rintro e w' ⟨rfl, ⟨nd, rfl⟩⟩) | (go_at_call 15; (with_reducible refine (manteletref05_Mark.calls a0 t105 _ A11.out).mono ?_); rintro e w' ⟨rfl, ⟨nd, rfl⟩⟩))
          go_ret
          exact ⟨by first | rfl | (simp [errW_none, errW_some] <;> rfl) | (simp [*, errW_none, errW_some] <;> rfl), by repeat (first | (with_reducible first | exact HB.out | apply below_alloc | apply pw_below_drewN | apply below_drew1) | exact HB.out)⟩
      · rw [if_neg c9] at H
        have c9b0 : (t102 == t103) = false := by simpa using c9
        (try (have c9b1 : decide (t102 = t103) = false := by simpa using c9))
        (try (have c9b2 : (t102 == t103) = false := by simpa using c9))
        (try (have c9b3 : ¬ (t102 = t103) := by simpa using c9))
        clear c9
        obtain rfl := Option.some.inj H
        go_enter Try.func3, Try.ntmps3
        go_wp2_with (first | ((with_reducible refine gate_callee (f := 11) rfl ?_); refine goesL_ (some 6) rfl rfl Try.func11 (by kernel_rfl) rfl #[] rfl (by (try simp only [List.map_toArray, List.map_cons, List.map_nil]); first | done | rfl | (simp only [List.length_drop, List.length_take]; rfl)) ?_; (with_reducible refine (manteletlaw05_shown.calls k  true _ A3.out).mono ?_); rintro e w28 ⟨rfl, hb⟩; refine ⟨_, rfl, ?_⟩; have n0_ := Aside0.mk (below_step (by repeat (first | (with_reducible first | exact HB.out | apply below_alloc | apply pw_below_drewN | apply below_drew1) | exact HB.out)) hb); clear HB; have HB := n0_; clear n0_; (try clear hb); (try clear hb2); (try clear hk); (try clear hi)) | (go_at_call 12; (with_reducible refine (fold_Letter.calls a0 t102 _ A7.out).mono ?_); rintro e w29 ⟨rfl, hb⟩; have n0_ := Aside0.mk (below_step (by repeat (first | (with_reducible first | exact HB.out | apply below_alloc | apply pw_below_drewN | apply below_drew1) | exact HB.out)) hb); clear HB; have HB := n0_; clear n0_; (try clear hb); (try clear hb2); (try clear hk); (try clear hi)) | (go_at_call 13; (with_reducible refine (manteletref05_Letter.calls a0 t103 _ A8.out).mono ?_); rintro e w' ⟨rfl, ⟨nd, rfl⟩⟩))
        go_ret
        exact ⟨by first | rfl | (simp [errW_none, errW_some] <;> rfl) | (simp [*, errW_none, errW_some] <;> rfl), by repeat (first | (with_reducible first | exact HB.out | apply below_alloc | apply pw_below_drewN | apply below_drew1) | exact HB.out)⟩
    · replace c6 := Bool.eq_false_iff.mpr c6
      subst c6
      have H1 : (some false) = some r := by rw [if_neg (show ¬ (false = true) by decide)] at H; exact H
      clear H
      have H := H1
      clear H1
      obtain rfl := Option.some.inj H
      go_enter Try.func3, Try.ntmps3
      go_wp2_with (first | ((with_reducible refine gate_callee (f := 11) rfl ?_); refine goesL_ (some 6) rfl rfl Try.func11 (by kernel_rfl) rfl #[] rfl (by (try simp only [List.map_toArray, List.map_cons, List.map_nil]); first | done | rfl | (simp only [List.length_drop, List.length_take]; rfl)) ?_; (with_reducible refine (manteletlaw05_shown.calls k  false _ A3.out).mono ?_); rintro e w30 ⟨rfl, hb⟩; refine ⟨_, rfl, ?_⟩; have n0_ := Aside0.mk (below_step (by repeat (first | (with_reducible first | exact HB.out | apply below_alloc | apply pw_below_drewN | apply below_drew1) | exact HB.out)) hb); clear HB; have HB := n0_; clear n0_; (try clear hb); (try clear hb2); (try clear hk); (try clear hi)))
      go_ret
      exact ⟨by first | rfl | (simp [errW_none, errW_some] <;> rfl) | (simp [*, errW_none, errW_some] <;> rfl), by repeat (first | (with_reducible first | exact HB.out | apply below_alloc | apply pw_below_drewN | apply below_drew1) | exact HB.out)⟩

/-- THE ONE PURE STATEMENT of manteletlaw05_FoldTells: yours. -/
def manteletlaw05_FoldTells.Pure : Prop := ∀ (a0 : Int) (a1 : ByteArray), (Lit.int .i32 a0).wf = true → a1.size ≤ 140737488351232 → ∃ k, manteletlaw05_FoldTells.f k a0 a1 = some true
theorem manteletlaw05_FoldTells.walk (P : manteletlaw05_FoldTells.Pure) (a0 : Int) (a1 : ByteArray) (w : World) (w0 : (Lit.int .i32 a0).wf = true) (w1 : a1.size ≤ 140737488351232) :
    Calls Try.prog 3 #[.int .i32 a0, .string a1] w fun e w' => e = .returned (.bool true) ∧ Below w.heap.size w w' := by
  obtain ⟨k, h⟩ := P a0 a1 w0 w1
  refine (manteletlaw05_FoldTells.calls k a0 a1 true w h).mono ?_
  rintro e w' ⟨rfl, hd⟩
  exact ⟨rfl, hd⟩

end Go.Proofs.Ythpemcchgebecaa.PFoldTells
