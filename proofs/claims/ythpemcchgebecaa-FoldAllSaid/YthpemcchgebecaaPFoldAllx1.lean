-- Written by xprint.py of this repo, over the kit's printer and contracts proved by hand.
import Derived.Test.YthpemcchgebecaaPFoldAllx0
namespace Go.Proofs.Ythpemcchgebecaa.PFoldAll
open Go.RowKit Go.Proofs.YthpemcchgebecaaW.PrintWords Go.Proofs.YthpemcchgebecaaW.PrintLast Go.Proofs.YthpemcchgebecaaW.PrintMore Go.Proofs.Ythpemcchgebecaa.K Go.Proofs.Ythpemcchgebecaa.PFold Go.Proofs.Ythpemcchgebecaa.PSh05
attribute [local go_sem] max2_int min2_int max_two min_two max_three min_three max_four min_four   -- for this text's walks alone
set_option linter.unusedVariables false
set_option linter.unusedSimpArgs false

/-! ### manteletlaw05_FoldAll: function 4 -/
def manteletlaw05_FoldAll.l0 : Nat → Int → Bool → Int → Option (Bool)
  | 0, _, _, _ => none
  | k + 1, x0, x3, x4 => if x4 < 700 then ((fold_Letter.f (wrap32 ((wrap32 (x0)) + (wrap32 (x4))))).bind fun t102 => ((manteletref05_Letter.f (wrap32 ((wrap32 (x0)) + (wrap32 (x4))))).bind fun t103 => (if (t102 != t103) = true then (some false) else ((fold_Fold.f k (wrap32 ((wrap32 (x0)) + (wrap32 (x4))))).bind fun t104 => ((manteletref05_Fold.f k (wrap32 ((wrap32 (x0)) + (wrap32 (x4))))).bind fun t105 => (if t104 = t105 then ((fold_Mark.f (wrap32 ((wrap32 (x0)) + (wrap32 (x4))))).bind fun t106 => ((manteletref05_Mark.f (wrap32 ((wrap32 (x0)) + (wrap32 (x4))))).bind fun t107 => (if (t106 != t107) = true then (some false) else (manteletlaw05_FoldAll.l0 k x0 x3 (wrap64 (x4 + 1)))))) else (some false))))))) else (some x3)
def manteletlaw05_FoldAll.f (k : Nat) (a0 : Int) : Option (Bool) := (manteletlaw05_shown.f k).bind fun t101 => (manteletlaw05_FoldAll.l0 k a0 t101 0)
theorem manteletlaw05_FoldAll.mono_l : ∀ k, (∀ y0 y1 y2, LeO (manteletlaw05_FoldAll.l0 k y0 y1 y2) (manteletlaw05_FoldAll.l0 (k + 1) y0 y1 y2))
  | 0 => fun _ _ _ r h => by simp [manteletlaw05_FoldAll.l0] at h
  | k + 1 => by
    have ih0 := manteletlaw05_FoldAll.mono_l k
    · intro y0 y1 y2
      unfold manteletlaw05_FoldAll.l0
      repeat' first
      | (with_reducible exact ih0 _ _ _)
      | (with_reducible exact fold_Fold.mono _ _)
      | (with_reducible exact manteletlaw05_shown.mono _)
      | (with_reducible exact manteletref05_Fold.mono _ _)
      | (with_reducible exact LeO.refl _)
      | (with_reducible exact LeO.none _)
      | (with_reducible refine LeO.ite ?_ ?_)
      | (with_reducible refine LeO.bind ?_ (fun _ => ?_))
      | exact ih0 _ _ _
      | exact fold_Fold.mono _ _
      | exact manteletlaw05_shown.mono _
      | exact manteletref05_Fold.mono _ _
      | exact LeO.none _
      | refine LeO.ite ?_ ?_
      | refine LeO.bind ?_ (fun _ => ?_)
theorem manteletlaw05_FoldAll.mono : ∀ a0 k, LeO (manteletlaw05_FoldAll.f k a0) (manteletlaw05_FoldAll.f (k + 1) a0) := by
  intro a0 k
  have ih0 := manteletlaw05_FoldAll.mono_l k
  unfold manteletlaw05_FoldAll.f
  repeat' first
      | (with_reducible exact ih0 _ _ _)
      | (with_reducible exact fold_Fold.mono _ _)
      | (with_reducible exact manteletlaw05_shown.mono _)
      | (with_reducible exact manteletref05_Fold.mono _ _)
      | (with_reducible exact LeO.refl _)
      | (with_reducible exact LeO.none _)
      | (with_reducible refine LeO.ite ?_ ?_)
      | (with_reducible refine LeO.bind ?_ (fun _ => ?_))
      | exact ih0 _ _ _
      | exact fold_Fold.mono _ _
      | exact manteletlaw05_shown.mono _
      | exact manteletref05_Fold.mono _ _
      | exact LeO.none _
      | refine LeO.ite ?_ ?_
      | refine LeO.bind ?_ (fun _ => ?_)
set_option maxHeartbeats 8000000 in
set_option maxRecDepth 100000 in
theorem manteletlaw05_FoldAll.calls (k : Nat) (a0 : Int) (r : Bool) (w : World) (h : manteletlaw05_FoldAll.f k a0 = some r) :
    Calls Try.prog 4 #[.int .u16 a0] w fun e w' => e = .returned (.bool r) ∧ Below w.heap.size w w' := by
  have HB := Aside0.mk (Below.refl w.heap.size w)
  have H : ((manteletlaw05_shown.f k).bind fun t101 => (manteletlaw05_FoldAll.l0 k a0 t101 0)) = some r := h
  clear h
  replace H := Option.bind_eq_some_iff.mp H
  obtain ⟨t101, A20, H⟩ := H
  replace H : (manteletlaw05_FoldAll.l0 k a0 t101 0) = some r := H
  have A2 := Aside0.mk A20
  clear A20
  have H' := Aside0.mk H
  clear H
  go_enter Try.func4, Try.ntmps4
  go_wp2_with (first | ((with_reducible refine gate_callee (f := 11) rfl ?_); refine goesL_ (some 6) rfl rfl Try.func11 (by kernel_rfl) rfl #[] rfl (by (try simp only [List.map_toArray, List.map_cons, List.map_nil]); first | done | rfl | (simp only [List.length_drop, List.length_take]; rfl)) ?_; (with_reducible refine (manteletlaw05_shown.calls k  t101 _ A2.out).mono ?_); rintro e w3 ⟨rfl, hb⟩; refine ⟨_, rfl, ?_⟩; have n0_ := Aside0.mk (below_step (by repeat (first | (with_reducible first | exact HB.out | apply below_alloc | apply pw_below_drewN | apply below_drew1) | exact HB.out)) hb); clear HB; have HB := n0_; clear n0_; (try clear hb); (try clear hb2); (try clear hk); (try clear hi)))
  go_loopg [4] k (fun kq v4 w' => ∃ (x4_1 : Int), v4 = .int .i64 x4_1 ∧ Aside0 (manteletlaw05_FoldAll.l0 kq a0 t101 x4_1 = some r) ∧ Aside0 (kq ≤ k) ∧ Aside0 (Below w.heap.size w w'))
  case atStart => exact ⟨(0), (by first | rfl | (simp; done) | (simp [*]; done)), H', ⟨Nat.le_refl _⟩, ⟨by repeat (first | (with_reducible first | exact HB.out | apply below_alloc | apply pw_below_drewN | apply below_drew1) | exact HB.out)⟩⟩
  case round =>
    clear H'
    try clear c1
    try clear p2
    obtain ⟨x4_1, rfl, HA, HK1, HB⟩ := hrel
    cases gk with
    | zero => exact absurd HA.out (by simp [manteletlaw05_FoldAll.l0])
    | succ k1 =>
      have H := HA.out
      clear HA
      simp only [manteletlaw05_FoldAll.l0] at H
      by_cases c4 : x4_1 < 700
      · rw [if_pos c4] at H
        have c4b0 : decide (x4_1 < 700) = true := decide_eq_true c4
        clear c4
        replace H := Option.bind_eq_some_iff.mp H
        obtain ⟨t102, A50, H⟩ := H
        replace H : ((manteletref05_Letter.f (wrap32 ((wrap32 (a0)) + (wrap32 (x4_1))))).bind fun t103 => (if (t102 != t103) = true then (some false) else ((fold_Fold.f k1 (wrap32 ((wrap32 (a0)) + (wrap32 (x4_1))))).bind fun t104 => ((manteletref05_Fold.f k1 (wrap32 ((wrap32 (a0)) + (wrap32 (x4_1))))).bind fun t105 => (if t104 = t105 then ((fold_Mark.f (wrap32 ((wrap32 (a0)) + (wrap32 (x4_1))))).bind fun t106 => ((manteletref05_Mark.f (wrap32 ((wrap32 (a0)) + (wrap32 (x4_1))))).bind fun t107 => (if (t106 != t107) = true then (some false) else (manteletlaw05_FoldAll.l0 k1 a0 t101 (wrap64 (x4_1 + 1)))))) else (some false)))))) = some r := H
        have A5 := Aside0.mk A50
        clear A50
        replace H := Option.bind_eq_some_iff.mp H
        obtain ⟨t103, A60, H⟩ := H
        replace H : (if (t102 != t103) = true then (some false) else ((fold_Fold.f k1 (wrap32 ((wrap32 (a0)) + (wrap32 (x4_1))))).bind fun t104 => ((manteletref05_Fold.f k1 (wrap32 ((wrap32 (a0)) + (wrap32 (x4_1))))).bind fun t105 => (if t104 = t105 then ((fold_Mark.f (wrap32 ((wrap32 (a0)) + (wrap32 (x4_1))))).bind fun t106 => ((manteletref05_Mark.f (wrap32 ((wrap32 (a0)) + (wrap32 (x4_1))))).bind fun t107 => (if (t106 != t107) = true then (some false) else (manteletlaw05_FoldAll.l0 k1 a0 t101 (wrap64 (x4_1 + 1)))))) else (some false))))) = some r := H
        have A6 := Aside0.mk A60
        clear A60
        by_cases c7 : (t102 != t103) = true
        · rw [if_pos c7] at H
          have c7b0 : (t102 != t103) = true := c7
          (try (have c7b1 : decide (t102 = t103) = false := by simpa using c7))
          (try (have c7b2 : (t102 == t103) = false := by simpa using c7))
          (try (have c7b3 : ¬ (t102 = t103) := by simpa using c7))
          clear c7
          obtain rfl := Option.some.inj H
          go_wp2_with (first | ((with_reducible refine gate_callee (f := 12) rfl ?_); refine goesL_ (some 17) rfl rfl Try.func12 (by kernel_rfl) rfl #[.int .i32 (wrap32 ((wrap32 (a0)) + (wrap32 (x4_1))))] rfl (by (try simp only [List.map_toArray, List.map_cons, List.map_nil]); first | done | rfl | (simp only [List.length_drop, List.length_take]; rfl)) ?_; (with_reducible refine (fold_Letter.calls (wrap32 ((wrap32 (a0)) + (wrap32 (x4_1)))) t102 _ A5.out).mono ?_); rintro e w8 ⟨rfl, hb⟩; refine ⟨_, rfl, ?_⟩; have n0_ := Aside0.mk (below_step (by repeat (first | (with_reducible first | exact HB.out | apply below_alloc | apply pw_below_drewN | apply below_drew1) | exact HB.out)) hb); clear HB; have HB := n0_; clear n0_; (try clear hb); (try clear hb2); (try clear hk); (try clear hi)) | ((with_reducible refine gate_callee (f := 13) rfl ?_); refine goesL_ (some 19) rfl rfl Try.func13 (by kernel_rfl) rfl #[.int .i32 (wrap32 ((wrap32 (a0)) + (wrap32 (x4_1))))] rfl (by (try simp only [List.map_toArray, List.map_cons, List.map_nil]); first | done | rfl | (simp only [List.length_drop, List.length_take]; rfl)) ?_; (with_reducible refine (manteletref05_Letter.calls (wrap32 ((wrap32 (a0)) + (wrap32 (x4_1)))) t103 _ A6.out).mono ?_); rintro e w' ⟨rfl, ⟨nd, rfl⟩⟩; refine ⟨_, rfl, ?_⟩))
          go_ret
          exact ⟨by first | rfl | (simp [errW_none, errW_some] <;> rfl) | (simp [*, errW_none, errW_some] <;> rfl), by repeat (first | (with_reducible first | exact HB.out | apply below_alloc | apply pw_below_drewN | apply below_drew1) | exact HB.out)⟩
        · rw [if_neg c7] at H
          have c7b0 : (t102 != t103) = false := by simpa using c7
          (try (have c7b1 : decide (t102 = t103) = true := by simpa using c7))
          (try (have c7b2 : (t102 == t103) = true := by simpa using c7))
          clear c7
          replace H := Option.bind_eq_some_iff.mp H
          obtain ⟨t104, A90, H⟩ := H
          replace H : ((manteletref05_Fold.f k1 (wrap32 ((wrap32 (a0)) + (wrap32 (x4_1))))).bind fun t105 => (if t104 = t105 then ((fold_Mark.f (wrap32 ((wrap32 (a0)) + (wrap32 (x4_1))))).bind fun t106 => ((manteletref05_Mark.f (wrap32 ((wrap32 (a0)) + (wrap32 (x4_1))))).bind fun t107 => (if (t106 != t107) = true then (some false) else (manteletlaw05_FoldAll.l0 k1 a0 t101 (wrap64 (x4_1 + 1)))))) else (some false))) = some r := H
          have A9 := Aside0.mk A90
          clear A90
          replace H := Option.bind_eq_some_iff.mp H
          obtain ⟨t105, A100, H⟩ := H
          replace H : (if t104 = t105 then ((fold_Mark.f (wrap32 ((wrap32 (a0)) + (wrap32 (x4_1))))).bind fun t106 => ((manteletref05_Mark.f (wrap32 ((wrap32 (a0)) + (wrap32 (x4_1))))).bind fun t107 => (if (t106 != t107) = true then (some false) else (manteletlaw05_FoldAll.l0 k1 a0 t101 (wrap64 (x4_1 + 1)))))) else (some false)) = some r := H
          have A10 := Aside0.mk A100
          clear A100
          by_cases c11 : t104 = t105
          · rw [if_pos c11] at H
            have c11b0 : (t104 == t105) = true := beq_iff_eq.mpr c11
            have c11b1 : (t104 != t105) = false := bne_eq_false_iff_eq.mpr c11
            clear c11
            replace H := Option.bind_eq_some_iff.mp H
            obtain ⟨t106, A120, H⟩ := H
            replace H : ((manteletref05_Mark.f (wrap32 ((wrap32 (a0)) + (wrap32 (x4_1))))).bind fun t107 => (if (t106 != t107) = true then (some false) else (manteletlaw05_FoldAll.l0 k1 a0 t101 (wrap64 (x4_1 + 1))))) = some r := H
            have A12 := Aside0.mk A120
            clear A120
            replace H := Option.bind_eq_some_iff.mp H
            obtain ⟨t107, A130, H⟩ := H
            replace H : (if (t106 != t107) = true then (some false) else (manteletlaw05_FoldAll.l0 k1 a0 t101 (wrap64 (x4_1 + 1)))) = some r := H
            have A13 := Aside0.mk A130
            clear A130
            by_cases c14 : (t106 != t107) = true
            · rw [if_pos c14] at H
              have c14b0 : (t106 != t107) = true := c14
              (try (have c14b1 : decide (t106 = t107) = false := by simpa using c14))
              (try (have c14b2 : (t106 == t107) = false := by simpa using c14))
              (try (have c14b3 : ¬ (t106 = t107) := by simpa using c14))
              clear c14
              obtain rfl := Option.some.inj H
              go_wp2_with (first | ((with_reducible refine gate_callee (f := 12) rfl ?_); refine goesL_ (some 17) rfl rfl Try.func12 (by kernel_rfl) rfl #[.int .i32 (wrap32 ((wrap32 (a0)) + (wrap32 (x4_1))))] rfl (by (try simp only [List.map_toArray, List.map_cons, List.map_nil]); first | done | rfl | (simp only [List.length_drop, List.length_take]; rfl)) ?_; (with_reducible refine (fold_Letter.calls (wrap32 ((wrap32 (a0)) + (wrap32 (x4_1)))) t102 _ A5.out).mono ?_); rintro e w15 ⟨rfl, hb⟩; refine ⟨_, rfl, ?_⟩; have n0_ := Aside0.mk (below_step (by repeat (first | (with_reducible first | exact HB.out | apply below_alloc | apply pw_below_drewN | apply below_drew1) | exact HB.out)) hb); clear HB; have HB := n0_; clear n0_; (try clear hb); (try clear hb2); (try clear hk); (try clear hi)) | ((with_reducible refine gate_callee (f := 13) rfl ?_); refine goesL_ (some 19) rfl rfl Try.func13 (by kernel_rfl) rfl #[.int .i32 (wrap32 ((wrap32 (a0)) + (wrap32 (x4_1))))] rfl (by (try simp only [List.map_toArray, List.map_cons, List.map_nil]); first | done | rfl | (simp only [List.length_drop, List.length_take]; rfl)) ?_; (with_reducible refine (manteletref05_Letter.calls (wrap32 ((wrap32 (a0)) + (wrap32 (x4_1)))) t103 _ A6.out).mono ?_); rintro e w' ⟨rfl, ⟨nd, rfl⟩⟩; refine ⟨_, rfl, ?_⟩) | (go_at_call 16; (with_reducible refine (fold_Fold.calls k1 (wrap32 ((wrap32 (a0)) + (wrap32 (x4_1)))) t104 _ A9.out).mono ?_); rintro e w16 ⟨rfl, hb⟩; have n0_ := Aside0.mk (below_step (by repeat (first | (with_reducible first | exact HB.out | apply below_alloc | apply pw_below_drewN | apply below_drew1) | exact HB.out)) hb); clear HB; have HB := n0_; clear n0_; (try clear hb); (try clear hb2); (try clear hk); (try clear hi)) | (go_at_call 17; (with_reducible refine (manteletref05_Fold.calls k1 (wrap32 ((wrap32 (a0)) + (wrap32 (x4_1)))) t105 _ A10.out).mono ?_); rintro e w' ⟨rfl, ⟨nd, rfl⟩⟩) | (go_at_call 14; (with_reducible refine (fold_Mark.calls (wrap32 ((wrap32 (a0)) + (wrap32 (x4_1)))) t106 _ A12.out).mono ?_); rintro e w' ⟨rfl, ⟨nd, rfl⟩⟩) | (go_at_call 15; (with_reducible refine (manteletref05_Mark.calls (wrap32 ((wrap32 (a0)) + (wrap32 (x4_1)))) t107 _ A13.out).mono ?_); rintro e w' ⟨rfl, ⟨nd, rfl⟩⟩))
              go_ret
              exact ⟨by first | rfl | (simp [errW_none, errW_some] <;> rfl) | (simp [*, errW_none, errW_some] <;> rfl), by repeat (first | (with_reducible first | exact HB.out | apply below_alloc | apply pw_below_drewN | apply below_drew1) | exact HB.out)⟩
            · rw [if_neg c14] at H
              have c14b0 : (t106 != t107) = false := by simpa using c14
              (try (have c14b1 : decide (t106 = t107) = true := by simpa using c14))
              (try (have c14b2 : (t106 == t107) = true := by simpa using c14))
              clear c14
              have H' := Aside0.mk H
              clear H
              go_wp2_with (first | ((with_reducible refine gate_callee (f := 12) rfl ?_); refine goesL_ (some 17) rfl rfl Try.func12 (by kernel_rfl) rfl #[.int .i32 (wrap32 ((wrap32 (a0)) + (wrap32 (x4_1))))] rfl (by (try simp only [List.map_toArray, List.map_cons, List.map_nil]); first | done | rfl | (simp only [List.length_drop, List.length_take]; rfl)) ?_; (with_reducible refine (fold_Letter.calls (wrap32 ((wrap32 (a0)) + (wrap32 (x4_1)))) t102 _ A5.out).mono ?_); rintro e w17 ⟨rfl, hb⟩; refine ⟨_, rfl, ?_⟩; have n0_ := Aside0.mk (below_step (by repeat (first | (with_reducible first | exact HB.out | apply below_alloc | apply pw_below_drewN | apply below_drew1) | exact HB.out)) hb); clear HB; have HB := n0_; clear n0_; (try clear hb); (try clear hb2); (try clear hk); (try clear hi)) | ((with_reducible refine gate_callee (f := 13) rfl ?_); refine goesL_ (some 19) rfl rfl Try.func13 (by kernel_rfl) rfl #[.int .i32 (wrap32 ((wrap32 (a0)) + (wrap32 (x4_1))))] rfl (by (try simp only [List.map_toArray, List.map_cons, List.map_nil]); first | done | rfl | (simp only [List.length_drop, List.length_take]; rfl)) ?_; (with_reducible refine (manteletref05_Letter.calls (wrap32 ((wrap32 (a0)) + (wrap32 (x4_1)))) t103 _ A6.out).mono ?_); rintro e w' ⟨rfl, ⟨nd, rfl⟩⟩; refine ⟨_, rfl, ?_⟩) | (go_at_call 16; (with_reducible refine (fold_Fold.calls k1 (wrap32 ((wrap32 (a0)) + (wrap32 (x4_1)))) t104 _ A9.out).mono ?_); rintro e w18 ⟨rfl, hb⟩; have n0_ := Aside0.mk (below_step (by repeat (first | (with_reducible first | exact HB.out | apply below_alloc | apply pw_below_drewN | apply below_drew1) | exact HB.out)) hb); clear HB; have HB := n0_; clear n0_; (try clear hb); (try clear hb2); (try clear hk); (try clear hi)) | (go_at_call 17; (with_reducible refine (manteletref05_Fold.calls k1 (wrap32 ((wrap32 (a0)) + (wrap32 (x4_1)))) t105 _ A10.out).mono ?_); rintro e w' ⟨rfl, ⟨nd, rfl⟩⟩) | (go_at_call 14; (with_reducible refine (fold_Mark.calls (wrap32 ((wrap32 (a0)) + (wrap32 (x4_1)))) t106 _ A12.out).mono ?_); rintro e w' ⟨rfl, ⟨nd, rfl⟩⟩) | (go_at_call 15; (with_reducible refine (manteletref05_Mark.calls (wrap32 ((wrap32 (a0)) + (wrap32 (x4_1)))) t107 _ A13.out).mono ?_); rintro e w' ⟨rfl, ⟨nd, rfl⟩⟩))
              go_roundg k1
              case measure => have := HK1.out; omega
              case rel => exact ⟨(wrap64 (x4_1 + 1)), (by first | rfl | (simp; done) | (simp [*]; done)), H', ⟨by have := HK1.out; omega⟩, ⟨by repeat (first | (with_reducible first | exact HB.out | apply below_alloc | apply pw_below_drewN | apply below_drew1) | exact HB.out)⟩⟩
          · rw [if_neg c11] at H
            have c11b0 : (t104 == t105) = false := beq_eq_false_iff_ne.mpr c11
            have c11b1 : (t104 != t105) = true := bne_iff_ne.mpr c11
            obtain rfl := Option.some.inj H
            go_wp2_with (first | ((with_reducible refine gate_callee (f := 12) rfl ?_); refine goesL_ (some 17) rfl rfl Try.func12 (by kernel_rfl) rfl #[.int .i32 (wrap32 ((wrap32 (a0)) + (wrap32 (x4_1))))] rfl (by (try simp only [List.map_toArray, List.map_cons, List.map_nil]); first | done | rfl | (simp only [List.length_drop, List.length_take]; rfl)) ?_; (with_reducible refine (fold_Letter.calls (wrap32 ((wrap32 (a0)) + (wrap32 (x4_1)))) t102 _ A5.out).mono ?_); rintro e w19 ⟨rfl, hb⟩; refine ⟨_, rfl, ?_⟩; have n0_ := Aside0.mk (below_step (by repeat (first | (with_reducible first | exact HB.out | apply below_alloc | apply pw_below_drewN | apply below_drew1) | exact HB.out)) hb); clear HB; have HB := n0_; clear n0_; (try clear hb); (try clear hb2); (try clear hk); (try clear hi)) | ((with_reducible refine gate_callee (f := 13) rfl ?_); refine goesL_ (some 19) rfl rfl Try.func13 (by kernel_rfl) rfl #[.int .i32 (wrap32 ((wrap32 (a0)) + (wrap32 (x4_1))))] rfl (by (try simp only [List.map_toArray, List.map_cons, List.map_nil]); first | done | rfl | (simp only [List.length_drop, List.length_take]; rfl)) ?_; (with_reducible refine (manteletref05_Letter.calls (wrap32 ((wrap32 (a0)) + (wrap32 (x4_1)))) t103 _ A6.out).mono ?_); rintro e w' ⟨rfl, ⟨nd, rfl⟩⟩; refine ⟨_, rfl, ?_⟩) | (go_at_call 16; (with_reducible refine (fold_Fold.calls k1 (wrap32 ((wrap32 (a0)) + (wrap32 (x4_1)))) t104 _ A9.out).mono ?_); rintro e w20 ⟨rfl, hb⟩; have n0_ := Aside0.mk (below_step (by repeat (first | (with_reducible first | exact HB.out | apply below_alloc | apply pw_below_drewN | apply below_drew1) | exact HB.out)) hb); clear HB; have HB := n0_; clear n0_; (try clear hb); (try clear hb2); (try clear hk); (try clear hi)) | (go_at_call 17; (with_reducible refine (manteletref05_Fold.calls k1 (wrap32 ((wrap32 (a0)) + (wrap32 (x4_1)))) t105 _ A10.out).mono ?_); rintro e w' ⟨rfl, ⟨nd, rfl⟩⟩))
            go_ret
            exact ⟨by first | rfl | (simp [errW_none, errW_some] <;> rfl) | (simp [*, errW_none, errW_some] <;> rfl), by repeat (first | (with_reducible first | exact HB.out | apply below_alloc | apply pw_below_drewN | apply below_drew1) | exact HB.out)⟩
      · rw [if_neg c4] at H
        have c4b0 : decide (x4_1 < 700) = false := decide_eq_false c4
        clear c4
        obtain rfl := Option.some.inj H
        go_wp2
        go_ret
        exact ⟨by first | rfl | (simp [errW_none, errW_some] <;> rfl) | (simp [*, errW_none, errW_some] <;> rfl), by repeat (first | (with_reducible first | exact HB.out | apply below_alloc | apply pw_below_drewN | apply below_drew1) | exact HB.out)⟩

/-- THE ONE PURE STATEMENT of manteletlaw05_FoldAll: yours. -/
def manteletlaw05_FoldAll.Pure : Prop := ∀ (a0 : Int), (Lit.int .u16 a0).wf = true → ∃ k, manteletlaw05_FoldAll.f k a0 = some true
theorem manteletlaw05_FoldAll.walk (P : manteletlaw05_FoldAll.Pure) (a0 : Int) (w : World) (w0 : (Lit.int .u16 a0).wf = true) :
    Calls Try.prog 4 #[.int .u16 a0] w fun e w' => e = .returned (.bool true) ∧ Below w.heap.size w w' := by
  obtain ⟨k, h⟩ := P a0 w0
  refine (manteletlaw05_FoldAll.calls k a0 true w h).mono ?_
  rintro e w' ⟨rfl, hd⟩
  exact ⟨rfl, hd⟩

end Go.Proofs.Ythpemcchgebecaa.PFoldAll
